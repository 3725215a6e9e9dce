/- Layer 35: Step. -/
import Derived.Test.YtjbokpejfifamaaS6
namespace Go.Proofs.Ytjbokpejfifamaa
open Go.RowKit Go.Sort
attribute [local go_sem] gcell
set_option linter.unusedVariables false

theorem stepS_a {r : Rh} {last bat tick : Int} {got : Bool} (h : lookB r last tick 1048576 = false) : stepS r last bat tick got = (last, bat) := by unfold stepS; rw [h]; rfl
theorem stepS_b {r : Rh} {last bat tick : Int} {got : Bool} (h : bat < 0) : stepS r last bat tick got = (last, bat) := by
  unfold stepS; rw [if_neg]; simp; intro _; omega
theorem stepS_c {r : Rh} {last bat tick : Int} {got : Bool} (h : lookB r last tick 1048576 = true) (h2 : ¬ bat < 0) (h3 : awk r last tick = false) : stepS r last bat tick got = (last, max (bat - 1) 0) := by
  unfold stepS; rw [if_pos (by simp [h]; omega), h3]; rfl
theorem stepS_d {r : Rh} {last bat tick : Int} (h : lookB r last tick 1048576 = true) (h2 : ¬ bat < 0) (h3 : awk r last tick = true) : stepS r last bat tick false = (last, max (bat - 10) 0) := by
  unfold stepS; rw [if_pos (by simp [h]; omega), h3]; rfl
theorem stepS_e {r : Rh} {last bat tick : Int} (h : lookB r last tick 1048576 = true) (h2 : ¬ bat < 0) (h3 : awk r last tick = true) : stepS r last bat tick true = (tick, max (bat - 10) 0) := by
  unfold stepS; rw [if_pos (by simp [h]; omega), h3]; rfl

/-- The three boxes of Step: the rhythm, the state, the result. -/
structure StW (w wr : World) (c o n l s h last bat : Int) : Prop where
  r : Rbox wr w.heap.size c o n l s h
  s0 : wr.cell? ⟨w.heap.size + 1, 0, none⟩ = some (.int .i64 last)
  s1 : wr.cell? ⟨w.heap.size + 1, 1, none⟩ = some (.int .i64 bat)
  sf : ∀ o, wr.frozen? ⟨w.heap.size + 1, o, none⟩ = false
  z0 : wr.cell? ⟨w.heap.size + 2, 0, none⟩ = some (.int .i64 0)
  z1 : wr.cell? ⟨w.heap.size + 2, 1, none⟩ = some (.int .i64 0)
  zf : ∀ o, wr.frozen? ⟨w.heap.size + 2, o, none⟩ = false
  bb : Below w.heap.size w wr
theorem StW.mono {w wr w' : World} {c o n l s h last bat : Int} (T : StW w wr c o n l s h last bat) (hb : Below wr.heap.size wr w') : StW w w' c o n l s h last bat :=
  ⟨T.r.mono hb, up hb T.s0, up hb T.s1, fun o => upf hb (lt_of_cell T.s0) (T.sf o), up hb T.z0, up hb T.z1, fun o => upf hb (lt_of_cell T.z0) (T.zf o), bthen T.bb hb T.bb.size⟩
theorem StW.new (w : World) (c o n l s h last bat : Int) : StW w (((w.alloc (.cells #[.int .i64 c, .int .i64 o, .int .i64 n, .int .i64 l, .int .i64 s, .int .i64 h] 27)).alloc (.cells #[.int .i64 last, .int .i64 bat] 36)).alloc (.cells #[.int .i64 0, .int .i64 0] 36)) c o n l s h last bat :=
  have hb : Below (w.alloc (.cells #[.int .i64 c, .int .i64 o, .int .i64 n, .int .i64 l, .int .i64 s, .int .i64 h] 27)).heap.size (w.alloc (.cells #[.int .i64 c, .int .i64 o, .int .i64 n, .int .i64 l, .int .i64 s, .int .i64 h] 27)) (((w.alloc (.cells #[.int .i64 c, .int .i64 o, .int .i64 n, .int .i64 l, .int .i64 s, .int .i64 h] 27)).alloc (.cells #[.int .i64 last, .int .i64 bat] 36)).alloc (.cells #[.int .i64 0, .int .i64 0] 36)) :=
    ((Below.refl _ _).alloc (Nat.le_refl _) _).alloc (by simp) _
  ⟨(Rbox.new w c o n l s h 27).mono hb, by simp [go_sem], by simp [go_sem], fun o => by simp [go_sem], by simp [go_sem], by simp [go_sem], fun o => by simp [go_sem], (((Below.refl _ _).alloc (Nat.le_refl _) _).alloc (by simp) _).alloc (by simp; omega) _⟩

set_option maxHeartbeats 4000000 in
theorem step17 (c o n l s h last bat tick : Int) (got : Bool) (w : World) (hbw : bat ≤ 9223372036854775807) : Calls Try.prog 17 #[rv c o n l s h, .agg #[.int .i64 last, .int .i64 bat], .int .i64 tick, .bool got] w fun e w' => e = .returned (.agg #[.int .i64 (stepS ⟨c, o, n, l, s, h⟩ last bat tick got).1, .int .i64 (stepS ⟨c, o, n, l, s, h⟩ last bat tick got).2]) ∧ Below w.heap.size w w' := by
  have HC := Lib.hid (fun w => looked19 c o n l s h last tick 1048576 w)
  cases hl : lookB ⟨c, o, n, l, s, h⟩ last tick 1048576
  case false =>
    rw [hl] at HC
    rw [stepS_a hl]
    clear hl
    go_enter Try.func17, Try.ntmps17
    go_wp2_with fail
    refine (HC.out _).mono ?_
    rintro e w1 ⟨rfl, hb⟩
    have HT := Lib.hid ((StW.new w c o n l s h last bat).mono hb)
    have q0 := HT.out.s0
    have q1 := HT.out.s1
    have q2 := HT.out.z0
    have q3 := HT.out.z1
    have qf := HT.out.sf
    have qz := HT.out.zf
    clear hb
    go_wp2
    all_goals
      refine bodyPost_ret (v := .agg #[.int .i64 last, .int .i64 bat]) (by simp [results, Try.results17, go_sem, cell_set, *] <;> omega) rfl ⟨rfl, ?_⟩
      exact (by repeat (first | exact HT.out.bb | refine Below.setCell ?_ (by first | omega | (simp; done) | (simp; omega)) _))
  rw [hl] at HC
  by_cases hbat : bat < 0
  case pos =>
    rw [stepS_b hbat]
    clear hl
    go_enter Try.func17, Try.ntmps17
    go_wp2_with fail
    refine (HC.out _).mono ?_
    rintro e w1 ⟨rfl, hb⟩
    have HT := Lib.hid ((StW.new w c o n l s h last bat).mono hb)
    have q0 := HT.out.s0
    have q1 := HT.out.s1
    have q2 := HT.out.z0
    have q3 := HT.out.z1
    have qf := HT.out.sf
    have qz := HT.out.zf
    clear hb
    go_wp2
    all_goals
      refine bodyPost_ret (v := .agg #[.int .i64 last, .int .i64 bat]) (by simp [results, Try.results17, go_sem, cell_set, *] <;> omega) rfl ⟨rfl, ?_⟩
      exact (by repeat (first | exact HT.out.bb | refine Below.setCell ?_ (by first | omega | (simp; done) | (simp; omega)) _))
  have hbd := look_bounds hl
  have htl : last ≤ tick ∧ 0 ≤ tick ∧ tick ≤ 1048576 := by omega
  cases hy : awk ⟨c, o, n, l, s, h⟩ last tick
  case false =>
    rw [stepS_c hl hbat hy]
    have HY := Lib.hid hy
    clear hl hy hbd
    go_enter Try.func17, Try.ntmps17
    go_wp2_with fail
    refine (HC.out _).mono ?_
    rintro e w1 ⟨rfl, hb⟩
    have HT := Lib.hid ((StW.new w c o n l s h last bat).mono hb)
    have q0 := HT.out.s0
    have q1 := HT.out.s1
    have q2 := HT.out.z0
    have q3 := HT.out.z1
    have qf := HT.out.sf
    have qz := HT.out.zf
    clear hb
    have r0 := HT.out.r.r0
    have r1 := HT.out.r.r1
    have r2 := HT.out.r.r2
    have r3 := HT.out.r.r3
    have r4 := HT.out.r.r4
    have r5 := HT.out.r.r5
    go_wp2_with fail
    refine (awake13 c o n l s h last tick _).mono ?_
    rw [HY.out]
    rintro e w2 ⟨rfl, hb⟩
    replace HT := Lib.hid (HT.out.mono hb)
    replace q0 := HT.out.s0
    replace q1 := HT.out.s1
    replace q2 := HT.out.z0
    replace q3 := HT.out.z1
    replace qf := HT.out.sf
    replace qz := HT.out.zf
    clear hb r0 r1 r2 r3 r4 r5
    go_wp2
    all_goals
      refine bodyPost_ret (v := .agg #[.int .i64 last, .int .i64 (max (bat - 1) 0)]) (by simp [results, Try.results17, go_sem, cell_set, *] <;> omega) rfl ⟨rfl, ?_⟩
      exact (by repeat (first | exact HT.out.bb | refine Below.setCell ?_ (by first | omega | (simp; done) | (simp; omega)) _))
  cases got
  case false =>
    rw [stepS_d hl hbat hy]
    have HY := Lib.hid hy
    clear hl hy hbd
    go_enter Try.func17, Try.ntmps17
    go_wp2_with fail
    refine (HC.out _).mono ?_
    rintro e w1 ⟨rfl, hb⟩
    have HT := Lib.hid ((StW.new w c o n l s h last bat).mono hb)
    have q0 := HT.out.s0
    have q1 := HT.out.s1
    have q2 := HT.out.z0
    have q3 := HT.out.z1
    have qf := HT.out.sf
    have qz := HT.out.zf
    clear hb
    have r0 := HT.out.r.r0
    have r1 := HT.out.r.r1
    have r2 := HT.out.r.r2
    have r3 := HT.out.r.r3
    have r4 := HT.out.r.r4
    have r5 := HT.out.r.r5
    go_wp2_with fail
    refine (awake13 c o n l s h last tick _).mono ?_
    rw [HY.out]
    rintro e w2 ⟨rfl, hb⟩
    replace HT := Lib.hid (HT.out.mono hb)
    replace q0 := HT.out.s0
    replace q1 := HT.out.s1
    replace q2 := HT.out.z0
    replace q3 := HT.out.z1
    replace qf := HT.out.sf
    replace qz := HT.out.zf
    clear hb r0 r1 r2 r3 r4 r5
    go_wp2
    all_goals
      refine bodyPost_ret (v := .agg #[.int .i64 last, .int .i64 (max (bat - 10) 0)]) (by simp [results, Try.results17, go_sem, cell_set, *] <;> omega) rfl ⟨rfl, ?_⟩
      exact (by repeat (first | exact HT.out.bb | refine Below.setCell ?_ (by first | omega | (simp; done) | (simp; omega)) _))
  case true =>
    rw [stepS_e hl hbat hy]
    have HY := Lib.hid hy
    clear hl hy hbd
    go_enter Try.func17, Try.ntmps17
    go_wp2_with fail
    refine (HC.out _).mono ?_
    rintro e w1 ⟨rfl, hb⟩
    have HT := Lib.hid ((StW.new w c o n l s h last bat).mono hb)
    have q0 := HT.out.s0
    have q1 := HT.out.s1
    have q2 := HT.out.z0
    have q3 := HT.out.z1
    have qf := HT.out.sf
    have qz := HT.out.zf
    clear hb
    have r0 := HT.out.r.r0
    have r1 := HT.out.r.r1
    have r2 := HT.out.r.r2
    have r3 := HT.out.r.r3
    have r4 := HT.out.r.r4
    have r5 := HT.out.r.r5
    go_wp2_with fail
    refine (awake13 c o n l s h last tick _).mono ?_
    rw [HY.out]
    rintro e w2 ⟨rfl, hb⟩
    replace HT := Lib.hid (HT.out.mono hb)
    replace q0 := HT.out.s0
    replace q1 := HT.out.s1
    replace q2 := HT.out.z0
    replace q3 := HT.out.z1
    replace qf := HT.out.sf
    replace qz := HT.out.zf
    clear hb r0 r1 r2 r3 r4 r5
    go_wp2
    all_goals
      refine bodyPost_ret (v := .agg #[.int .i64 tick, .int .i64 (max (bat - 10) 0)]) (by simp [results, Try.results17, go_sem, cell_set, *] <;> omega) rfl ⟨rfl, ?_⟩
      exact (by repeat (first | exact HT.out.bb | refine Below.setCell ?_ (by first | omega | (simp; done) | (simp; omega)) _))
end Go.Proofs.Ytjbokpejfifamaa
