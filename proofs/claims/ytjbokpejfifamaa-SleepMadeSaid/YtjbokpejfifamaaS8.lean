/- Layer 35: the reference's Step. -/
import Derived.Test.YtjbokpejfifamaaS7
namespace Go.Proofs.Ytjbokpejfifamaa
open Go.RowKit Go.Sort
attribute [local go_sem] gcell
set_option linter.unusedVariables false

set_option maxHeartbeats 4000000 in
theorem step16 (c o n l s h last bat tick : Int) (got : Bool) (w : World) (hbw : bat ≤ 9223372036854775807) : Calls Try.prog 16 #[rv c o n l s h, .agg #[.int .i64 last, .int .i64 bat], .int .i64 tick, .bool got] w fun e w' => e = .returned (.agg #[.int .i64 (stepS ⟨c, o, n, l, s, h⟩ last bat tick got).1, .int .i64 (stepS ⟨c, o, n, l, s, h⟩ last bat tick got).2]) ∧ Below w.heap.size w w' := by
  have HC := Lib.hid (fun w => looks29 c o n l s h last tick  w)
  cases hl : lookB ⟨c, o, n, l, s, h⟩ last tick 1048576
  case false =>
    rw [hl] at HC
    rw [stepS_a hl]
    clear hl
    go_enter Try.func16, Try.ntmps16
    go_wp2_with fail
    refine (HC.out _).mono ?_
    rintro e w1 ⟨rfl, hb⟩
    have HT := Lib.hid ((StW.new w c o n l s h last bat).mono hb)
    have q0 := HT.out.s0
    have q1 := HT.out.s1
    have q2 := HT.out.z0
    have q3 := HT.out.z1
    have qf := HT.out.sf
    have qz := HT.out.zf
    clear hb
    go_wp2
    all_goals
      refine bodyPost_ret (v := .agg #[.int .i64 last, .int .i64 bat]) (by simp [results, Try.results16, go_sem, cell_set, *] <;> omega) rfl ⟨rfl, ?_⟩
      exact (by repeat (first | exact HT.out.bb | refine Below.setCell ?_ (by first | omega | (simp; done) | (simp; omega)) _))
  rw [hl] at HC
  by_cases hbat : bat < 0
  case pos =>
    rw [stepS_b hbat]
    clear hl
    go_enter Try.func16, Try.ntmps16
    go_wp2_with fail
    refine (HC.out _).mono ?_
    rintro e w1 ⟨rfl, hb⟩
    have HT := Lib.hid ((StW.new w c o n l s h last bat).mono hb)
    have q0 := HT.out.s0
    have q1 := HT.out.s1
    have q2 := HT.out.z0
    have q3 := HT.out.z1
    have qf := HT.out.sf
    have qz := HT.out.zf
    clear hb
    go_wp2
    all_goals
      refine bodyPost_ret (v := .agg #[.int .i64 last, .int .i64 bat]) (by simp [results, Try.results16, go_sem, cell_set, *] <;> omega) rfl ⟨rfl, ?_⟩
      exact (by repeat (first | exact HT.out.bb | refine Below.setCell ?_ (by first | omega | (simp; done) | (simp; omega)) _))
  have hbd := look_bounds hl
  have htl : last ≤ tick ∧ 0 ≤ tick ∧ tick ≤ 1048576 := by omega
  cases hy : awk ⟨c, o, n, l, s, h⟩ last tick
  case false =>
    rw [stepS_c hl hbat hy]
    have HY := Lib.hid hy
    clear hl hy hbd
    go_enter Try.func16, Try.ntmps16
    go_wp2_with fail
    refine (HC.out _).mono ?_
    rintro e w1 ⟨rfl, hb⟩
    have HT := Lib.hid ((StW.new w c o n l s h last bat).mono hb)
    have q0 := HT.out.s0
    have q1 := HT.out.s1
    have q2 := HT.out.z0
    have q3 := HT.out.z1
    have qf := HT.out.sf
    have qz := HT.out.zf
    clear hb
    have r0 := HT.out.r.r0
    have r1 := HT.out.r.r1
    have r2 := HT.out.r.r2
    have r3 := HT.out.r.r3
    have r4 := HT.out.r.r4
    have r5 := HT.out.r.r5
    go_wp2_with fail
    refine (awake26 c o n l s h last tick _).mono ?_
    rw [HY.out]
    rintro e w2 ⟨rfl, hb⟩
    replace HT := Lib.hid (HT.out.mono hb)
    replace q0 := HT.out.s0
    replace q1 := HT.out.s1
    replace q2 := HT.out.z0
    replace q3 := HT.out.z1
    replace qf := HT.out.sf
    replace qz := HT.out.zf
    clear hb r0 r1 r2 r3 r4 r5
    go_wp2
    all_goals
      refine bodyPost_ret (v := .agg #[.int .i64 last, .int .i64 (max (bat - 1) 0)]) (by simp [results, Try.results16, go_sem, cell_set, *] <;> omega) rfl ⟨rfl, ?_⟩
      exact (by repeat (first | exact HT.out.bb | refine Below.setCell ?_ (by first | omega | (simp; done) | (simp; omega)) _))
  cases got
  case false =>
    rw [stepS_d hl hbat hy]
    have HY := Lib.hid hy
    clear hl hy hbd
    go_enter Try.func16, Try.ntmps16
    go_wp2_with fail
    refine (HC.out _).mono ?_
    rintro e w1 ⟨rfl, hb⟩
    have HT := Lib.hid ((StW.new w c o n l s h last bat).mono hb)
    have q0 := HT.out.s0
    have q1 := HT.out.s1
    have q2 := HT.out.z0
    have q3 := HT.out.z1
    have qf := HT.out.sf
    have qz := HT.out.zf
    clear hb
    have r0 := HT.out.r.r0
    have r1 := HT.out.r.r1
    have r2 := HT.out.r.r2
    have r3 := HT.out.r.r3
    have r4 := HT.out.r.r4
    have r5 := HT.out.r.r5
    go_wp2_with fail
    refine (awake26 c o n l s h last tick _).mono ?_
    rw [HY.out]
    rintro e w2 ⟨rfl, hb⟩
    replace HT := Lib.hid (HT.out.mono hb)
    replace q0 := HT.out.s0
    replace q1 := HT.out.s1
    replace q2 := HT.out.z0
    replace q3 := HT.out.z1
    replace qf := HT.out.sf
    replace qz := HT.out.zf
    clear hb r0 r1 r2 r3 r4 r5
    go_wp2
    all_goals
      refine bodyPost_ret (v := .agg #[.int .i64 last, .int .i64 (max (bat - 10) 0)]) (by simp [results, Try.results16, go_sem, cell_set, *] <;> omega) rfl ⟨rfl, ?_⟩
      exact (by repeat (first | exact HT.out.bb | refine Below.setCell ?_ (by first | omega | (simp; done) | (simp; omega)) _))
  case true =>
    rw [stepS_e hl hbat hy]
    have HY := Lib.hid hy
    clear hl hy hbd
    go_enter Try.func16, Try.ntmps16
    go_wp2_with fail
    refine (HC.out _).mono ?_
    rintro e w1 ⟨rfl, hb⟩
    have HT := Lib.hid ((StW.new w c o n l s h last bat).mono hb)
    have q0 := HT.out.s0
    have q1 := HT.out.s1
    have q2 := HT.out.z0
    have q3 := HT.out.z1
    have qf := HT.out.sf
    have qz := HT.out.zf
    clear hb
    have r0 := HT.out.r.r0
    have r1 := HT.out.r.r1
    have r2 := HT.out.r.r2
    have r3 := HT.out.r.r3
    have r4 := HT.out.r.r4
    have r5 := HT.out.r.r5
    go_wp2_with fail
    refine (awake26 c o n l s h last tick _).mono ?_
    rw [HY.out]
    rintro e w2 ⟨rfl, hb⟩
    replace HT := Lib.hid (HT.out.mono hb)
    replace q0 := HT.out.s0
    replace q1 := HT.out.s1
    replace q2 := HT.out.z0
    replace q3 := HT.out.z1
    replace qf := HT.out.sf
    replace qz := HT.out.zf
    clear hb r0 r1 r2 r3 r4 r5
    go_wp2
    all_goals
      refine bodyPost_ret (v := .agg #[.int .i64 tick, .int .i64 (max (bat - 10) 0)]) (by simp [results, Try.results16, go_sem, cell_set, *] <;> omega) rfl ⟨rfl, ?_⟩
      exact (by repeat (first | exact HT.out.bb | refine Below.setCell ?_ (by first | omega | (simp; done) | (simp; omega)) _))
end Go.Proofs.Ytjbokpejfifamaa
