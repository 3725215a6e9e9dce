/- Layer 35: Next, Cost, Step. -/
import Derived.Test.YtjbokpejfifamaaS3
import Derived.Test.YtjbokpejfifamaaS4
namespace Go.Proofs.Ytjbokpejfifamaa
open Go.RowKit Go.Sort
attribute [local go_sem] gcell
set_option linter.unusedVariables false

/-- A rhythm in a box. -/
structure Rbox (w : World) (b : Nat) (c o n l s h : Int) : Prop where
  r0 : w.cell? ⟨b, 0, none⟩ = some (.int .i64 c)
  r1 : w.cell? ⟨b, 1, none⟩ = some (.int .i64 o)
  r2 : w.cell? ⟨b, 2, none⟩ = some (.int .i64 n)
  r3 : w.cell? ⟨b, 3, none⟩ = some (.int .i64 l)
  r4 : w.cell? ⟨b, 4, none⟩ = some (.int .i64 s)
  r5 : w.cell? ⟨b, 5, none⟩ = some (.int .i64 h)
theorem Rbox.mono {w w' : World} {b : Nat} {c o n l s h : Int} (R : Rbox w b c o n l s h) (hb : Below w.heap.size w w') : Rbox w' b c o n l s h :=
  ⟨up hb R.r0, up hb R.r1, up hb R.r2, up hb R.r3, up hb R.r4, up hb R.r5⟩
theorem Rbox.new (w : World) (c o n l s h : Int) (t : TypeId) : Rbox (w.alloc (.cells #[.int .i64 c, .int .i64 o, .int .i64 n, .int .i64 l, .int .i64 s, .int .i64 h] t)) w.heap.size c o n l s h :=
  ⟨by simp, by simp, by simp, by simp, by simp, by simp⟩

def nextV (r : Rh) (last tick : Int) : Int × Bool := if lookB r last tick 1048320 then (next r last tick, true) else (0, false)
theorem nextV_no {r : Rh} {last tick : Int} (h : lookB r last tick 1048320 = false) : nextV r last tick = (0, false) := by unfold nextV; rw [h]; rfl
theorem nextV_yes {r : Rh} {last tick : Int} (h : lookB r last tick 1048320 = true) : nextV r last tick = (next r last tick, true) := by unfold nextV; rw [h]; rfl

/-- After k steps without listening. -/
theorem next_at {r : Rh} {last tick : Int} (h : lookB r last tick 1048320 = true) (k : Nat) (hk : ∀ i : Nat, i < k → awk r last (tick + i) = false) : (k : Int) < r.c ∧ (awk r last (tick + k) = true → next r last tick = tick + k) := by
  obtain ⟨h1, h2, h3, h4⟩ := next_spec h
  have hle : tick + k ≤ next r last tick := by
    refine Classical.byContradiction fun hn => ?_
    have := hk (next r last tick - tick).toNat (by omega)
    rw [show tick + ((next r last tick - tick).toNat : Int) = next r last tick by omega, h1] at this
    cases this
  refine ⟨by omega, fun ha => ?_⟩
  refine Classical.byContradiction fun hn => ?_
  have := h4 (tick + k) (by omega) (by omega)
  rw [ha] at this
  cases this

set_option maxHeartbeats 4000000 in
theorem next12 (c o n l s h last tick : Int) (w : World) : Calls Try.prog 12 #[rv c o n l s h, .int .i64 last, .int .i64 tick] w fun e w' => e = .returned (.tuple #[.int .i64 (nextV ⟨c, o, n, l, s, h⟩ last tick).1, .bool (nextV ⟨c, o, n, l, s, h⟩ last tick).2]) ∧ Below w.heap.size w w' := by
  have HC := Lib.hid (fun w => looked19 c o n l s h last tick 1048320 w)
  cases hl : lookB ⟨c, o, n, l, s, h⟩ last tick 1048320
  · rw [hl] at HC
    rw [nextV_no hl]
    clear hl
    go_enter Try.func12, Try.ntmps12
    go_wp2_with (go_at_call 19; refine (HC.out _).mono ?_; rintro e w' ⟨rfl, hb⟩)
    go_ret2
    exact ⟨rfl, bthen ((Below.refl _ _).alloc (Nat.le_refl _) _) hb (by simp)⟩
  · rw [hl] at HC
    rw [nextV_yes hl]
    have HL := Lib.hid hl
    have hc := (okR_iff _).1 ((lookB_iff _ _ _ _).1 hl).1
    have ht := (lookB_iff _ _ _ _).1 hl
    obtain ⟨_, t1, t2, t3, t4⟩ := ht
    have hc2 : c ≤ 256 := hc.2.1
    clear hl hc
    go_enter Try.func12, Try.ntmps12
    go_wp2_with fail
    refine (HC.out _).mono ?_
    rintro e w1 ⟨rfl, hb⟩
    have HR := Lib.hid ((Rbox.new w c o n l s h 27).mono hb)
    have HB := Lib.hid (bthen ((Below.refl w.heap.size w).alloc (Nat.le_refl _) _) hb (by simp))
    clear hb
    go_wp2_with fail
    go_loopw [2] (fun t wr => ∃ k : Nat, t = .int .i64 (tick + k) ∧ (∀ i : Nat, i < k → awk ⟨c, o, n, l, s, h⟩ last (tick + i) = false) ∧ Rbox wr w.heap.size c o n l s h ∧ Below w.heap.size w wr) (fun t _ => 2000000 - (intOf t).toNat)
    case atStart => exact ⟨0, by simp, fun i hi => absurd hi (Nat.not_lt_zero _), HR.out, HB.out⟩
    case round =>
      clear HR HB
      obtain ⟨k, rfl, hk, hR, hB⟩ := hrel
      have hn := next_at HL.out k hk
      have HK := Lib.hid hk
      have HR := Lib.hid hR
      have HB := Lib.hid hB
      have hkc : (k : Int) < c := hn.1
      have HN := Lib.hid hn.2
      have d0 := hR.r0
      have d1 := hR.r1
      have d2 := hR.r2
      have d3 := hR.r3
      have d4 := hR.r4
      have d5 := hR.r5
      clear hk hR hB hn
      cases hy : awk ⟨c, o, n, l, s, h⟩ last (tick + k)
      all_goals
        have HY := Lib.hid hy
        clear hy
        go_wp2_with (go_at_call 13; refine (awake13 c o n l s h last _ _).mono ?_; rw [HY.out]; rintro e w' ⟨rfl, hb⟩)
        first
          | (go_ret2; exact ⟨by rw [HN.out HY.out]; rfl, bthen HB.out hb HB.out.size⟩)
          | (go_roundw
             case rel => exact ⟨k + 1, by go_num, fun i hi => (by
               by_cases h : i = k
               · subst h; exact HY.out
               · exact HK.out i (by omega)), HR.out.mono hb, bthen HB.out hb HB.out.size⟩
             case measure => simp [intOf] <;> omega)

theorem nextV_no2 {r : Rh} {last tick : Int} (h : 1048320 < tick) : nextV r last tick = (0, false) := by
  apply nextV_no
  rw [Bool.eq_false_iff]
  intro h2
  have := (lookB_iff _ _ _ _).1 h2
  omega
theorem look_small {r : Rh} {last tick : Int} (h : ¬ 1048320 < tick) : lookB r last tick 1048576 = lookB r last tick 1048320 := by
  unfold lookB
  congr 2
  apply propext
  omega

set_option maxHeartbeats 4000000 in
theorem next23 (c o n l s h last tick : Int) (w : World) : Calls Try.prog 23 #[rv c o n l s h, .int .i64 last, .int .i64 tick] w fun e w' => e = .returned (.tuple #[.int .i64 (nextV ⟨c, o, n, l, s, h⟩ last tick).1, .bool (nextV ⟨c, o, n, l, s, h⟩ last tick).2]) ∧ Below w.heap.size w w' := by
  have HC := Lib.hid (fun w => looks29 c o n l s h last tick w)
  by_cases hbig : 1048320 < tick
  · rw [nextV_no2 hbig]
    cases hl : lookB ⟨c, o, n, l, s, h⟩ last tick 1048576
    all_goals
      rw [hl] at HC
      clear hl
      go_enter Try.func23, Try.ntmps23
      go_wp2_with (go_at_call 29; refine (HC.out _).mono ?_; rintro e w' ⟨rfl, hb⟩)
      go_ret2
      exact ⟨rfl, bthen ((Below.refl _ _).alloc (Nat.le_refl _) _) hb (by simp)⟩
  rw [look_small hbig] at HC
  cases hl : lookB ⟨c, o, n, l, s, h⟩ last tick 1048320
  · rw [hl] at HC
    rw [nextV_no hl]
    clear hl
    go_enter Try.func23, Try.ntmps23
    go_wp2_with (go_at_call 29; refine (HC.out _).mono ?_; rintro e w' ⟨rfl, hb⟩)
    go_ret2
    exact ⟨rfl, bthen ((Below.refl _ _).alloc (Nat.le_refl _) _) hb (by simp)⟩
  · rw [hl] at HC
    rw [nextV_yes hl]
    have HL := Lib.hid hl
    have hc := (okR_iff _).1 ((lookB_iff _ _ _ _).1 hl).1
    have ht := (lookB_iff _ _ _ _).1 hl
    obtain ⟨_, t1, t2, t3, t4⟩ := ht
    have hc2 : c ≤ 256 := hc.2.1
    clear hl hc
    go_enter Try.func23, Try.ntmps23
    go_wp2_with fail
    refine (HC.out _).mono ?_
    rintro e w1 ⟨rfl, hb⟩
    have HR := Lib.hid ((Rbox.new w c o n l s h 27).mono hb)
    have HB := Lib.hid (bthen ((Below.refl w.heap.size w).alloc (Nat.le_refl _) _) hb (by simp))
    clear hb
    go_wp2_with fail
    go_loopw [2] (fun t wr => ∃ k : Nat, t = .int .i64 (tick + k) ∧ (∀ i : Nat, i < k → awk ⟨c, o, n, l, s, h⟩ last (tick + i) = false) ∧ Rbox wr w.heap.size c o n l s h ∧ Below w.heap.size w wr) (fun t _ => 2000000 - (intOf t).toNat)
    case atStart => exact ⟨0, by simp, fun i hi => absurd hi (Nat.not_lt_zero _), HR.out, HB.out⟩
    case round =>
      clear HR HB
      obtain ⟨k, rfl, hk, hR, hB⟩ := hrel
      have hn := next_at HL.out k hk
      have HK := Lib.hid hk
      have HR := Lib.hid hR
      have HB := Lib.hid hB
      have hkc : (k : Int) < c := hn.1
      have HN := Lib.hid hn.2
      have d0 := hR.r0
      have d1 := hR.r1
      have d2 := hR.r2
      have d3 := hR.r3
      have d4 := hR.r4
      have d5 := hR.r5
      clear hk hR hB hn
      cases hy : awk ⟨c, o, n, l, s, h⟩ last (tick + k)
      all_goals
        have HY := Lib.hid hy
        clear hy
        go_wp2_with (go_at_call 26; refine (awake26 c o n l s h last _ _).mono ?_; rw [HY.out]; rintro e w' ⟨rfl, hb⟩)
        first
          | (go_ret2; exact ⟨by rw [HN.out HY.out]; rfl, bthen HB.out hb HB.out.size⟩)
          | (go_roundw
             case rel => exact ⟨k + 1, by go_num, fun i hi => (by
               by_cases h : i = k
               · subst h; exact HY.out
               · exact HK.out i (by omega)), HR.out.mono hb, bthen HB.out hb HB.out.size⟩
             case measure => simp [intOf] <;> omega)

theorem cost_no {r : Rh} {k : Int} (h : okR r = false) : cost r k = 0 := by unfold cost; rw [h]; rfl
theorem cost_no2 {r : Rh} {k : Int} (h : k < 0 ∨ 256 < k) : cost r k = 0 := by
  unfold cost
  rw [if_neg]
  simp; intro _; omega
theorem cost_yes {r : Rh} {k : Int} (h : okR r = true) (h1 : 0 ≤ k) (h2 : k ≤ 256) : cost r k = k * (r.n * 10 + (r.c - r.n) * 1) := by
  unfold cost
  rw [if_pos]
  simp [h]; omega
theorem cost_bd (k x : Int) (h1 : 0 ≤ k) (h2 : k ≤ 256) (h3 : 0 ≤ x) (h4 : x ≤ 2560) : 0 ≤ k * x ∧ k * x ≤ 655360 := by
  have a := Int.mul_nonneg h1 h3
  have b : k * x ≤ 256 * 2560 := Int.mul_le_mul h2 h4 h3 (by omega)
  omega
end Go.Proofs.Ytjbokpejfifamaa
