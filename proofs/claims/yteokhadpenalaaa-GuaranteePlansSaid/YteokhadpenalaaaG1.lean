/- Layer 33: windows. -/
import Derived.Test.YteokhadpenalaaaG0
namespace Go.Proofs.Yteokhadpenalaaa
set_option linter.unusedVariables false
set_option linter.unusedSimpArgs false
open Go.RowKit Go.Sort
attribute [local go_sem] gcell

/-- The window of a tick. -/
def win (F W B t : Int) : Int × Int := if vg F W B = true ∧ F ≤ t ∧ t ≤ 1048576 then (rel F W t, rel F W t + W) else (0, 0)
theorem rel_mod {F W t : Int} (hW : 1 ≤ W) : t - (t - F) % W = rel F W t := by
  have h1 := Int.emod_def (t - F) W
  rw [Int.mul_comm] at h1
  unfold rel
  omega
theorem ret_two {a b c d : Int} (h : a = c) (k : b = d) : Ending.returned (.tuple #[.int .i64 a, .int .i64 b]) = .returned (.tuple #[.int .i64 c, .int .i64 d]) := by rw [h, k]

set_option maxHeartbeats 1000000 in
theorem window17 (F W B t : Int) (w : World) : Calls Try.prog 17 #[gvv F W B, .int .i64 t] w fun e w' => e = .returned (.tuple #[.int .i64 (win F W B t).1, .int .i64 (win F W B t).2]) ∧ Below w.heap.size w w' := by
  have K := Lib.hid (right30 F W B)
  have HA := Lib.hid ((Below.refl _ w).alloc (Nat.le_refl _) (.cells #[.int .i64 F, .int .i64 W, .int .i64 B] 39))
  unfold gvv at *
  have c0 : (w.alloc (.cells #[.int .i64 F, .int .i64 W, .int .i64 B] 39)).cell? ⟨w.heap.size, 0, none⟩ = some (.int .i64 F) := by simp [go_sem]
  have c1 : (w.alloc (.cells #[.int .i64 F, .int .i64 W, .int .i64 B] 39)).cell? ⟨w.heap.size, 1, none⟩ = some (.int .i64 W) := by simp [go_sem]
  have C0 := Lib.hid c0
  have C1 := Lib.hid c1
  clear c0 c1
  by_cases h : vg F W B = true ∧ F ≤ t ∧ t ≤ 1048576
  · obtain ⟨hv, h1, h2⟩ := h
    have hb := vg_true hv
    have hw : win F W B t = (rel F W t, rel F W t + W) := if_pos ⟨hv, h1, h2⟩
    rw [hw, ← rel_mod (by omega)]
    have m1 := Int.emod_nonneg (t - F) (show W ≠ 0 by omega)
    have m2 := Int.emod_lt_of_pos (t - F) (show 0 < W by omega)
    have nz : (W == 0) = false := beq_eq_false_iff_ne.2 (by omega)
    have n1 : (W == -1) = false := beq_eq_false_iff_ne.2 (by omega)
    rw [hv] at K
    clear hw hv
    go_enter Try.func17, Try.ntmps17
    go_wp2_with (go_at_call 30; refine (K.out _).mono ?_)
    rintro e w1 ⟨rfl, hb1⟩
    have HB := Lib.hid (bthen HA.out hb1 HA.out.size)
    have c0 := up hb1 C0.out
    have c1 := up hb1 C1.out
    clear hb1
    go_wp2_with fail
    have e1 : IntKind.i64.wrap (t - (t - F) % W + W) = t - (t - F) % W + W := IntWalk.i64_in _ (by omega)
    go_quiet (fail)
    go_wp2
    go_ret2
    exact ⟨rfl, below_drewN HB.out _⟩
  · have hw : win F W B t = (0, 0) := if_neg h
    rw [hw]
    clear hw
    cases hv : vg F W B
    · rw [hv] at K
      clear h hv
      go_enter Try.func17, Try.ntmps17
      go_wp2_with (go_at_call 30; refine (K.out _).mono ?_)
      rintro e w1 ⟨rfl, hb1⟩
      have HB := Lib.hid (bthen HA.out hb1 HA.out.size)
      clear hb1
      go_wp2
      go_ret2
      exact ⟨rfl, HB.out⟩
    · rw [hv] at K h
      have hor : t < F ∨ 1048576 < t := by
        by_cases c : t < F
        · exact .inl c
        · exact .inr (by by_cases c2 : t ≤ 1048576; exact absurd ⟨rfl, by omega, c2⟩ h; omega)
      clear h hv
      rcases hor with h | h
      · go_enter Try.func17, Try.ntmps17
        go_wp2_with (go_at_call 30; refine (K.out _).mono ?_)
        rintro e w1 ⟨rfl, hb1⟩
        have HB := Lib.hid (bthen HA.out hb1 HA.out.size)
        have c0 := up hb1 C0.out
        clear hb1
        go_wp2
        go_ret2
        exact ⟨rfl, HB.out⟩
      · go_enter Try.func17, Try.ntmps17
        go_wp2_with (go_at_call 30; refine (K.out _).mono ?_)
        rintro e w1 ⟨rfl, hb1⟩
        have HB := Lib.hid (bthen HA.out hb1 HA.out.size)
        have c0 := up hb1 C0.out
        clear hb1
        go_wp2
        all_goals
          go_ret2
          exact ⟨rfl, HB.out⟩
set_option maxHeartbeats 1000000 in
theorem window22 (F W B t : Int) (w : World) : Calls Try.prog 22 #[gvv F W B, .int .i64 t] w fun e w' => e = .returned (.tuple #[.int .i64 (win F W B t).1, .int .i64 (win F W B t).2]) ∧ Below w.heap.size w w' := by
  have K := Lib.hid (valid32 F W B)
  have HA := Lib.hid ((Below.refl _ w).alloc (Nat.le_refl _) (.cells #[.int .i64 F, .int .i64 W, .int .i64 B] 39))
  unfold gvv at *
  have c0 : (w.alloc (.cells #[.int .i64 F, .int .i64 W, .int .i64 B] 39)).cell? ⟨w.heap.size, 0, none⟩ = some (.int .i64 F) := by simp [go_sem]
  have c1 : (w.alloc (.cells #[.int .i64 F, .int .i64 W, .int .i64 B] 39)).cell? ⟨w.heap.size, 1, none⟩ = some (.int .i64 W) := by simp [go_sem]
  have C0 := Lib.hid c0
  have C1 := Lib.hid c1
  clear c0 c1
  by_cases h : vg F W B = true ∧ F ≤ t ∧ t ≤ 1048576
  · obtain ⟨hv, h1, h2⟩ := h
    have hb := vg_true hv
    have hw : win F W B t = (rel F W t, rel F W t + W) := if_pos ⟨hv, h1, h2⟩
    have hbd := rel_bd (F := F) t (show 1 ≤ W by omega)
    have hq : 0 ≤ (t - F) / W := Int.ediv_nonneg (by omega) (by omega)
    have hq2 : (t - F) / W ≤ t - F := Int.ediv_le_self _ (by omega)
    have hqw : 0 ≤ (t - F) / W * W := Int.mul_nonneg hq (by omega)
    rw [hw]
    unfold rel at *
    have t1 : (t - F).tdiv W = (t - F) / W := Int.tdiv_eq_ediv_of_nonneg (by omega)
    have nz : (W == 0) = false := beq_eq_false_iff_ne.2 (by omega)
    have n1 : (W == -1) = false := beq_eq_false_iff_ne.2 (by omega)
    rw [hv] at K
    clear hw hv
    go_enter Try.func22, Try.ntmps22
    go_wp2_with (go_at_call 32; refine (K.out _).mono ?_)
    rintro e w1 ⟨rfl, hb1⟩
    have HB := Lib.hid (bthen HA.out hb1 HA.out.size)
    have c0 := up hb1 C0.out
    have c1 := up hb1 C1.out
    clear hb1
    go_wp2_with fail
    have e1 : IntKind.i64.wrap (t - F) = t - F := IntWalk.i64_in _ (by omega)
    have e2 : IntKind.i64.wrap ((t - F) / W) = (t - F) / W := IntWalk.i64_in _ (by omega)
    have e3 : IntKind.i64.wrap ((t - F) / W * W) = (t - F) / W * W := IntWalk.i64_in _ (by omega)
    have e4 : IntKind.i64.wrap (F + (t - F) / W * W) = F + (t - F) / W * W := IntWalk.i64_in _ (by omega)
    have e5 : IntKind.i64.wrap (F + (t - F) / W * W + W) = F + (t - F) / W * W + W := IntWalk.i64_in _ (by omega)
    go_quiet (fail)
    go_wp2_with fail
    go_quiet (fail)
    go_wp2
    go_ret2
    exact ⟨rfl, below_drewN (below_drewN HB.out _) _⟩
  · have hw : win F W B t = (0, 0) := if_neg h
    rw [hw]
    clear hw
    cases hv : vg F W B
    · rw [hv] at K
      clear h hv
      go_enter Try.func22, Try.ntmps22
      go_wp2_with (go_at_call 32; refine (K.out _).mono ?_)
      rintro e w1 ⟨rfl, hb1⟩
      have HB := Lib.hid (bthen HA.out hb1 HA.out.size)
      clear hb1
      go_wp2
      go_ret2
      exact ⟨rfl, HB.out⟩
    · rw [hv] at K h
      have hor : t < F ∨ 1048576 < t := by
        by_cases c : t < F
        · exact .inl c
        · exact .inr (by by_cases c2 : t ≤ 1048576; exact absurd ⟨rfl, by omega, c2⟩ h; omega)
      clear h hv
      rcases hor with h | h
      · go_enter Try.func22, Try.ntmps22
        go_wp2_with (go_at_call 32; refine (K.out _).mono ?_)
        rintro e w1 ⟨rfl, hb1⟩
        have HB := Lib.hid (bthen HA.out hb1 HA.out.size)
        have c0 := up hb1 C0.out
        clear hb1
        go_wp2
        go_ret2
        exact ⟨rfl, HB.out⟩
      · go_enter Try.func22, Try.ntmps22
        go_wp2_with (go_at_call 32; refine (K.out _).mono ?_)
        rintro e w1 ⟨rfl, hb1⟩
        have HB := Lib.hid (bthen HA.out hb1 HA.out.size)
        have c0 := up hb1 C0.out
        clear hb1
        go_wp2
        all_goals
          go_ret2
          exact ⟨rfl, HB.out⟩
end Go.Proofs.Yteokhadpenalaaa
