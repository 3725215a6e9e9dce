/- How many windows lie between two ticks, in closed form, and by a walk from window to window. Plain facts. -/
import Derived.Test.YteokhadpenalaaaEdf
namespace Go.Proofs.Yteokhadpenalaaa
set_option linter.unusedVariables false
set_option linter.unusedSimpArgs false

/-- The beginning of the first window at or behind tick a. -/
def fstW (F W a : Int) : Int := if F < a then F + (a - F + W - 1) / W * W else F
theorem fstW_form {F W a : Int} (hW : 1 ≤ W) : ∃ m : Int, 0 ≤ m ∧ fstW F W a = F + m * W ∧ a ≤ fstW F W a ∧ ∀ q : Int, 0 ≤ q → a ≤ F + q * W → fstW F W a ≤ F + q * W := by
  unfold fstW
  by_cases h : F < a
  · rw [if_pos h]
    have h1 := Int.emod_def (a - F + W - 1) W
    have h2 := Int.emod_nonneg (a - F + W - 1) (show W ≠ 0 by omega)
    have h3 := Int.emod_lt_of_pos (a - F + W - 1) (show 0 < W by omega)
    rw [Int.mul_comm] at h1
    refine ⟨(a - F + W - 1) / W, Int.ediv_nonneg (by omega) (by omega), rfl, by omega, fun q hq ha => ?_⟩
    have h4 : (a - F + W - 1) / W * W < (q + 1) * W := by rw [Int.add_mul]; omega
    have h5 := Int.lt_of_mul_lt_mul_right h4 (by omega)
    have h6 : (a - F + W - 1) / W * W ≤ q * W := Int.mul_le_mul_of_nonneg_right (by omega) (by omega)
    omega
  · rw [if_neg h]
    refine ⟨0, Int.le_refl _, by omega, by omega, fun q hq ha => ?_⟩
    have := Int.mul_nonneg hq (show 0 ≤ W by omega)
    omega
theorem cntR_closed {F W : Int} (hF : 0 ≤ F) (hW : 1 ≤ W) (a : Nat) : ∀ b : Nat, cntR F W a b = max ((b : Int) - fstW F W a) 0 / W
  | 0 => by
    obtain ⟨m, h1, h2, h3, _⟩ := fstW_form (F := F) (a := (a : Int)) hW
    have := Int.mul_nonneg h1 (show 0 ≤ W by omega)
    rw [Int.max_eq_right (by omega)]
    simp [cntR]
  | b + 1 => by
    have ih := cntR_closed hF hW a b
    obtain ⟨m, h1, h2, h3, h4⟩ := fstW_form (F := F) (a := (a : Int)) hW
    have hmW := Int.mul_nonneg h1 (show 0 ≤ W by omega)
    unfold cntR
    rw [ih]
    generalize fstW F W a = f at *
    by_cases c : ((b + 1 : Nat) : Int) ≤ f
    · rw [Int.max_eq_right (by omega), Int.max_eq_right (by omega), if_neg]
      · simp
      · rintro ⟨c1, c2, c3⟩
        have hb := (rel_bd (F := F) (b : Int) hW).1
        have := h4 ((b - F) / W) (Int.ediv_nonneg (by omega) (by omega)) c3
        unfold rel at hb
        omega
    · rw [Int.max_eq_left (by omega), Int.max_eq_left (by omega)]
      obtain ⟨y, hy⟩ : ∃ y : Int, (b : Int) - f = y := ⟨_, rfl⟩
      have hy1 : ((b + 1 : Nat) : Int) - f = y + 1 := by omega
      have hr : rel F W b = f + y / W * W := by
        unfold rel
        have e : (b : Int) - F = y + m * W := by omega
        rw [e, Int.add_mul_ediv_right _ _ (by omega), Int.add_mul]
        omega
      have h5 := Int.emod_def y W
      have h6 := Int.emod_nonneg y (show W ≠ 0 by omega)
      have h7 := Int.emod_lt_of_pos y (show 0 < W by omega)
      rw [Int.mul_comm] at h5
      have h8 : 0 ≤ y / W * W := Int.mul_nonneg (Int.ediv_nonneg (by omega) (by omega)) (by omega)
      rw [hy, hy1, hr]
      by_cases c2 : y / W * W + W = y + 1
      · rw [if_pos ⟨by omega, by omega, by omega⟩]
        exact (div_uniq hW (by rw [Int.add_mul]; omega) (by rw [Int.add_mul]; omega)).symm
      · rw [if_neg (fun h => c2 (by omega)), Int.add_zero]
        exact (div_uniq hW (by omega) (by omega)).symm
theorem cntR_nonneg (F W : Int) (a : Nat) : ∀ b : Nat, 0 ≤ cntR F W a b
  | 0 => Int.le_refl _
  | b + 1 => by
    have := cntR_nonneg F W a b
    unfold cntR
    split <;> omega
/-- What lies in two intervals lies in both together. -/
theorem cntR_two {F W : Int} (hW : 1 ≤ W) {a b : Nat} (hab : a ≤ b) : ∀ k : Nat, cntR F W a b + cntR F W b (b + k) ≤ cntR F W a (b + k)
  | 0 => by rw [Nat.add_zero, cntR_zero hW b b (Nat.le_refl _)]; omega
  | k + 1 => by
    have ih := cntR_two (F := F) hW hab k
    rw [show b + (k + 1) = b + k + 1 from rfl]
    have e1 : cntR F W b (b + k + 1) = cntR F W b (b + k) + if F ≤ ((b + k : Nat) : Int) ∧ rel F W ((b + k : Nat) : Int) + W = ((b + k : Nat) : Int) + 1 ∧ (b : Int) ≤ rel F W ((b + k : Nat) : Int) then 1 else 0 := rfl
    have e2 : cntR F W a (b + k + 1) = cntR F W a (b + k) + if F ≤ ((b + k : Nat) : Int) ∧ rel F W ((b + k : Nat) : Int) + W = ((b + k : Nat) : Int) + 1 ∧ (a : Int) ≤ rel F W ((b + k : Nat) : Int) then 1 else 0 := rfl
    rw [e1, e2]
    by_cases c : F ≤ ((b + k : Nat) : Int) ∧ rel F W ((b + k : Nat) : Int) + W = ((b + k : Nat) : Int) + 1 ∧ (b : Int) ≤ rel F W ((b + k : Nat) : Int)
    · rw [if_pos c, if_pos ⟨c.1, c.2.1, by omega⟩]
      omega
    · rw [if_neg c]
      split <;> omega
end Go.Proofs.Yteokhadpenalaaa
