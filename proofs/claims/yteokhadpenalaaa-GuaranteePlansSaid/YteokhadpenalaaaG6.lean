/- Layer 33: sums of the reference's Feasible. Plain facts. -/
import Derived.Test.YteokhadpenalaaaG5
import Derived.Test.YteokhadpenalaaaOwn
namespace Go.Proofs.Yteokhadpenalaaa
set_option linter.unusedVariables false
set_option linter.unusedSimpArgs false
open Go.RowKit Go.Sort

/-- Whether a window ends at tick b that began at a or later. -/
def ends (F W : Int) (a : Nat) : Nat → Int
  | 0 => 0
  | b + 1 => if F ≤ b ∧ rel F W b + W = b + 1 ∧ (a : Int) ≤ rel F W b then 1 else 0
theorem cnt_ends (F W : Int) (a b : Nat) : cntR F W a (b + 1) = cntR F W a b + ends F W a (b + 1) := rfl
theorem ends_bd (F W : Int) (a b : Nat) : 0 ≤ ends F W a b ∧ ends F W a b ≤ 1 := by
  cases b with
  | zero => exact ⟨Int.le_refl _, by show (0 : Int) ≤ 1; omega⟩
  | succ b => unfold ends; split <;> omega
/-- What is asked for by tick b, of the first k. -/
def dueK (F W B : Nat → Int) (a b k : Nat) : Int := sumN (fun i => ends (F i) (W i) a b * B i) k
theorem dem_due (n : Nat) (F W B : Nat → Int) (a b : Nat) : dem F W B n a (b + 1) = dem F W B n a b + dueK F W B a (b + 1) n := by
  unfold dem dueK
  rw [← sumN_add]
  exact sumN_congr fun i _ => by rw [cnt_ends, Int.add_mul]
theorem dem_zero (n : Nat) (F W B : Nat → Int) (hW : ∀ i, i < n → 1 ≤ W i) (a b : Nat) (h : b ≤ a) : dem F W B n a b = 0 := by
  unfold dem
  rw [sumN_congr (g := fun _ => 0) fun i hi => by rw [cntR_zero (hW i hi) a b h, Int.zero_mul], sumN_zero]
/-- T is the end of a window that began at a or later. -/
structure End (F W : Int) (a T : Nat) : Prop where
  p : ∃ P : Nat, (T : Int) = P + W ∧ rel F W P = P ∧ F ≤ P ∧ a ≤ P
theorem End.one {F W : Int} {a T : Nat} (hW : 1 ≤ W) (h : End F W a T) : ends F W a T = 1 := by
  obtain ⟨P, h1, h2, h3, h4⟩ := h.p
  obtain ⟨i, rfl⟩ : ∃ i, T = P + i + 1 := ⟨T - P - 1, by omega⟩
  have hr := rel_in hW h2 i (by omega)
  show (if F ≤ ((P + i : Nat) : Int) ∧ rel F W ((P + i : Nat) : Int) + W = ((P + i : Nat) : Int) + 1 ∧ (a : Int) ≤ rel F W ((P + i : Nat) : Int) then (1 : Int) else 0) = 1
  rw [hr, if_pos ⟨by omega, by omega, by omega⟩]
theorem End.next {F W : Int} {a T u : Nat} (hW : 1 ≤ W) (hu : (u : Int) = W) (h : End F W a T) : End F W a (T + u) := by
  obtain ⟨P, h1, h2, h3, h4⟩ := h.p
  obtain ⟨v, hv⟩ : ∃ v : Nat, T = P + v := ⟨T - P, by omega⟩
  refine ⟨T, by omega, ?_, by omega, by omega⟩
  have := rel_jump hW h2 (u := v) (by omega)
  rw [hv]
  exact this
theorem End.none {F W : Int} {a T : Nat} (hW : 1 ≤ W) (h : End F W a T) {b : Nat} (h1 : T < b) (h2 : (b : Int) < T + W) : ends F W a b = 0 := by
  obtain ⟨P, p1, p2, p3, p4⟩ := h.p
  obtain ⟨v, hv⟩ : ∃ v : Nat, T = P + v := ⟨T - P, by omega⟩
  have hT : rel F W T = T := by
    have := rel_jump hW p2 (u := v) (by omega)
    rw [hv]; exact this
  obtain ⟨i, rfl⟩ : ∃ i, b = T + i + 1 := ⟨b - T - 1, by omega⟩
  have hr := rel_in hW hT i (by omega)
  show (if F ≤ ((T + i : Nat) : Int) ∧ rel F W ((T + i : Nat) : Int) + W = ((T + i : Nat) : Int) + 1 ∧ (a : Int) ≤ rel F W ((T + i : Nat) : Int) then (1 : Int) else 0) = 0
  rw [hr, if_neg (by omega)]
/-- The first window's end. -/
theorem first_end {F W : Int} (hF : 0 ≤ F) (hW : 1 ≤ W) (a : Nat) : ∃ T : Nat, fstW F W a + W = T ∧ End F W a T ∧ ∀ b : Nat, b < T → ends F W a b = 0 := by
  obtain ⟨m, h1, h2, h3, h4⟩ := fstW_form (F := F) (a := (a : Int)) hW
  have h5 := Int.mul_nonneg h1 (show 0 ≤ W by omega)
  generalize fstW F W a = f at *
  obtain ⟨P, rfl⟩ : ∃ P : Nat, f = P := ⟨f.toNat, by omega⟩
  have hr : rel F W P = P := by
    unfold rel
    have : ((P : Int) - F) / W = m := by
      rw [h2, show F + m * W - F = m * W by omega]
      exact Int.mul_ediv_cancel _ (by omega)
    rw [this, h2]
  refine ⟨((P : Int) + W).toNat, by omega, ⟨P, by omega, hr, by omega, by omega⟩, fun b hb => ?_⟩
  cases b with
  | zero => rfl
  | succ b =>
    unfold ends
    refine if_neg fun ⟨c1, c2, c3⟩ => ?_
    have hbd := rel_bd (F := F) (b : Int) hW
    have hge : (P : Int) ≤ rel F W b := by
      unfold rel at c3 ⊢
      exact h4 _ (Int.ediv_nonneg (by omega) (by omega)) c3
    omega
theorem dueK_bd {F W B : Nat → Int} {k : Nat} (h : ∀ i, i < k → 0 ≤ B i ∧ B i ≤ 768) (a b : Nat) : 0 ≤ dueK F W B a b k ∧ dueK F W B a b k ≤ k * 768 := by
  induction k with
  | zero => exact ⟨Int.le_refl _, by show (0 : Int) ≤ _; omega⟩
  | succ k ih =>
    have := ih fun i hi => h i (by omega)
    have h1 := ends_bd (F k) (W k) a b
    have h2 := mul_bd h1 (h k (by omega))
    show 0 ≤ dueK F W B a b k + ends (F k) (W k) a b * B k ∧ dueK F W B a b k + ends (F k) (W k) a b * B k ≤ _
    omega
end Go.Proofs.Yteokhadpenalaaa
