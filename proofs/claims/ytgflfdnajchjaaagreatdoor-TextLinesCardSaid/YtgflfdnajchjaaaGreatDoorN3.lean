/- Layer 45: how many lines a text has, and where its last line begins; a text without its last line. Plain. -/
import Derived.Test.YtgflfdnajchjaaaGreatDoorN2
namespace Go.Proofs.YtgflfdnajchjaaaGreatDoor
set_option linter.unusedVariables false
set_option linter.unusedSimpArgs false
open Tm
theorem cat_append (A B : List (List UInt8)) : catL (A ++ B) = catL A ++ catL B := by
  unfold catL
  rw [List.flatMap_append]
theorem cat_one (l : List UInt8) : catL [l] = l ++ [10] := by
  unfold catL
  simp
theorem cat_count : ∀ L : List (List UInt8), (∀ l ∈ L, (10 : UInt8) ∉ l) → (catL L).count 10 = L.length
  | [], _ => rfl
  | l :: L, h => by
    have ih := cat_count L fun x hx => h x (by simp [hx])
    have h0 : l.count 10 = 0 := List.count_eq_zero_of_not_mem (h l (by simp))
    have e : catL (l :: L) = (l ++ [10]) ++ catL L := by
      have := cat_append [l] L
      rw [cat_one] at this
      exact this
    rw [e, List.count_append, List.count_append, ih, h0, List.length_cons]
    have : ([10] : List UInt8).count 10 = 1 := by decide
    omega
/-- Where the last line begins, as the law reckons it. -/
def lastP (s : List UInt8) : Nat → Nat
  | 0 => 0
  | i + 1 => if s.getD i 0 = 10 ∧ i + 1 < s.length then i + 1 else lastP s i
theorem cat_end {A : List (List UInt8)} (h : A ≠ []) : ∃ u, catL A = u ++ [10] := by
  obtain ⟨B, l, rfl⟩ := snoc_of h
  rw [cat_append, cat_one]
  exact ⟨catL B ++ l, by rw [List.append_assoc]⟩
theorem getD_left {a b : List UInt8} {i : Nat} (h : i < a.length) : (a ++ b).getD i 0 = a.getD i 0 := by
  rw [List.getD_eq_getElem?_getD, List.getElem?_append_left h, ← List.getD_eq_getElem?_getD]
theorem getD_right {a b : List UInt8} {i : Nat} : (a ++ b).getD (a.length + i) 0 = b.getD i 0 := by
  rw [List.getD_eq_getElem?_getD, List.getElem?_append_right (by omega), Nat.add_sub_cancel_left, ← List.getD_eq_getElem?_getD]
theorem last_at_A {A : List (List UInt8)} {l : List UInt8} : lastP (catL A ++ (l ++ [10])) (catL A).length = (catL A).length := by
  by_cases h : A = []
  · subst h; rfl
  · obtain ⟨u, hu⟩ := cat_end h
    rw [hu]
    simp only [List.length_append, List.length_cons, List.length_nil, Nat.zero_add]
    unfold lastP
    rw [if_pos]
    refine ⟨?_, by simp⟩
    rw [List.append_assoc, show u.length = u.length + 0 from rfl, getD_right]
    rfl
theorem last_rest {a l : List UInt8} (hl : (10 : UInt8) ∉ l) (h0 : lastP (a ++ (l ++ [10])) a.length = a.length) : ∀ j, j ≤ l.length + 1 → lastP (a ++ (l ++ [10])) (a.length + j) = a.length
  | 0, _ => h0
  | j + 1, hj => by
    have ih := last_rest hl h0 j (by omega)
    rw [← Nat.add_assoc]
    unfold lastP
    rw [ih, if_neg]
    rintro ⟨h1, h2⟩
    rw [getD_right] at h1
    simp only [List.length_append, List.length_cons, List.length_nil] at h2
    have hjl : j < l.length := by omega
    rw [getD_left hjl, List.getD_eq_getElem?_getD, List.getElem?_eq_getElem hjl] at h1
    exact hl (by rw [← show l[j] = 10 from h1]; exact List.getElem_mem hjl)
/-- The last line begins behind the others. -/
theorem last_cat {A : List (List UInt8)} {l : List UInt8} (hl : (10 : UInt8) ∉ l) : lastP (catL (A ++ [l])) (catL (A ++ [l])).length = (catL A).length := by
  rw [cat_append, cat_one]
  have := last_rest (a := catL A) hl last_at_A (l.length + 1) (Nat.le_refl _)
  have e : (catL A ++ (l ++ [10])).length = (catL A).length + (l.length + 1) := by simp
  rw [e]
  exact this
theorem take_cat (A : List (List UInt8)) (l : List UInt8) : (catL (A ++ [l])).take (catL A).length = catL A := by
  rw [cat_append, List.take_left]
/-! ### The check never says what a text's own error says -/
theorem firstE_ne {f : Nat → Int} {e : Int} (he : e ≠ 0) (h : ∀ k, f k ≠ e) : ∀ n, firstE f n ≠ e
  | 0 => fun x => he x.symm
  | n + 1 => by
    unfold firstE
    split
    · exact h n
    · exact firstE_ne he h n
theorem firstErr_ne {X : Nat → Ch.Fd} {e : Int} (he : e ≠ 0) (h : ∀ k, Ch.errOf (X k) ≠ e) : ∀ n, Ch.firstErr X n ≠ e
  | 0 => fun x => he x.symm
  | n + 1 => by
    unfold Ch.firstErr
    split
    · exact h n
    · exact firstErr_ne he h n
theorem teC_ne (m : Int) (t : Te) : teC m t ≠ 66 := by
  unfold teC
  have hb : ∀ r, beOf r ≠ 66 := fun r => by
    unfold beOf Be.beC
    repeat' split
    all_goals decide
  split
  · decide
  · split
    · decide
    · split
      · exact firstE_ne (by decide) (fun k => hb _) _
      · unfold teL
        split <;> decide
theorem netC_ne (c : Cf) (X : Nat → Ch.Fd) (T : Nat → Te) : netC c X T ≠ 66 := by
  have hx : Ch.chk c.fn X ≠ 66 := by
    unfold Ch.chk
    split
    · decide
    · refine firstErr_ne (by decide) (fun k => ?_) _
      unfold Ch.errOf
      repeat' split
      all_goals decide
  unfold netC
  split
  · decide
  · split
    · decide
    · split
      · decide
      · split
        · decide
        · split
          · exact hx
          · exact firstE_ne (by decide) (fun k => teC_ne _ _) _
theorem chkD_ne (D : DocS) : chkD D ≠ 66 := by
  unfold chkD
  split
  · exact netC_ne _ _ _
  · unfold trafC
    split
    · decide
    · refine firstE_ne (by decide) (fun k => ?_) _
      unfold pktC
      repeat' split
      all_goals decide
end Go.Proofs.YtgflfdnajchjaaaGreatDoor
