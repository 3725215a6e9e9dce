/- Rows of one-cell elements in a block of one's own, written in place. Nothing of the program is named here. -/
import Derived.Test.YtdcogbokcbpnnaaRow
namespace Go.Proofs.Ytdcogbokcbpnnaa
set_option linter.unusedVariables false
set_option linter.unusedSimpArgs false
open Go.RowKit Go.Sort

/-- Block z holds a row of n cells that may be written. -/
structure VAt (w : World) (z n : Nat) (f : Nat → Value) : Prop where
  c : ∀ k, k < n → w.cell? ⟨z, k, none⟩ = some (f k)
  fr : ∀ k, w.frozen? ⟨z, k, none⟩ = false
  lt : z < w.heap.size
def putV (f : Nat → Value) (j : Nat) (v : Value) : Nat → Value := fun k => if k = j then v else f k
theorem putV_at (f : Nat → Value) (j : Nat) (v : Value) : putV f j v j = v := if_pos rfl
theorem putV_ne {f : Nat → Value} {j k : Nat} {v : Value} (h : k ≠ j) : putV f j v k = f k := if_neg h
theorem VAt.mono {w w' : World} {z n : Nat} {f : Nat → Value} (Q : VAt w z n f) (hb : Below w.heap.size w w') : VAt w' z n f :=
  ⟨fun k hk => up hb (Q.c k hk), fun k => upf hb Q.lt (Q.fr k), Nat.lt_of_lt_of_le Q.lt hb.size⟩
theorem VAt.set {w : World} {z n : Nat} {f : Nat → Value} (Q : VAt w z n f) (j : Nat) (v : Value) : VAt (w.setCell ⟨z, j, none⟩ v) z n (putV f j v) := by
  refine ⟨fun k hk => ?_, fun k => ?_, by simpa using Q.lt⟩
  · have := Q.c k hk
    by_cases e : k = j
    · subst e
      rw [putV_at, cell_set, if_pos rfl, this]; rfl
    · rw [putV_ne e, cell_set, if_neg (by simp [Ne.symm e])]; exact this
  · rw [World.frozen?_setCell]; exact Q.fr k
theorem VAt.far {w : World} {z n p o : Nat} {f : Nat → Value} {v : Value} (Q : VAt w z n f) (h : p ≠ z) : VAt (w.setCell ⟨p, o, none⟩ v) z n f := by
  refine ⟨fun k hk => ?_, fun k => ?_, by simpa using Q.lt⟩
  · rw [cell_set, if_neg (by simp [h])]; exact Q.c k hk
  · rw [World.frozen?_setCell]; exact Q.fr k
theorem VAt.congr {w : World} {z n : Nat} {f g : Nat → Value} (Q : VAt w z n f) (h : ∀ k, k < n → g k = f k) : VAt w z n g :=
  ⟨fun k hk => by rw [h k hk]; exact Q.c k hk, Q.fr, Q.lt⟩
/-- .. in a world in which that block alone may have turned as told, and what lies below B has not. -/
theorem VAt.made {W w : World} {base e n : Nat} {v : Value} (h : w.ownsRow base e 1 (.slice (some ⟨W.heap.size, 0, none⟩) n n) n (madeCells #[v] n).toList) : VAt w W.heap.size n (fun _ => v) := by
  refine ⟨fun j hj => ?_, fun j => h.frozenAt j, (h.lt _ rfl).2⟩
  rw [h.cellAt j (by omega), toList_madeCells_one]
  simp [List.getElem?_replicate, hj]
theorem below_of_grown {W w : World} (h : W.grownBy w none) : Below W.heap.size W w := ⟨h.os, h.tape, h.output, h.size, fun i hi => h.block i hi (by simp)⟩
/-- Whole numbers as values. -/
def iv (xs : Nat → Int) (k : Nat) : Value := .int .i64 (xs k)
theorem VAt.row {w : World} {z n : Nat} {xs : Nat → Int} (Q : VAt w z n (iv xs)) : Row w (some ⟨z, 0, none⟩) n xs :=
  ⟨z, 0, fun _ => rfl, fun k hk => by rw [Nat.zero_add]; exact Q.c k hk⟩
def putI (xs : Nat → Int) (j : Nat) (x : Int) : Nat → Int := fun k => if k = j then x else xs k
theorem VAt.setI {w : World} {z n : Nat} {xs : Nat → Int} (Q : VAt w z n (iv xs)) (j : Nat) (x : Int) : VAt (w.setCell ⟨z, j, none⟩ (.int .i64 x)) z n (iv (putI xs j x)) :=
  (Q.set j _).congr fun k _ => by
    unfold putV iv putI
    split <;> rfl
end Go.Proofs.Ytdcogbokcbpnnaa
