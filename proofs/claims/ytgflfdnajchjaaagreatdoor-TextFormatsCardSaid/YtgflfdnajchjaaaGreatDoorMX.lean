/- Layer 45: boxes and dice: what stays when dice are thrown. -/
import Derived.Test.YtgflfdnajchjaaaGreatDoorM0
import Derived.Test.YtgflfdnajchjaaaGreatDoorJB
namespace Go.Proofs.YtgflfdnajchjaaaGreatDoor
set_option linter.unusedVariables false
set_option linter.unusedSimpArgs false
open Go.RowKit Go.Sort
/-! ### Boxes and dice -/
theorem only_box {w w' : World} {p z : Nat} {o : Obj} (h : OnlyP w w' p) (hz : z ≠ p) (H : w.heap[z]? = some o) : w'.heap[z]? = some o := (only_block h hz (Array.getElem?_eq_some_iff.1 H).1).trans H
theorem bx_cell {w : World} {z e : Nat} {cs : Array Value} {fz : Nat × Nat} (h : w.heap[z]? = some (.cells cs e fz)) (k : Nat) {v : Value} (hv : cs[k]? = some v) : w.cell? ⟨z, k, none⟩ = some v := by rw [cell_of_row w z k cs e fz h]; exact hv
theorem bx_fr {w : World} {z e : Nat} {cs : Array Value} (h : w.heap[z]? = some (.cells cs e (0, 0))) (k : Nat) : w.frozen? ⟨z, k, none⟩ = false := frozen_of_row w z k _ _ h
theorem bx_there_at {w : World} {z e : Nat} {cs : Array Value} (h : w.heap[z]? = some (.cells cs e (0, 0))) (o n : Nat) (ho : o + n ≤ cs.size) : w.there z o n := fun j hj => by
  have := bx_there h (o + j) (by omega)
  rwa [Nat.zero_add] at this
theorem bx_new (w : World) (cs : Array Value) (e : Nat) : (w.alloc (.cells cs e)).heap[w.heap.size]? = some (.cells cs e (0, 0)) := (MapKept.heap_alloc w _).1
theorem bx_keep {w : World} {z : Nat} {o : Obj} (x : Obj) (H : w.heap[z]? = some o) : (w.alloc x).heap[z]? = some o := (Below.heap_alloc _ _ _ (Array.getElem?_eq_some_iff.1 H).1).trans H
theorem bx_lt {w : World} {z : Nat} {o : Obj} (H : w.heap[z]? = some o) : z < w.heap.size := (Array.getElem?_eq_some_iff.1 H).1
theorem bx_range {w : World} {z e : Nat} {cs : Array Value} {fz : Nat × Nat} (h : w.heap[z]? = some (.cells cs e fz)) {l : List Value} (hl : cs = l.toArray) : w.rangeAt z 0 l := fun j v hv => by
  rw [Nat.zero_add]
  exact bx_cell h j (by rw [hl]; simpa using hv)
theorem DiceS.alloc {w : World} {p B : Nat} (h : DiceS w p B) (o : Obj) : DiceS (w.alloc o) p B := h.mono ((Below.refl w.heap.size w).alloc (Nat.le_refl _) o) h.le
theorem DiceS.set {w : World} {p B q o : Nat} {v : Value} (h : DiceS w p B) (hq : B ≤ q) : DiceS (w.setCell ⟨q, o, none⟩ v) p B := h.mono ((Below.refl B w).setCell (p := ⟨q, o, none⟩) (by exact hq) v) (Nat.le_refl _)
theorem DiceS.sets {w : World} {p B q : Nat} (h : DiceS w p B) (hq : B ≤ q) (o : Nat) (vs : List Value) : DiceS (w.setCells q o vs) p B := h.mono (bx_cells_base hq vs o w) (Nat.le_refl _)
theorem only_sets {a b : World} {p q : Nat} (h : OnlyP a b p) (hq : a.heap.size ≤ q) (o : Nat) (vs : List Value) : OnlyP a (b.setCells q o vs) p := by
  have k := bx_cells_base hq vs o b
  exact ⟨k.os.trans h.os, k.tape.trans h.tape, k.output.trans h.output, Nat.le_trans h.size k.size, fun i hi hne => (k.block i hi).trans (h.block i hi hne)⟩
end Go.Proofs.YtgflfdnajchjaaaGreatDoor
