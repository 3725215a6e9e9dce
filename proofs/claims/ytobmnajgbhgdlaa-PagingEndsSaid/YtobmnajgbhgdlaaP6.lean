/- Layer 36: the program's Tick. -/
import Derived.Test.YtobmnajgbhgdlaaP5
namespace Go.Proofs.Ytobmnajgbhgdlaa
set_option linter.unusedVariables false
set_option linter.unusedSimpArgs false
open Go.RowKit Go.Sort
attribute [local go_sem] gcell

/-- The three rows, the row of pages in a box's third field. -/
structure Qd (D : Nat) (cy mo tr : Int) (w0 wr : World) (p c l : Value) (P : List Pg) (A B : List Int) : Prop where
  T : Tri w0 wr p c l P A B
  n1 : p.ownBlock ≠ some D
  n2 : c.ownBlock ≠ some D
  n3 : l.ownBlock ≠ some D
  d0 : wr.cell? ⟨D, 0, none⟩ = some (.int .i64 cy)
  d1 : wr.cell? ⟨D, 1, none⟩ = some (.int .i64 mo)
  d2 : wr.cell? ⟨D, 2, none⟩ = some (.int .i64 tr)
  d3 : wr.cell? ⟨D, 3, none⟩ = some p
  df : wr.frozen? ⟨D, 3, none⟩ = false
section
variable {D : Nat} {cy mo tr : Int} {w0 wr w' : World} {p c l v : Value} {P : List Pg} {A B : List Int}
theorem Qd.mono (Q : Qd D cy mo tr w0 wr p c l P A B) (hb : Below wr.heap.size wr w') : Qd D cy mo tr w0 w' p c l P A B :=
  ⟨Q.T.mono hb, Q.n1, Q.n2, Q.n3, up hb Q.d0, up hb Q.d1, up hb Q.d2, up hb Q.d3, upf hb (lt_of_cell Q.d0) Q.df⟩
theorem ne_new {u : Value} (h : u.ownBlock ≠ some D) (hD : D < wr.heap.size) (ha : v.ownBlock = u.ownBlock ∨ v.ownBlock = some (wr.heap.size + 1)) : v.ownBlock ≠ some D := fun e => by
  rcases ha with ha | ha
  · exact h (ha ▸ e)
  · rw [ha] at e
    have := Option.some.inj e
    omega
theorem Qd.pushC (Q : Qd D cy mo tr w0 wr p c l P A B) {x : Int} (h : w'.ownsRow w0.heap.size 3 1 v (A.length + 1) ((List.range (A.length + 1)).map (iv (nI (A ++ [x]))))) (hb : Below w0.heap.size w0 w') (hg : wr.grownBy w' c.ownBlock) (ha : v.ownBlock = c.ownBlock ∨ v.ownBlock = some (wr.heap.size + 1)) : Qd D cy mo tr w0 w' p v l P (A ++ [x]) B :=
  ⟨Q.T.pushC h hb hg ha, Q.n1, ne_new Q.n2 (lt_of_cell Q.d0) ha, Q.n3, far_cell hg Q.n2 Q.d0, far_cell hg Q.n2 Q.d1, far_cell hg Q.n2 Q.d2, far_cell hg Q.n2 Q.d3, far_frozen hg Q.n2 Q.d3 Q.df⟩
theorem Qd.pushL (Q : Qd D cy mo tr w0 wr p c l P A B) {x : Int} (h : w'.ownsRow w0.heap.size 3 1 v (B.length + 1) ((List.range (B.length + 1)).map (iv (nI (B ++ [x]))))) (hb : Below w0.heap.size w0 w') (hg : wr.grownBy w' l.ownBlock) (ha : v.ownBlock = l.ownBlock ∨ v.ownBlock = some (wr.heap.size + 1)) : Qd D cy mo tr w0 w' p c v P A (B ++ [x]) :=
  ⟨Q.T.pushL h hb hg ha, Q.n1, Q.n2, ne_new Q.n3 (lt_of_cell Q.d0) ha, far_cell hg Q.n3 Q.d0, far_cell hg Q.n3 Q.d1, far_cell hg Q.n3 Q.d2, far_cell hg Q.n3 Q.d3, far_frozen hg Q.n3 Q.d3 Q.df⟩
theorem Qd.pushP (Q : Qd D cy mo tr w0 wr p c l P A B) (hD : w0.heap.size ≤ D) {x : Pg} (h : w'.ownsRow w0.heap.size 54 3 v (P.length + 1) ((List.range ((P.length + 1) * 3)).map (pgl (P ++ [x])))) (hb : Below w0.heap.size w0 w') (hg : wr.grownBy w' p.ownBlock) (ha : v.ownBlock = p.ownBlock ∨ v.ownBlock = some (wr.heap.size + 1)) : Qd D cy mo tr w0 (w'.setCell ⟨D, 3, none⟩ v) v c l (P ++ [x]) A B := by
  have nv := ne_new Q.n1 (lt_of_cell Q.d0) ha
  refine ⟨(Q.T.pushP h hb hg ha).setn hD nv Q.n2 Q.n3 v, nv, Q.n2, Q.n3, ?_, ?_, ?_, ?_, ?_⟩
  · rw [cell_set, if_neg (by simp)]; exact far_cell hg Q.n1 Q.d0
  · rw [cell_set, if_neg (by simp)]; exact far_cell hg Q.n1 Q.d1
  · rw [cell_set, if_neg (by simp)]; exact far_cell hg Q.n1 Q.d2
  · rw [cell_set, if_pos rfl, far_cell hg Q.n1 Q.d3]; rfl
  · rw [World.frozen?_setCell]; exact far_frozen hg Q.n1 Q.d3 Q.df
theorem Qd.setn (Q : Qd D cy mo tr w0 wr p c l P A B) {z o : Nat} (hz : w0.heap.size ≤ z) (hD : z ≠ D) (h1 : p.ownBlock ≠ some z) (h2 : c.ownBlock ≠ some z) (h3 : l.ownBlock ≠ some z) (u : Value) : Qd D cy mo tr w0 (wr.setCell ⟨z, o, none⟩ u) p c l P A B := by
  refine ⟨Q.T.setn hz h1 h2 h3 u, Q.n1, Q.n2, Q.n3, ?_, ?_, ?_, ?_, ?_⟩
  · rw [cell_set, if_neg (by simp [hD])]; exact Q.d0
  · rw [cell_set, if_neg (by simp [hD])]; exact Q.d1
  · rw [cell_set, if_neg (by simp [hD])]; exact Q.d2
  · rw [cell_set, if_neg (by simp [hD])]; exact Q.d3
  · rw [World.frozen?_setCell]; exact Q.df
end
theorem R3.of_vat {w : World} {b n : Nat} {a : Option Addr} {I S C : Nat → Int} (h0 : 0 < n → a = some ⟨b, 0, none⟩) (h : 0 < n → VAt w b (n * 3) (pf I S C)) : R3 w a n I S C := by
  refine ⟨b, 0, h0, fun k hk => ?_⟩
  have Q := h (by omega)
  have c0 := Q.c (k * 3) (by omega)
  have c1 := Q.c (k * 3 + 1) (by omega)
  have c2 := Q.c (k * 3 + 2) (by omega)
  rw [pf1] at c1
  rw [pf2] at c2
  rw [pf0] at c0
  simp only [Nat.zero_add]
  exact ⟨c0, c1, c2⟩
end Go.Proofs.Ytobmnajgbhgdlaa
