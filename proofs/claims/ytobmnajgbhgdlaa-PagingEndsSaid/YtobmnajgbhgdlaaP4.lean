/- Layer 36: what a tick makes of pages, in plain Lean, and three rows that grow side by side. -/
import Derived.Test.YtobmnajgbhgdlaaP3
namespace Go.Proofs.Ytobmnajgbhgdlaa
set_option linter.unusedVariables false
set_option linter.unusedSimpArgs false
open Go.RowKit Go.Sort
attribute [local go_sem] gcell

abbrev Pg := Int × Int × Int
def pI (L : List Pg) (k : Nat) : Int := (L.getD k (0, 0, 0)).1
def pS (L : List Pg) (k : Nat) : Int := (L.getD k (0, 0, 0)).2.1
def pC (L : List Pg) (k : Nat) : Int := (L.getD k (0, 0, 0)).2.2
def nI (A : List Int) (k : Nat) : Int := A.getD k 0
def pgl (L : List Pg) (j : Nat) : Value := pf (pI L) (pS L) (pC L) j
theorem getD_keep {α : Type} (L : List α) (x d : α) {k : Nat} (h : k < L.length) : (L ++ [x]).getD k d = L.getD k d := by
  rw [List.getD_eq_getElem?_getD, List.getD_eq_getElem?_getD, List.getElem?_append_left h]
theorem getD_new {α : Type} (L : List α) (x d : α) : (L ++ [x]).getD L.length d = x := by simp
theorem pgl_keep (L : List Pg) (x : Pg) {j : Nat} (h : j < L.length * 3) : pgl (L ++ [x]) j = pgl L j := by
  have hk : j / 3 < L.length := by omega
  unfold pgl pf pI pS pC
  rw [getD_keep L x _ hk]
theorem pgl_new (L : List Pg) (i s c : Int) {j : Nat} (h : j < 3) : (#[.int .i64 i, .int .i64 s, .int .i64 c] : Array Value)[j]? = some (pgl (L ++ [(i, s, c)]) (L.length * 3 + j)) := by
  unfold pgl
  match j, h with
  | 0, _ => rw [Nat.add_zero, pf0]; unfold pI; rw [getD_new]; rfl
  | 1, _ => rw [pf1]; unfold pS; rw [getD_new]; rfl
  | 2, _ => rw [pf2]; unfold pC; rw [getD_new]; rfl
theorem one3 (a b c : Int) : ∀ y ∈ (#[.int .i64 a, .int .i64 b, .int .i64 c] : Array Value).toList, y.oneCell' = true := fun y hy => by
  simp at hy
  rcases hy with rfl | rfl | rfl <;> rfl
def OwnP (w : World) (base : Nat) (v : Value) (L : List Pg) : Prop := w.ownsRow base 54 3 v L.length ((List.range (L.length * 3)).map (pgl L))
def OwnI (w : World) (base : Nat) (v : Value) (A : List Int) : Prop := w.ownsRow base 3 1 v A.length ((List.range A.length).map (iv (nI A)))
theorem OwnI.put {w : World} {base : Nat} {v : Value} {A : List Int} (x : Int) (h : OwnI w base v A) : w.ownsRow base 3 1 v A.length ((List.range A.length).map (iv (nI (A ++ [x])))) := by
  have : (List.range A.length).map (iv (nI (A ++ [x]))) = (List.range A.length).map (iv (nI A)) := List.map_congr_left fun j hj => by
    unfold iv nI
    rw [getD_keep A x 0 (List.mem_range.1 hj)]
  rw [this]
  exact h
theorem OwnI.of {w : World} {base : Nat} {v : Value} {A : List Int} {x : Int} (h : w.ownsRow base 3 1 v (A.length + 1) ((List.range (A.length + 1)).map (iv (nI (A ++ [x]))))) : OwnI w base v (A ++ [x]) := by
  unfold OwnI
  rw [List.length_append, List.length_singleton]
  exact h
theorem OwnP.of {w : World} {base : Nat} {v : Value} {L : List Pg} {x : Pg} (h : w.ownsRow base 54 3 v (L.length + 1) ((List.range ((L.length + 1) * 3)).map (pgl (L ++ [x])))) : OwnP w base v (L ++ [x]) := by
  unfold OwnP
  rw [List.length_append, List.length_singleton]
  exact h
theorem nI_new (A : List Int) (x : Int) : iv (nI (A ++ [x])) A.length = .int .i64 x := by unfold iv nI; rw [getD_new]

/-- Three rows that grow: pages, who is called, who is given up. -/
structure Tri (w0 wr : World) (p c l : Value) (P : List Pg) (A B : List Int) : Prop where
  rp : OwnP wr w0.heap.size p P
  rc : OwnI wr w0.heap.size c A
  rl : OwnI wr w0.heap.size l B
  a1 : Apart p c
  a2 : Apart p l
  a3 : Apart c l
  bel : Below w0.heap.size w0 wr
section
variable {w0 wr w' : World} {p c l v : Value} {P : List Pg} {A B : List Int}
theorem own_keep {base e s n : Nat} {v : Value} {xs : List Value} (h : wr.ownsRow base e s v n xs) (hb : Below wr.heap.size wr w') : w'.ownsRow base e s v n xs :=
  h.kept (row := none) ⟨hb.os, hb.tape, hb.output, hb.size, fun i hi _ => hb.block i hi⟩ (by cases h : v.ownBlock <;> simp)
theorem Tri.mono (T : Tri w0 wr p c l P A B) (hb : Below wr.heap.size wr w') : Tri w0 w' p c l P A B :=
  ⟨own_keep T.rp hb, own_keep T.rc hb, own_keep T.rl hb, T.a1, T.a2, T.a3, bthen T.bel hb T.bel.size⟩
theorem Tri.start (h : Below w0.heap.size w0 wr) : Tri w0 wr (.slice none 0 0) (.slice none 0 0) (.slice none 0 0) [] [] [] :=
  ⟨World.ownsRow_nil _ _ _ _, World.ownsRow_nil _ _ _ _, World.ownsRow_nil _ _ _ _, Apart.nil _, Apart.nil _, Apart.nil _, h⟩
theorem Tri.pushC (T : Tri w0 wr p c l P A B) {x : Int} (h : w'.ownsRow w0.heap.size 3 1 v (A.length + 1) ((List.range (A.length + 1)).map (iv (nI (A ++ [x]))))) (hb : Below w0.heap.size w0 w') (hg : wr.grownBy w' c.ownBlock) (ha : v.ownBlock = c.ownBlock ∨ v.ownBlock = some (wr.heap.size + 1)) : Tri w0 w' p v l P (A ++ [x]) B :=
  ⟨T.a1.keep T.rp hg, OwnI.of h, T.a3.symm.keep T.rl hg, T.a1.grown T.rp ha, T.a2, (T.a3.symm.grown T.rl ha).symm, hb⟩
theorem Tri.pushL (T : Tri w0 wr p c l P A B) {x : Int} (h : w'.ownsRow w0.heap.size 3 1 v (B.length + 1) ((List.range (B.length + 1)).map (iv (nI (B ++ [x]))))) (hb : Below w0.heap.size w0 w') (hg : wr.grownBy w' l.ownBlock) (ha : v.ownBlock = l.ownBlock ∨ v.ownBlock = some (wr.heap.size + 1)) : Tri w0 w' p c v P A (B ++ [x]) :=
  ⟨T.a2.keep T.rp hg, T.a3.keep T.rc hg, OwnI.of h, T.a1, T.a2.grown T.rp ha, T.a3.grown T.rc ha, hb⟩
theorem Tri.pushP (T : Tri w0 wr p c l P A B) {x : Pg} (h : w'.ownsRow w0.heap.size 54 3 v (P.length + 1) ((List.range ((P.length + 1) * 3)).map (pgl (P ++ [x])))) (hb : Below w0.heap.size w0 w') (hg : wr.grownBy w' p.ownBlock) (ha : v.ownBlock = p.ownBlock ∨ v.ownBlock = some (wr.heap.size + 1)) : Tri w0 w' v c l (P ++ [x]) A B :=
  ⟨OwnP.of h, T.a1.symm.keep T.rc hg, T.a2.symm.keep T.rl hg, (T.a1.symm.grown T.rc ha).symm, (T.a2.symm.grown T.rl ha).symm, T.a3, hb⟩
theorem Tri.rows (T : Tri w0 wr p c l P A B) : ∃ a1 c1 a2 c2 a3 c3, p = .slice a1 P.length c1 ∧ c = .slice a2 A.length c2 ∧ l = .slice a3 B.length c3 ∧ CapOk P.length c1 ∧ (a1 = none → P.length = 0) ∧ R3 wr a1 P.length (pI P) (pS P) (pC P) ∧ Row wr a2 A.length (nI A) ∧ Row wr a3 B.length (nI B) := by
  obtain ⟨a1, c1, b, rfl, h1', h2, h3⟩ := own_cellsK T.rp
  have h1 : CapOk P.length c1 := ⟨h1', own_cap T.rp⟩
  obtain ⟨a2, c2, rfl, _, h5⟩ := own_row T.rc
  obtain ⟨a3, c3, rfl, _, h7⟩ := own_row T.rl
  refine ⟨a1, c1, a2, c2, a3, c3, rfl, rfl, rfl, h1, fun h => ?_, R3.of_cells h3 fun h0 => (h2 h0).1, h5, h7⟩
  rcases Nat.eq_zero_or_pos P.length with h0 | h0
  · exact h0
  · rw [(h2 h0).1] at h; cases h
end

/-- What a tick makes of one page more. -/
def tkS (cy mo tr t : Int) (x : Pg) (st : List Pg × List Int × List Int) : List Pg × List Int × List Int :=
  if occ cy x.1 t = true then (if x.2.2 = tr then (st.1, st.2.1, st.2.2 ++ [x.1]) else if (st.2.1.length : Int) < mo then (st.1 ++ [(x.1, x.2.1, x.2.2 + 1)], st.2.1 ++ [x.1], st.2.2) else (st.1 ++ [x], st.2.1, st.2.2)) else (st.1 ++ [x], st.2.1, st.2.2)
/-- What a tick makes of the first pages. -/
def tkL (cy mo tr t : Int) (I S C : Nat → Int) : Nat → List Pg × List Int × List Int
  | 0 => ([], [], [])
  | k + 1 => tkS cy mo tr t (I k, S k, C k) (tkL cy mo tr t I S C k)
theorem tkL_len (cy mo tr t : Int) (I S C : Nat → Int) : ∀ k, (tkL cy mo tr t I S C k).1.length ≤ k ∧ (tkL cy mo tr t I S C k).2.1.length ≤ k ∧ (tkL cy mo tr t I S C k).2.2.length ≤ k
  | 0 => ⟨Nat.le_refl _, Nat.le_refl _, Nat.le_refl _⟩
  | k + 1 => by
    have := tkL_len cy mo tr t I S C k
    show (tkS cy mo tr t (I k, S k, C k) (tkL cy mo tr t I S C k)).1.length ≤ k + 1 ∧ (tkS cy mo tr t (I k, S k, C k) (tkL cy mo tr t I S C k)).2.1.length ≤ k + 1 ∧ (tkS cy mo tr t (I k, S k, C k) (tkL cy mo tr t I S C k)).2.2.length ≤ k + 1
    unfold tkS
    split
    · split
      · simp; omega
      · split
        · simp; omega
        · simp; omega
    · simp; omega
def pl (I S C : Nat → Int) (n : Nat) : List Pg := (List.range n).map fun k => (I k, S k, C k)
theorem pl_len (I S C : Nat → Int) (n : Nat) : (pl I S C n).length = n := by unfold pl; simp
theorem pl_at (I S C : Nat → Int) {n k : Nat} (h : k < n) : pI (pl I S C n) k = I k ∧ pS (pl I S C n) k = S k ∧ pC (pl I S C n) k = C k := by
  have e : (pl I S C n).getD k (0, 0, 0) = (I k, S k, C k) := by unfold pl; simp [List.getD, h]
  unfold pI pS pC
  rw [e]
  exact ⟨rfl, rfl, rfl⟩
/-- The error of a tick, and what it hands back. -/
def tkE (cy mo tr t : Int) (n : Nat) (I S C : Nat → Int) : Int := if ckP cy mo tr n I S C ≠ 0 then ckP cy mo tr n I S C else if tks t = false then 3 else 0
def tkO (cy mo tr t : Int) (n : Nat) (I S C : Nat → Int) : List Pg × List Int × List Int := if tkE cy mo tr t n I S C = 0 then tkL cy mo tr t I S C n else (pl I S C n, [], [])
def TickR (cy mo tr t : Int) (n : Nat) (I S C : Nat → Int) (w : World) (e : Ending) (w' : World) : Prop :=
  ∃ (P : List Pg) (A B : List Int) (a1 a2 a3 : Option Addr) (c1 c2 c3 : Nat), (P, A, B) = tkO cy mo tr t n I S C ∧ e = .returned (.tuple #[gv cy mo tr a1 P.length c1, .slice a2 A.length c2, .slice a3 B.length c3, .int .i64 (tkE cy mo tr t n I S C)]) ∧
    CapOk P.length c1 ∧ (a1 = none → P.length = 0) ∧ R3 w' a1 P.length (pI P) (pS P) (pC P) ∧ Row w' a2 A.length (nI A) ∧ Row w' a3 B.length (nI B) ∧ Below w.heap.size w w'
end Go.Proofs.Ytobmnajgbhgdlaa
