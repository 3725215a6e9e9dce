/- Layer 34: the state of the reference's Assign. -/
import Derived.Test.YtdcogbokcbpnnaaR2
import Derived.Test.YtdcogbokcbpnnaaD8b
import Derived.Test.YtdcogbokcbpnnaaP1
import Derived.Test.YtdcogbokcbpnnaaRow
namespace Go.Proofs.Ytdcogbokcbpnnaa
set_option linter.unusedVariables false
set_option linter.unusedSimpArgs false
open Go.RowKit Go.Sort
attribute [local go_sem] gcell
/-- The reference's lists in memory: m owners in a row of one's own, and how many each one has. -/
structure RS (w1 w2 wr : World) (H n : Nat) (v : Value) (m : Nat) (ow hs : Nat → Int) : Prop where
  own : wr.ownsRow w2.heap.size 3 1 v m ((List.range m).map (iv ow))
  has : VAt wr H n (iv hs)
  hl : w1.heap.size ≤ H ∧ H < w2.heap.size
  bel : Below w1.heap.size w1 wr
  sz : w2.heap.size ≤ wr.heap.size
theorem RS.push {w1 w2 wr w' : World} {H n m : Nat} {v v' : Value} {ow ow' hs : Nat → Int} (X : RS w1 w2 wr H n v m ow hs) (hown : w'.ownsRow w2.heap.size 3 1 v' (m + 1) ((List.range (m + 1)).map (iv ow'))) (hB : Below w2.heap.size wr w') : RS w1 w2 w' H n v' (m + 1) ow' hs := by
  have hv : VAt w' H n (iv hs) := ⟨fun k hk => (hB.cell (p := ⟨H, k, none⟩) X.hl.2).trans (X.has.c k hk), fun k => (hB.frozen (p := ⟨H, k, none⟩) X.hl.2).trans (X.has.fr k), Nat.lt_of_lt_of_le X.has.lt hB.size⟩
  exact ⟨hown, hv, X.hl, X.bel.trans (hB.mono (by have := X.hl; omega)), Nat.le_trans X.sz hB.size⟩
theorem RS.setH {w1 w2 wr : World} {H n m : Nat} {v : Value} {ow hs : Nat → Int} (X : RS w1 w2 wr H n v m ow hs) (i : Nat) (x : Int) : RS w1 w2 (wr.setCell ⟨H, i, none⟩ (.int .i64 x)) H n v m ow (putI hs i x) := by
  refine ⟨X.own.kept (row := some H) ⟨rfl, rfl, rfl, by simp, fun k hk hne => ?_⟩ (.inr fun hc => by have := (X.own.lt H hc).1; have := X.hl; omega), X.has.setI i x, X.hl, X.bel.setCell X.hl.1 _, by simpa using X.sz⟩
  have : H ≠ k := fun e => hne (by rw [e])
  simp [World.setCell, Array.getElem?_modify, this]
theorem RS.mono {w1 w2 wr w' : World} {H n m : Nat} {v : Value} {ow hs : Nat → Int} (X : RS w1 w2 wr H n v m ow hs) (hB : Below wr.heap.size wr w') : RS w1 w2 w' H n v m ow hs :=
  ⟨X.own.kept (row := none) ⟨hB.os, hB.tape, hB.output, hB.size, fun i hi _ => hB.block i hi⟩ (by cases h : v.ownBlock <;> simp), X.has.mono hB, X.hl, X.bel.trans (hB.mono X.bel.size), Nat.le_trans X.sz hB.size⟩
theorem RS.congr {w1 w2 wr : World} {H n m m' : Nat} {v : Value} {ow ow' hs hs' : Nat → Int} (X : RS w1 w2 wr H n v m ow hs) (hm : m' = m) (h1 : ∀ k, k < m → ow' k = ow k) (h2 : ∀ k, k < n → hs' k = hs k) : RS w1 w2 wr H n v m' ow' hs' := by
  subst hm
  have e : (List.range m').map (iv ow') = (List.range m').map (iv ow) := List.map_congr_left fun k hk => by unfold iv; rw [h1 k (List.mem_range.1 hk)]
  exact ⟨by rw [e]; exact X.own, X.has.congr fun k hk => by unfold iv; rw [h2 k hk], X.hl, X.bel, X.sz⟩
theorem RS.len {w1 w2 wr : World} {H n m : Nat} {v : Value} {ow hs : Nat → Int} (X : RS w1 w2 wr H n v m ow hs) : ∃ a c, v = .slice a m c ∧ Row wr a m ow := by
  obtain ⟨a, c, b, rfl, -, h2, h3⟩ := own_cells X.own
  exact ⟨a, c, rfl, b, 0, fun h => (h2 h).1, fun k hk => by rw [Nat.zero_add]; exact h3 k hk⟩
theorem foldl_zero {R : Nat} {L : Nat → Dm} {j : Nat} : ∀ (l : List Nat) (s : St), j ∉ l → (l.foldl (againF R L) s).hs j = s.hs j
  | [], _, _ => rfl
  | i :: l, s, h => by
    have hj : j ≠ i := fun e => h (by simp [e])
    refine (foldl_zero l _ fun hm => h (by simp [hm])).trans ?_
    unfold againF
    split
    · show putI s.hs i _ j = _
      unfold putI
      rw [if_neg hj]
    · rfl
theorem pre_zero {R n : Nat} {L : Nat → Dm} (c i : Nat) (h : clOf L i = c) : ((ordP (clOf L) n c ++ grp (clOf L) c i).foldl (againF R L) (st0 R)).hs i = 0 := by
  rw [foldl_zero]
  · rfl
  · intro hm
    rcases List.mem_append.1 hm with h1 | h1
    · have := (mem_ordP.1 h1).2.2; omega
    · have := (mem_grp.1 h1).1; omega
theorem pre_yes {R n : Nat} {L : Nat → Dm} (c i : Nat) (h : clOf L i = c) : (ordP (clOf L) n c ++ grp (clOf L) c (i + 1)).foldl (againF R L) (st0 R) = againF R L ((ordP (clOf L) n c ++ grp (clOf L) c i).foldl (againF R L) (st0 R)) i := by
  have : grp (clOf L) c (i + 1) = grp (clOf L) c i ++ [i] := by show (if clOf L i = c then _ else _) = _; rw [if_pos h]
  rw [this, ← List.append_assoc, List.foldl_append]
  rfl
theorem pre_no {R n : Nat} {L : Nat → Dm} (c i : Nat) (h : clOf L i ≠ c) : (ordP (clOf L) n c ++ grp (clOf L) c (i + 1)).foldl (againF R L) (st0 R) = (ordP (clOf L) n c ++ grp (clOf L) c i).foldl (againF R L) (st0 R) := by
  have : grp (clOf L) c (i + 1) = grp (clOf L) c i := by show (if clOf L i = c then _ else _) = _; rw [if_neg h]
  rw [this]
end Go.Proofs.Ytdcogbokcbpnnaa
