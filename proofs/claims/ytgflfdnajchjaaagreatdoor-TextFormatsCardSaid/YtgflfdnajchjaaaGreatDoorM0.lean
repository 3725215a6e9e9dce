/- Layer 45: dice whose numbers nobody looks at: the next number is in its bounds, and only the dice's block turns. -/
import Derived.Test.YtgflfdnajchjaaaGreatDoorDice
namespace Go.Proofs.YtgflfdnajchjaaaGreatDoor
set_option linter.unusedVariables false
set_option linter.unusedSimpArgs false
open Go.RowKit Go.Sort
/-- Dice in block p, below B, and their list below B, too. -/
def DiceS (w : World) (p B : Nat) : Prop := ∃ g a cap n xs k, DiceAt w p g a cap n xs k ∧ n ≤ 300 ∧ p < B ∧ g < B ∧ B ≤ w.heap.size
theorem DiceS.lt {w : World} {p B : Nat} (h : DiceS w p B) : p < B := by
  obtain ⟨g, a, cap, n, xs, k, D, h1, h2, h3, h4⟩ := h
  exact h2
theorem DiceS.le {w : World} {p B : Nat} (h : DiceS w p B) : B ≤ w.heap.size := by
  obtain ⟨g, a, cap, n, xs, k, D, h1, h2, h3, h4⟩ := h
  exact h4
theorem DiceS.mono {w w' : World} {p B C : Nat} (h : DiceS w p B) (hb : Below C w w') (hC : B ≤ C) : DiceS w' p B := by
  obtain ⟨g, a, cap, n, xs, k, D, h1, h2, h3, h4⟩ := h
  refine ⟨g, a, cap, n, xs, k, ⟨?_, ?_, fun o => ?_, D.ea, D.ne, ?_, fun i hi => ?_⟩, h1, h2, h3, Nat.le_trans h4 hb.size⟩
  · rw [hb.cell (p := ⟨p, 0, none⟩) (by show p < C; omega)]; exact D.c0
  · rw [hb.cell (p := ⟨p, 1, none⟩) (by show p < C; omega)]; exact D.c1
  · rw [World.frozen?_of_block (hb.block p (by omega))]; exact D.f o
  · exact Nat.lt_of_lt_of_le D.gl hb.size
  · rw [hb.cell (p := ⟨g, i, none⟩) (by show g < C; omega)]; exact D.xs i hi
theorem DiceS.drewN {w : World} {p B : Nat} (h : DiceS w p B) (q : Nat) : DiceS (w.drewN q) p B := by
  obtain ⟨g, a, cap, n, xs, k, D, h1, h2, h3, h4⟩ := h
  exact ⟨g, a, cap, n, xs, k, D.drewN q, h1, h2, h3, h4⟩
theorem next12 {p B : Nat} {m : Int} {w : World} (h1 : 1 ≤ m) (hm : m ≤ 1000000000) (D : DiceS w p B) :
    Calls Tryz.prog 12 #[.pointer (some ⟨p, 0, none⟩), .int .i64 m] w fun e w' => ∃ v : Int, e = .returned (.int .i64 v) ∧ 0 ≤ v ∧ v < m ∧ DiceS w' p B ∧ OnlyP w w' p := by
  obtain ⟨g, a, cap, n, xs, k, D, hn, h2, h3, h4⟩ := D
  refine (dice_next p g a cap n xs k m w hm hn D).mono ?_
  rintro e w' ⟨he, hd, ho⟩
  exact ⟨_, he, (dval_bd xs n k m h1).1, (dval_bd xs n k m h1).2, ⟨g, a, cap, n, xs, _, hd, hn, h2, h3, Nat.le_trans h4 ho.size⟩, ho⟩
/-- What lies in other blocks than the dice's stays. -/
theorem only_block {w w' : World} {p b : Nat} (h : OnlyP w w' p) (hb : b ≠ p) (hl : b < w.heap.size) : w'.heap[b]? = w.heap[b]? := h.block b hl (by simpa using hb)
end Go.Proofs.YtgflfdnajchjaaaGreatDoor
