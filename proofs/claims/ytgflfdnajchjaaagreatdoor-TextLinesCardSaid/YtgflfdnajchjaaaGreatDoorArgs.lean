/- What the arguments of a law's row are, as its walk wants them. Nothing of the program is named here. -/
import Derived.Test.YtgflfdnajchjaaaGreatDoorJB
namespace Go.Proofs.YtgflfdnajchjaaaGreatDoor
set_option linter.unusedVariables false
set_option linter.unusedSimpArgs false
open Go.ChangeShapes Go.WideShapes Go.ChangeAt Go.RowKit

/-- A slice of whole numbers of some kind. -/
theorem arg_intsOf {P : Program} {W : World} {base : Nat} {v : Value} {t e : TypeId} {κ : IntKind} {B : Nat} (h : Arg P W base t v) (ht : P.underlying t = some (.slice e)) (he : P.underlying e = some (.int κ)) (hn : P.cellsOf e = 1) (hb : P.bytesOf e = B) (hB : 0 < B) :
    ∃ (a : Option Addr) (len cap b m : Nat) (xs : Nat → Int), v = .slice a len cap ∧ len ≤ cap ∧ cap ≤ 140737488351232 ∧ (a = none → cap = 0) ∧ (0 < cap → a = some ⟨b, m, none⟩) ∧ ∀ k, k < cap → W.cell? ⟨b, m + k, none⟩ = some (.int κ (xs k)) ∧ (Lit.int κ (xs k)).wf = true := by
  obtain ⟨a, len, cap, b, m, xs, rfl, h1, h2, h3, h4, h6, h5⟩ := h.ints ht he hn
  rw [hb] at h3
  simp only [reachBytes] at h3
  have : cap * 1 ≤ cap * B := Nat.mul_le_mul_left _ hB
  exact ⟨a, len, cap, b, m, xs, rfl, h1, by omega, h6, h4, h5⟩

theorem arg_row {P : Program} {W : World} {base : Nat} {v : Value} {t e : TypeId} (h : Arg P W base t v) (ht : P.underlying t = some (.slice e)) (he : P.underlying e = some (.int .i64)) (hn : P.cellsOf e = 1) (hb : P.bytesOf e = 8) :
    ∃ (a : Option Addr) (n c : Nat) (xs : Nat → Int), v = .slice a n c ∧ n ≤ c ∧ c ≤ 140737488351232 ∧ Row W a n xs := by
  obtain ⟨a, n, c, b, m, xs, rfl, h1, h2, _, h4, h5⟩ := arg_intsOf h ht he hn hb (by decide)
  exact ⟨a, n, c, xs, rfl, h1, h2, b, m, fun h0 => h4 (by omega), fun k hk => (h5 k (by omega)).1⟩

theorem arg_bools {P : Program} {W : World} {base : Nat} {v : Value} {t e : TypeId} (h : Arg P W base t v) (ht : P.underlying t = some (.slice e)) (he : P.underlying e = some .bool) (hn : P.cellsOf e = 1) (hb : P.bytesOf e = 1) : ∃ (a : Option Addr) (len cap : Nat) (xs : Nat → Bool), v = .slice a len cap ∧ len ≤ 140737488351232 ∧ ∃ b m, (0 < len → a = some ⟨b, m, none⟩) ∧ ∀ k, k < len → W.cell? ⟨b, m + k, none⟩ = some (.bool (xs k)) := by
  obtain ⟨a, len, cap, b, m, C, rfl, h1, h2, h3, h4, _, h5⟩ := h.rows ht hn Nat.one_pos
  obtain ⟨xs, hxs⟩ := Deep.choose_lt (α := Bool) (n := cap) (p := fun k x => C k = [.bool x]) fun k hk => (h5 k hk).2.1.bool he
  rw [hb] at h3
  simp only [reachBytes] at h3
  refine ⟨a, len, cap, xs, rfl, by omega, b, m, fun h0 => h4 (by omega), fun k hk => ?_⟩
  have := (h5 k (by omega)).2.2 0 Nat.one_pos
  rw [hxs k (by omega)] at this
  simpa using this
end Go.Proofs.YtgflfdnajchjaaaGreatDoor
