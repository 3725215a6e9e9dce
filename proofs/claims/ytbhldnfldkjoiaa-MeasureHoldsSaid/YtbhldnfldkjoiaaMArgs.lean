/- The arguments of the laws of layer 37, as their walks want them. -/
import Derived.Test.YtbhldnfldkjoiaaRows
import Derived.Test.YtbhldnfldkjoiaaArgs
import Derived.Test.YtbhldnfldkjoiaaM2
namespace Go.Proofs.Ytbhldnfldkjoiaa
set_option linter.unusedVariables false
set_option linter.unusedSimpArgs false
open Go.ChangeShapes Go.WideShapes Go.ChangeAt Go.RowKit

theorem own : ownKnob Try.prog.godebug = none := by kernel_rfl
theorem laidOut : laidOutB Try.prog = true := by kernel_rfl
theorem cells3 : Try.prog.cellsOf 3 = 1 := by kernel_rfl
theorem cells23 : Try.prog.cellsOf 23 = 3 := by kernel_rfl
theorem cells24 : Try.prog.cellsOf 24 = 1 := by kernel_rfl
theorem cells26 : Try.prog.cellsOf 26 = 2 := by kernel_rfl
theorem bytes3 : Try.prog.bytesOf 3 = 8 := by kernel_rfl

theorem arg_rule {W : World} {base : Nat} {v : Value} (h : Arg Try.prog W base 23 v) : ∃ a b c, v = rv a b c := by
  obtain ⟨cs, rfl, h2⟩ := h.struct Try.underlying23
  obtain ⟨hl, hf⟩ := h2.struct Try.underlying23
  rw [cells23] at hl
  obtain ⟨x0, h0, _⟩ := (hf 0 _ rfl).int Try.underlying3
  obtain ⟨x1, h1, _⟩ := (hf 1 _ rfl).int Try.underlying3
  obtain ⟨x2, h2, _⟩ := (hf 2 _ rfl).int Try.underlying3
  match cs, hl with
  | [a, b, c], _ =>
    simp [cells3] at h0 h1 h2
    subst h0 h1 h2
    exact ⟨x0, x1, x2, rfl⟩

theorem rd_row {W : World} {cs : List Value} (h : Rd Try.prog W 24 cs) : ∃ a n c xs, cs = [.slice a n c] ∧ n ≤ 140737488351232 ∧ (a = none → n = 0) ∧ Row W a n xs := by
  obtain ⟨a, n, c, b, m, xs, rfl, h1, h2, h3, h4, h6, h5⟩ := h.ints Try.underlying24 Try.underlying3 cells3
  rw [bytes3] at h3
  simp only [reachBytes] at h3
  exact ⟨a, n, c, xs, rfl, by omega, fun h => by have := h6 h; omega, b, m, fun h0 => h4 (by omega), fun k hk => (h5 k (by omega)).1⟩

theorem arg_sight {W : World} {base : Nat} {v : Value} (h : Arg Try.prog W base 26 v) : ∃ n m fs hs, Sg W v n m fs hs ∧ n ≤ 140737488351232 ∧ m ≤ 140737488351232 := by
  obtain ⟨cs, rfl, h2⟩ := h.struct Try.underlying26
  obtain ⟨hl, hf⟩ := h2.struct Try.underlying26
  rw [cells26] at hl
  obtain ⟨a, n, c, xs, h0, n0, e0, r0⟩ := rd_row (hf 0 _ rfl)
  obtain ⟨d, m, l, ys, h1, n1, e1, r1⟩ := rd_row (hf 1 _ rfl)
  match cs, hl with
  | [u, v], _ =>
    simp [cells24] at h0 h1
    subst h0 h1
    exact ⟨n, m, xs, ys, ⟨a, d, c, l, rfl, e0, e1, r0, r1⟩, n0, n1⟩

/-- A list of numbers. -/
theorem arg_list {W : World} {base : Nat} {v : Value} (h : Arg Try.prog W base 24 v) : ∃ (a : Option Addr) (len cap b m : Nat) (xs : Nat → Int), v = .slice a len cap ∧ len ≤ cap ∧ len ≤ 140737488351232 ∧ (a = none → cap = 0) ∧ (0 < cap → a = some ⟨b, m, none⟩) ∧ (∀ k, k < len → W.cell? ⟨b, m + k, none⟩ = some (.int .i64 (xs k))) ∧ Row W a len xs := by
  obtain ⟨a, len, cap, b, m, xs, rfl, h1, h2, h3, h4, h6, h5⟩ := h.ints Try.underlying24 Try.underlying3 cells3
  rw [bytes3] at h3
  simp only [reachBytes] at h3
  exact ⟨a, len, cap, b, m, xs, rfl, h1, by omega, h6, h4, fun k hk => (h5 k (by omega)).1, b, m, fun h0 => h4 (by omega), fun k hk => (h5 k (by omega)).1⟩
end Go.Proofs.Ytbhldnfldkjoiaa
