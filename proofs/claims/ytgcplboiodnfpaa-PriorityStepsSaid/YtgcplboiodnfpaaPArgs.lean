/- The arguments of the laws of layer 25, as their walks want them. -/
import Derived.Test.YtgcplboiodnfpaaRows
import Derived.Test.YtgcplboiodnfpaaArgs
import Derived.Test.YtgcplboiodnfpaaP0
namespace Go.Proofs.Ytgcplboiodnfpaa
set_option linter.unusedVariables false
set_option linter.unusedSimpArgs false
open Go.ChangeShapes Go.WideShapes Go.ChangeAt Go.RowKit

theorem own : ownKnob Try.prog.godebug = none := by kernel_rfl
theorem laidOut : laidOutB Try.prog = true := by kernel_rfl
theorem cells3 : Try.prog.cellsOf 3 = 1 := by kernel_rfl
theorem bytes3 : Try.prog.bytesOf 3 = 8 := by kernel_rfl
theorem cells5 : Try.prog.cellsOf 5 = 1 := by kernel_rfl
theorem bytes5 : Try.prog.bytesOf 5 = 1 := by kernel_rfl
theorem cells35 : Try.prog.cellsOf 35 = 4 := by kernel_rfl
theorem bytes35 : Try.prog.bytesOf 35 = 32 := by kernel_rfl

theorem arg_bs {W : World} {base : Nat} {v : Value} (h : Arg Try.prog W base 25 v) : ∃ (a : Option Addr) (n c : Nat) (P R M T : Nat → Int), v = .slice a n c ∧ n ≤ 140737488351232 ∧ (a = none → n = 0) ∧ R4 W a n P R M T := by
  obtain ⟨a, len, cap, b, m, C, rfl, h1, h2, h3, h4, h6, h5⟩ := h.rows Try.underlying25 cells35 (by decide)
  rw [bytes35] at h3
  simp only [reachBytes] at h3
  have hC : ∀ k, k < cap → ∃ x : Int × Int × Int × Int, C k = [.int .i64 x.1, .int .i64 x.2.1, .int .i64 x.2.2.1, .int .i64 x.2.2.2] := fun k hk => by
    obtain ⟨hl, hr, _⟩ := h5 k hk
    obtain ⟨_, hf⟩ := hr.struct Try.underlying35
    obtain ⟨x0, e0, _⟩ := (hf 0 _ rfl).int Try.underlying3
    obtain ⟨x1, e1, _⟩ := (hf 1 _ rfl).int Try.underlying3
    obtain ⟨x2, e2, _⟩ := (hf 2 _ rfl).int Try.underlying3
    obtain ⟨x3, e3, _⟩ := (hf 3 _ rfl).int Try.underlying3
    generalize C k = L at *
    match L, hl with
    | [p, q, r, s], _ =>
      simp [cells3] at e0 e1 e2 e3
      subst e0 e1 e2 e3
      exact ⟨(x0, x1, x2, x3), rfl⟩
  obtain ⟨X, hX⟩ := Deep.choose_lt (α := Int × Int × Int × Int) (n := cap) (p := fun k x => C k = [.int .i64 x.1, .int .i64 x.2.1, .int .i64 x.2.2.1, .int .i64 x.2.2.2]) hC
  refine ⟨a, len, cap, fun k => (X k).1, fun k => (X k).2.1, fun k => (X k).2.2.1, fun k => (X k).2.2.2, rfl, by omega, fun h => by have := h6 h; omega, b, m, fun h0 => h4 (by omega), fun k hk => ?_⟩
  have hh := (h5 k (by omega)).2.2
  rw [hX k (by omega)] at hh
  exact ⟨by simpa using hh 0 (by omega), by simpa [Nat.add_assoc] using hh 1 (by omega), by simpa [Nat.add_assoc] using hh 2 (by omega), by simpa [Nat.add_assoc] using hh 3 (by omega)⟩
theorem arg_list {W : World} {base : Nat} {v : Value} (h : Arg Try.prog W base 22 v) : ∃ (a : Option Addr) (len cap b m : Nat) (xs : Nat → Int), v = .slice a len cap ∧ len ≤ cap ∧ len ≤ 140737488351232 ∧ (a = none → cap = 0) ∧ (0 < cap → a = some ⟨b, m, none⟩) ∧ (∀ k, k < len → W.cell? ⟨b, m + k, none⟩ = some (.int .i64 (xs k))) ∧ Row W a len xs := by
  obtain ⟨a, n, c, b, m, xs, rfl, h1, h2, h3, h4, h5⟩ := arg_intsOf (B := 8) h Try.underlying22 Try.underlying3 cells3 bytes3 (by decide)
  exact ⟨a, n, c, b, m, xs, rfl, h1, by omega, h3, h4, fun k hk => (h5 k (by omega)).1, b, m, fun h0 => h4 (by omega), fun k hk => (h5 k (by omega)).1⟩
/-- A slice of bytes (numbers from 0 to 255). -/
theorem arg_u8s {W : World} {base : Nat} {v : Value} (h : Arg Try.prog W base 43 v) : ∃ (a : Option Addr) (len cap b m : Nat) (xs : Nat → Int), v = .slice a len cap ∧ len ≤ 281474976710656 ∧ (0 < len → a = some ⟨b, m, none⟩) ∧ ∀ k, k < len → W.cell? ⟨b, m + k, none⟩ = some (.int .u8 (xs k)) ∧ 0 ≤ xs k ∧ xs k ≤ 255 := by
  obtain ⟨a, n, c, b, m, xs, rfl, h1, h2, h3, h4, h5⟩ := arg_intsOf (B := 1) h Try.underlying43 Try.underlying5 cells5 bytes5 (by decide)
  exact ⟨a, n, c, b, m, xs, rfl, by omega, fun h0 => h4 (by omega), fun k hk => ⟨(h5 k (by omega)).1, bounds_u8 (h5 k (by omega)).2⟩⟩
end Go.Proofs.Ytgcplboiodnfpaa
