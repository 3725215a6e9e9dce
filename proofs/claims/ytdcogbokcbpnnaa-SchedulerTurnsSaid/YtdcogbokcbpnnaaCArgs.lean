/- Arguments that are slices of 16-bit numbers. -/
import Derived.Test.YtdcogbokcbpnnaaRArgs
namespace Go.Proofs.Ytdcogbokcbpnnaa
set_option linter.unusedVariables false
set_option linter.unusedSimpArgs false
open Go.ChangeShapes Go.WideShapes Go.ChangeAt Go.RowKit
theorem cells46 : Try.prog.cellsOf 46 = 1 := by kernel_rfl
theorem bytes46 : Try.prog.bytesOf 46 = 2 := by kernel_rfl
theorem arg_u16 {W : World} {base : Nat} {v : Value} (h : Arg Try.prog W base 44 v) : ∃ (a : Option Addr) (len cap b m : Nat) (xs : Nat → Int), v = .slice a len cap ∧ len ≤ 140737488351232 ∧ (0 < len → a = some ⟨b, m, none⟩) ∧ ∀ k, k < len → W.cell? ⟨b, m + k, none⟩ = some (.int .u16 (xs k)) ∧ 0 ≤ xs k ∧ xs k ≤ 65535 := by
  obtain ⟨a, n, c, b, m, xs, rfl, h1, h2, h3, h4, h5⟩ := arg_intsOf (B := 2) h Try.underlying44 Try.underlying46 cells46 bytes46 (by decide)
  exact ⟨a, n, c, b, m, xs, rfl, by omega, fun h0 => h4 (by omega), fun k hk => ⟨(h5 k (by omega)).1, bounds_u16 (h5 k (by omega)).2⟩⟩
end Go.Proofs.Ytdcogbokcbpnnaa
