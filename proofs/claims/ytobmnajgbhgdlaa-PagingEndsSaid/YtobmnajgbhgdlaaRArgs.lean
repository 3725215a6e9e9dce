/- Lists of 16-bit numbers as arguments. -/
import Derived.Test.YtobmnajgbhgdlaaPArgs
import Derived.Test.YtobmnajgbhgdlaaL4
namespace Go.Proofs.Ytobmnajgbhgdlaa
set_option linter.unusedVariables false
set_option linter.unusedSimpArgs false
open Go.ChangeShapes Go.WideShapes Go.ChangeAt Go.RowKit
theorem cells30 : Try.prog.cellsOf 30 = 1 := by kernel_rfl
theorem bytes30 : Try.prog.bytesOf 30 = 2 := by kernel_rfl
theorem arg_u16s {W : World} {base : Nat} {v : Value} (h : Arg Try.prog W base 22 v) : ∃ (a : Option Addr) (len cap b m : Nat) (xs : Nat → Int), v = .slice a len cap ∧ len ≤ 140737488351232 ∧ U16s W a b m len xs := by
  obtain ⟨a, n, c, b, m, xs, rfl, h1, h2, h3, h4, h5⟩ := arg_intsOf (B := 2) h Try.underlying22 Try.underlying30 cells30 bytes30 (by decide)
  exact ⟨a, n, c, b, m, xs, rfl, by omega, fun h0 => h4 (by omega), fun k hk => ⟨(h5 k (by omega)).1, bounds_u16 (h5 k (by omega)).2⟩⟩
end Go.Proofs.Ytobmnajgbhgdlaa
