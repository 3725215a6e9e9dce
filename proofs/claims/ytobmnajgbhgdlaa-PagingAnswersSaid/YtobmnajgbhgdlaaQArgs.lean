/- Lists of bytes and of 16-bit numbers as arguments. -/
import Derived.Test.YtobmnajgbhgdlaaPArgs
import Derived.Test.YtobmnajgbhgdlaaL3
namespace Go.Proofs.Ytobmnajgbhgdlaa
set_option linter.unusedVariables false
set_option linter.unusedSimpArgs false
open Go.ChangeShapes Go.WideShapes Go.ChangeAt Go.RowKit
theorem cells5 : Try.prog.cellsOf 5 = 1 := by kernel_rfl
theorem bytes5 : Try.prog.bytesOf 5 = 1 := by kernel_rfl
theorem arg_u8s {W : World} {base : Nat} {v : Value} (h : Arg Try.prog W base 45 v) : ∃ (a : Option Addr) (len cap b m : Nat) (xs : Nat → Int), v = .slice a len cap ∧ len ≤ 281474976710656 ∧ U8s W a b m len xs := by
  obtain ⟨a, n, c, b, m, xs, rfl, h1, h2, h3, h4, h5⟩ := arg_intsOf (B := 1) h Try.underlying45 Try.underlying5 cells5 bytes5 (by decide)
  exact ⟨a, n, c, b, m, xs, rfl, by omega, fun h0 => h4 (by omega), fun k hk => ⟨(h5 k (by omega)).1, bounds_u8 (h5 k (by omega)).2⟩⟩
end Go.Proofs.Ytobmnajgbhgdlaa
