/- Arguments that are small arrays of bytes. -/
import Derived.Test.YtdcogbokcbpnnaaRArgs
namespace Go.Proofs.Ytdcogbokcbpnnaa
set_option linter.unusedVariables false
set_option linter.unusedSimpArgs false
open Go.ChangeShapes Go.WideShapes Go.ChangeAt Go.RowKit
theorem cells42 : Try.prog.cellsOf 42 = 3 := by kernel_rfl
theorem cells5 : Try.prog.cellsOf 5 = 1 := by kernel_rfl
theorem arg_b3 {W : World} {base : Nat} {v : Value} (h : Arg Try.prog W base 42 v) : ∃ f : Nat → Int, v = .agg #[.int .u8 (f 0), .int .u8 (f 1), .int .u8 (f 2)] ∧ ∀ i, i < 3 → 0 ≤ f i ∧ f i ≤ 255 := by
  obtain ⟨cs, rfl, hr⟩ := h.array Try.underlying42
  obtain ⟨hl, hf⟩ := hr.array Try.underlying42
  rw [cells42] at hl
  rw [cells5] at hf
  obtain ⟨x0, e0, w0⟩ := (hf 0 (by decide)).int Try.underlying5
  obtain ⟨x1, e1, w1⟩ := (hf 1 (by decide)).int Try.underlying5
  obtain ⟨x2, e2, w2⟩ := (hf 2 (by decide)).int Try.underlying5
  match cs, hl with
  | [p, q, r], _ =>
    simp at e0 e1 e2
    subst e0 e1 e2
    have b0 := bounds_u8 w0
    have b1 := bounds_u8 w1
    have b2 := bounds_u8 w2
    refine ⟨fun i => if i = 0 then x0 else if i = 1 then x1 else x2, rfl, fun i hi => ?_⟩
    rcases (show i = 0 ∨ i = 1 ∨ i = 2 by omega) with rfl | rfl | rfl
    · exact b0
    · exact b1
    · exact b2
end Go.Proofs.Ytdcogbokcbpnnaa
