/- The arguments of FairOrder, as its walk wants them. -/
import Derived.Test.YtkjadgjambphjaaArgs
import Derived.Test.YtkjadgjambphjaaO1
namespace Go.Proofs.Ytkjadgjambphjaa
set_option linter.unusedVariables false
set_option linter.unusedSimpArgs false
open Go.ChangeShapes Go.WideShapes Go.ChangeAt Go.RowKit

theorem cells35 : Try.prog.cellsOf 35 = 3 := by kernel_rfl
theorem cells36 : Try.prog.cellsOf 36 = 3 := by kernel_rfl
theorem cells33 : Try.prog.cellsOf 33 = 1 := by kernel_rfl
theorem cells32 : Try.prog.cellsOf 32 = 1 := by kernel_rfl
theorem arg_rates {W : World} {base : Nat} {v : Value} (h : Arg Try.prog W base 35 v) : ∃ x0 x1 x2 : Int, v = .agg #[.int .u16 x0, .int .u16 x1, .int .u16 x2] ∧ (0 ≤ x0 ∧ x0 ≤ 65535) ∧ (0 ≤ x1 ∧ x1 ≤ 65535) ∧ (0 ≤ x2 ∧ x2 ≤ 65535) := by
  obtain ⟨cs, rfl, hr⟩ := h.array Try.underlying35
  obtain ⟨hl, hf⟩ := hr.array Try.underlying35
  rw [cells35] at hl
  rw [cells33] at hf
  obtain ⟨x0, e0, b0⟩ := (hf 0 (by omega)).int Try.underlying33
  obtain ⟨x1, e1, b1⟩ := (hf 1 (by omega)).int Try.underlying33
  obtain ⟨x2, e2, b2⟩ := (hf 2 (by omega)).int Try.underlying33
  match cs, hl with
  | [p, q, r], _ =>
    simp at e0 e1 e2
    subst e0 e1 e2
    exact ⟨_, _, _, rfl, bounds_u16 b0, bounds_u16 b1, bounds_u16 b2⟩
theorem arg_means3 {W : World} {base : Nat} {v : Value} (h : Arg Try.prog W base 36 v) : ∃ x0 x1 x2 : Int, v = .agg #[.int .u32 x0, .int .u32 x1, .int .u32 x2] ∧ (0 ≤ x0 ∧ x0 ≤ 4294967295) ∧ (0 ≤ x1 ∧ x1 ≤ 4294967295) ∧ (0 ≤ x2 ∧ x2 ≤ 4294967295) := by
  obtain ⟨cs, rfl, hr⟩ := h.array Try.underlying36
  obtain ⟨hl, hf⟩ := hr.array Try.underlying36
  rw [cells36] at hl
  rw [cells32] at hf
  obtain ⟨x0, e0, b0⟩ := (hf 0 (by omega)).int Try.underlying32
  obtain ⟨x1, e1, b1⟩ := (hf 1 (by omega)).int Try.underlying32
  obtain ⟨x2, e2, b2⟩ := (hf 2 (by omega)).int Try.underlying32
  match cs, hl with
  | [p, q, r], _ =>
    simp at e0 e1 e2
    subst e0 e1 e2
    exact ⟨_, _, _, rfl, bounds_u32 b0, bounds_u32 b1, bounds_u32 b2⟩
end Go.Proofs.Ytkjadgjambphjaa
