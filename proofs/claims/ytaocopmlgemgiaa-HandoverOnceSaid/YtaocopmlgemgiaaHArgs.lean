/- The arguments of the laws of layer 42, as their walks want them. -/
import Derived.Test.YtaocopmlgemgiaaRows
import Derived.Test.YtaocopmlgemgiaaArgs
import Derived.Test.YtaocopmlgemgiaaH2
namespace Go.Proofs.Ytaocopmlgemgiaa
set_option linter.unusedVariables false
set_option linter.unusedSimpArgs false
open Go.ChangeShapes Go.WideShapes Go.ChangeAt Go.RowKit

theorem own : ownKnob Try.prog.godebug = none := by kernel_rfl
theorem cells3 : Try.prog.cellsOf 3 = 1 := by kernel_rfl
theorem bytes3 : Try.prog.bytesOf 3 = 8 := by kernel_rfl
theorem cells23 : Try.prog.cellsOf 23 = 3 := by kernel_rfl
theorem cells25 : Try.prog.cellsOf 25 = 3 := by kernel_rfl
theorem cells27 : Try.prog.cellsOf 27 = 4 := by kernel_rfl

theorem arg_patience {W : World} {base : Nat} {v : Value} (h : Arg Try.prog W base 23 v) : ∃ a b c, v = pv a b c := by
  obtain ⟨cs, rfl, h2⟩ := h.struct Try.underlying23
  obtain ⟨hl, hf⟩ := h2.struct Try.underlying23
  rw [cells23] at hl
  obtain ⟨x0, h0, _⟩ := (hf 0 _ rfl).int Try.underlying3
  obtain ⟨x1, h1, _⟩ := (hf 1 _ rfl).int Try.underlying3
  obtain ⟨x2, h2, _⟩ := (hf 2 _ rfl).int Try.underlying3
  match cs, hl with
  | [a, b, c], _ =>
    simp [cells3] at h0 h1 h2
    subst h0 h1 h2
    exact ⟨x0, x1, x2, rfl⟩
theorem arg_move {W : World} {base : Nat} {v : Value} (h : Arg Try.prog W base 25 v) : ∃ a b c, v = mv a b c ∧ (Lit.int .i64 a).wf = true := by
  obtain ⟨cs, rfl, h2⟩ := h.struct Try.underlying25
  obtain ⟨hl, hf⟩ := h2.struct Try.underlying25
  rw [cells25] at hl
  obtain ⟨x0, h0, w0⟩ := (hf 0 _ rfl).int Try.underlying3
  obtain ⟨x1, h1, _⟩ := (hf 1 _ rfl).int Try.underlying3
  obtain ⟨x2, h2, _⟩ := (hf 2 _ rfl).int Try.underlying3
  match cs, hl with
  | [a, b, c], _ =>
    simp [cells3] at h0 h1 h2
    subst h0 h1 h2
    exact ⟨x0, x1, x2, rfl, w0⟩
theorem arg_roam {W : World} {base : Nat} {v : Value} (h : Arg Try.prog W base 27 v) : ∃ a b c d, v = .agg #[.int .i64 a, .int .i64 b, .int .i64 c, .int .i64 d] ∧ (Lit.int .i64 a).wf = true := by
  obtain ⟨cs, rfl, h2⟩ := h.struct Try.underlying27
  obtain ⟨hl, hf⟩ := h2.struct Try.underlying27
  rw [cells27] at hl
  obtain ⟨x0, h0, w0⟩ := (hf 0 _ rfl).int Try.underlying3
  obtain ⟨x1, h1, _⟩ := (hf 1 _ rfl).int Try.underlying3
  obtain ⟨x2, h2, _⟩ := (hf 2 _ rfl).int Try.underlying3
  obtain ⟨x3, h3, _⟩ := (hf 3 _ rfl).int Try.underlying3
  match cs, hl with
  | [a, b, c, d], _ =>
    simp [cells3] at h0 h1 h2 h3
    subst h0 h1 h2 h3
    exact ⟨x0, x1, x2, x3, rfl, w0⟩
end Go.Proofs.Ytaocopmlgemgiaa
