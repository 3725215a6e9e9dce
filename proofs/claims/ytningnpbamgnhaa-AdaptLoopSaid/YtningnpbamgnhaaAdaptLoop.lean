/- AdaptLoop returns true for every input. Conditions: none. -/
import Derived.Test.YtningnpbamgnhaaArgs
import Derived.Test.YtningnpbamgnhaaA5
namespace Go.Proofs.Ytningnpbamgnhaa
open Go.ChangeShapes Go.WideShapes Go.ChangeAt Go.RowKit
set_option linter.unusedVariables false

theorem adaptLoop_lifted (os : Os) (started : os.Started) (H : Type) (enc : TypeId × Value → H) :
    ReturnsInHanded {} Try.checked os 6 .any (Rows.adaptLoopSpec.pre6 enc Try.prog Try.f6 Rows.adaptLoopRow.domain false) (Rows.adaptLoopSpec.post enc Try.prog Try.f6 false true false false) := by
  refine lift_law (C := Try.checked) (tb := 4) own started (by kernel_rfl) Try.func6
    (ChangeSpec.witness6 (enc := enc) (C := Try.checked) false ⟨#[], #[.int .u8 0, .int .u8 0, .slice none 0 0], []⟩ 8 (by kernel_rfl) (by kernel_rfl) (by kernel_rfl) (by kernel_rfl))
    laidOut rfl rfl Try.underlying4 (by kernel_rfl) (fun ds hd => ?_) ?_
  · match ds, hd with
    | [_, _, _], _ => rfl
  · intro W base args hargs hsz
    obtain ⟨l⟩ := args
    match l, hsz with
    | [v0, v1, v2], _ =>
      obtain ⟨a, rfl, w0⟩ := (hargs 0 5 v0 rfl rfl).int Try.underlying5
      have b0 := bounds_u8 w0
      obtain ⟨b, rfl, w1⟩ := (hargs 1 5 v1 rfl rfl).int Try.underlying5
      have b1 := bounds_u8 w1
      obtain ⟨ao, n, c, xs, rfl, hn, R⟩ := arg_bools (hargs 2 32 v2 rfl rfl)
      exact loop6 a b ao n c xs W b0 b1 hn R

theorem adaptLoop_holds : Rows.AdaptLoopSaid :=
  OpenClaim.holds_of_wide 6 Try.f6 rfl rfl rfl rfl rfl rfl rfl ⟨rfl, rfl, rfl, rfl, rfl⟩ rfl rfl rfl rfl rfl (by kernel_rfl) Try.func6 (by kernel_rfl)
    (of_decide_eq_true (by kernel_rfl)) (by unfold Func.isWrapper; rw [if_neg (of_decide_eq_false (by kernel_rfl))]; exact ⟨rfl, rfl⟩)
    (fun os started H enc _ => adaptLoop_lifted os started H enc)
end Go.Proofs.Ytningnpbamgnhaa
