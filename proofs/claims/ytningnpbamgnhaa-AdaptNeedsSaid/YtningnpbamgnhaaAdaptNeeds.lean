/- AdaptNeeds returns true for every input. Conditions: none. -/
import Derived.Test.YtningnpbamgnhaaArgs
import Derived.Test.YtningnpbamgnhaaA4
namespace Go.Proofs.Ytningnpbamgnhaa
open Go.ChangeShapes Go.WideShapes Go.ChangeAt Go.RowKit
set_option linter.unusedVariables false

theorem adaptNeeds_lifted (os : Os) (started : os.Started) (H : Type) (enc : TypeId × Value → H) :
    ReturnsInHanded {} Try.checked os 4 .any (Rows.adaptNeedsSpec.pre6 enc Try.prog Try.f4 Rows.adaptNeedsRow.domain false) (Rows.adaptNeedsSpec.post enc Try.prog Try.f4 false true false false) := by
  refine lift_law (C := Try.checked) (tb := 4) own started (by kernel_rfl) Try.func4
    (ChangeSpec.witness6 (enc := enc) (C := Try.checked) false ⟨#[], #[.int .u8 0, .int .u16 0], []⟩ 8 (by kernel_rfl) (by kernel_rfl) (by kernel_rfl) (by kernel_rfl))
    laidOut rfl rfl Try.underlying4 (by kernel_rfl) (fun ds hd => ?_) ?_
  · match ds, hd with
    | [_, _], _ => rfl
  · intro W base args hargs hsz
    obtain ⟨l⟩ := args
    match l, hsz with
    | [v0, v1], _ =>
      obtain ⟨a, rfl, w0⟩ := (hargs 0 5 v0 rfl rfl).int Try.underlying5
      have b0 := bounds_u8 w0
      obtain ⟨b, rfl, w1⟩ := (hargs 1 25 v1 rfl rfl).int Try.underlying25
      have b1 := bounds_u16 w1
      exact needs4 a b W b0 b1

theorem adaptNeeds_holds : Rows.AdaptNeedsSaid :=
  OpenClaim.holds_of_wide 4 Try.f4 rfl rfl rfl rfl rfl rfl rfl ⟨rfl, rfl, rfl, rfl, rfl⟩ rfl rfl rfl rfl rfl (by kernel_rfl) Try.func4 (by kernel_rfl)
    (of_decide_eq_true (by kernel_rfl)) (by unfold Func.isWrapper; rw [if_neg (of_decide_eq_false (by kernel_rfl))]; exact ⟨rfl, rfl⟩)
    (fun os started H enc _ => adaptNeeds_lifted os started H enc)
end Go.Proofs.Ytningnpbamgnhaa
