/- FairNears returns true for every input: with the same bytes in each tick a mean comes within 15 of 64 times them and stays there. Conditions: none. -/
import Derived.Test.YtkjadgjambphjaaArgs
import Derived.Test.YtkjadgjambphjaaN1
namespace Go.Proofs.Ytkjadgjambphjaa
open Go.ChangeShapes Go.WideShapes Go.ChangeAt Go.RowKit
set_option linter.unusedVariables false

theorem fairNears_lifted (os : Os) (started : os.Started) (H : Type) (enc : TypeId × Value → H) :
    ReturnsInHanded {} Try.checked os 4 .any (Rows.fairNearsSpec.pre6 enc Try.prog Try.f4 Rows.fairNearsRow.domain false) (Rows.fairNearsSpec.post enc Try.prog Try.f4 false true false false) := by
  refine lift_law (C := Try.checked) (tb := 4) own started (by kernel_rfl) Try.func4
    (ChangeSpec.witness6 (enc := enc) (C := Try.checked) false ⟨#[], #[.int .u32 0, .int .u16 0], []⟩ 8 (by kernel_rfl) (by kernel_rfl) (by kernel_rfl) (by kernel_rfl))
    laidOut rfl rfl Try.underlying4 (by kernel_rfl) (fun ds hd => ?_) ?_
  · match ds, hd with
    | [_, _], _ => rfl
  · intro W base args hargs hsz
    obtain ⟨l⟩ := args
    match l, hsz with
    | [v0, v1], _ =>
      obtain ⟨a, rfl, w0⟩ := (hargs 0 32 v0 rfl rfl).int Try.underlying32
      have b0 := bounds_u32 w0
      obtain ⟨b, rfl, w1⟩ := (hargs 1 33 v1 rfl rfl).int Try.underlying33
      have b1 := bounds_u16 w1
      exact nears4 a b W b0.1 b0.2 b1.1 b1.2

theorem fairNears_holds : Rows.FairNearsSaid :=
  OpenClaim.holds_of_wide 4 Try.f4 rfl rfl rfl rfl rfl rfl rfl ⟨rfl, rfl, rfl, rfl, rfl⟩ rfl rfl rfl rfl rfl (by kernel_rfl) Try.func4 (by kernel_rfl)
    (of_decide_eq_true (by kernel_rfl)) (by unfold Func.isWrapper; rw [if_neg (of_decide_eq_false (by kernel_rfl))]; exact ⟨rfl, rfl⟩)
    (fun os started H enc _ => fairNears_lifted os started H enc)
end Go.Proofs.Ytkjadgjambphjaa
