/- GuaranteePlans returns true for every input. Conditions: none. -/
import Derived.Test.YteokhadpenalaaaGArgs
import Derived.Test.YteokhadpenalaaaL6
namespace Go.Proofs.Yteokhadpenalaaa
open Go.ChangeShapes Go.WideShapes Go.ChangeAt Go.RowKit
set_option linter.unusedVariables false
set_option linter.unusedSimpArgs false

theorem guaranteePlans_lifted (os : Os) (started : os.Started) (H : Type) (enc : TypeId × Value → H) :
    ReturnsInHanded {} Try.checked os 5 .any (Rows.guaranteePlansSpec.pre6 enc Try.prog Try.f5 Rows.guaranteePlansRow.domain false) (Rows.guaranteePlansSpec.post enc Try.prog Try.f5 false true false false) := by
  refine lift_law (C := Try.checked) (tb := 4) own started (by kernel_rfl) Try.func5
    (ChangeSpec.witness6 (enc := enc) (C := Try.checked) false ⟨#[], #[.slice none 0 0, .int .u8 0], []⟩ 8 (by kernel_rfl) (by kernel_rfl) (by kernel_rfl) (by kernel_rfl))
    laidOut rfl rfl Try.underlying4 (by kernel_rfl) (fun ds hd => ?_) ?_
  · match ds, hd with
    | [_, _], _ => rfl
  · intro W base args hargs hsz
    obtain ⟨l⟩ := args
    match l, hsz with
    | [v0, v1], _ =>
      obtain ⟨a, n, c, b, m, xs, rfl, h1, h2, h3, h4, h5, h6⟩ := arg_list (hargs 0 23 v0 rfl rfl)
      obtain ⟨x1, rfl, w1⟩ := (hargs 1 5 v1 rfl rfl).int Try.underlying5
      have b1 := bounds_u8 w1
      exact plans5 a b m n c xs x1 W ⟨h1, h3, h4, h5⟩ h2 b1

theorem guaranteePlans_holds : Rows.GuaranteePlansSaid :=
  OpenClaim.holds_of_wide 5 Try.f5 rfl rfl rfl rfl rfl rfl rfl ⟨rfl, rfl, rfl, rfl, rfl⟩ rfl rfl rfl rfl rfl (by kernel_rfl) Try.func5 (by kernel_rfl)
    (of_decide_eq_true (by kernel_rfl)) (by unfold Func.isWrapper; rw [if_neg (of_decide_eq_false (by kernel_rfl))]; exact ⟨rfl, rfl⟩)
    (fun os started H enc _ => guaranteePlans_lifted os started H enc)
end Go.Proofs.Yteokhadpenalaaa
