/- MeasureBack returns true for every input. Conditions: none. -/
import Derived.Test.YtbhldnfldkjoiaaMArgs
import Derived.Test.YtbhldnfldkjoiaaL2
namespace Go.Proofs.Ytbhldnfldkjoiaa
open Go.ChangeShapes Go.WideShapes Go.ChangeAt Go.RowKit
set_option linter.unusedVariables false

theorem measureBack_lifted (os : Os) (started : os.Started) (H : Type) (enc : TypeId × Value → H) :
    ReturnsInHanded {} Try.checked os 7 .any (Rows.measureBackSpec.pre6 enc Try.prog Try.f7 Rows.measureBackRow.domain false) (Rows.measureBackSpec.post enc Try.prog Try.f7 false true false false) := by
  refine lift_law (C := Try.checked) (tb := 4) own started (by kernel_rfl) Try.func7
    (ChangeSpec.witness6 (enc := enc) (C := Try.checked) false ⟨#[], #[.int .u8 0, .int .u8 0, .int .u8 0, .int .u8 0, .int .u8 0], []⟩ 8 (by kernel_rfl) (by kernel_rfl) (by kernel_rfl) (by kernel_rfl))
    laidOut rfl rfl Try.underlying4 (by kernel_rfl) (fun ds hd => ?_) ?_
  · match ds, hd with
    | [_, _, _, _, _], _ => rfl
  · intro W base args hargs hsz
    obtain ⟨l⟩ := args
    match l, hsz with
    | [v0, v1, v2, v3, v4], _ =>
      obtain ⟨x0, rfl, w0⟩ := (hargs 0 5 v0 rfl rfl).int Try.underlying5
      have b0 := bounds_u8 w0
      obtain ⟨x1, rfl, w1⟩ := (hargs 1 5 v1 rfl rfl).int Try.underlying5
      have b1 := bounds_u8 w1
      obtain ⟨x2, rfl, w2⟩ := (hargs 2 5 v2 rfl rfl).int Try.underlying5
      have b2 := bounds_u8 w2
      obtain ⟨x3, rfl, w3⟩ := (hargs 3 5 v3 rfl rfl).int Try.underlying5
      have b3 := bounds_u8 w3
      obtain ⟨x4, rfl, w4⟩ := (hargs 4 5 v4 rfl rfl).int Try.underlying5
      have b4 := bounds_u8 w4
      exact back7 x0 x1 x2 x3 x4 b0 b1 b2 b3 b4 W

theorem measureBack_holds : Rows.MeasureBackSaid :=
  OpenClaim.holds_of_wide 7 Try.f7 rfl rfl rfl rfl rfl rfl rfl ⟨rfl, rfl, rfl, rfl, rfl⟩ rfl rfl rfl rfl rfl (by kernel_rfl) Try.func7 (by kernel_rfl)
    (of_decide_eq_true (by kernel_rfl)) (by unfold Func.isWrapper; rw [if_neg (of_decide_eq_false (by kernel_rfl))]; exact ⟨rfl, rfl⟩)
    (fun os started H enc _ => measureBack_lifted os started H enc)
end Go.Proofs.Ytbhldnfldkjoiaa
