/- HandoverArrives returns true for every input. Conditions: none. -/
import Derived.Test.YtaocopmlgemgiaaHArgs
import Derived.Test.YtaocopmlgemgiaaL2
namespace Go.Proofs.Ytaocopmlgemgiaa
set_option linter.unusedVariables false
set_option linter.unusedSimpArgs false
open Go.ChangeShapes Go.WideShapes Go.ChangeAt Go.RowKit

theorem handoverArrives_lifted (os : Os) (started : os.Started) (H : Type) (enc : TypeId × Value → H) :
    ReturnsInHanded {} Try.checked os 6 .any (Rows.handoverArrivesSpec.pre6 enc Try.prog Try.f6 Rows.handoverArrivesRow.domain false) (Rows.handoverArrivesSpec.post enc Try.prog Try.f6 false true false false) := by
  refine lift_law (C := Try.checked) (tb := 4) own started (by kernel_rfl) Try.func6
    (ChangeSpec.witness6 (enc := enc) (C := Try.checked) false ⟨#[], #[.int .u8 0, .int .u8 0, .int .u8 0, .int .u8 0, .slice none 0 0], []⟩ 8 (by kernel_rfl) (by kernel_rfl) (by kernel_rfl) (by kernel_rfl))
    laidOut rfl rfl Try.underlying4 (by kernel_rfl) (fun ds hd => ?_) ?_
  · match ds, hd with
    | [_, _, _, _, _], _ => rfl
  · intro W base args hargs hsz
    obtain ⟨l⟩ := args
    match l, hsz with
    | [v0, v1, v2, v3, v4], _ =>
      obtain ⟨x0, rfl, w0⟩ := (hargs 0 5 v0 rfl rfl).int Try.underlying5
      have b0 := bounds_u8 w0
      obtain ⟨x1, rfl, w1⟩ := (hargs 1 5 v1 rfl rfl).int Try.underlying5
      have b1 := bounds_u8 w1
      obtain ⟨x2, rfl, w2⟩ := (hargs 2 5 v2 rfl rfl).int Try.underlying5
      have b2 := bounds_u8 w2
      obtain ⟨x3, rfl, w3⟩ := (hargs 3 5 v3 rfl rfl).int Try.underlying5
      have b3 := bounds_u8 w3
      obtain ⟨ao, n, c, gs, rfl, hn, gb, gm, ha, hgs⟩ := arg_bools (hargs 4 42 v4 rfl rfl) Try.underlying42 Try.underlying4 (by kernel_rfl) (by kernel_rfl)
      exact arrives6 x0 x1 x2 x3 ao n c gb gm gs b0 b1 b2 b3 W hn ha hgs

theorem handoverArrives_holds : Rows.HandoverArrivesSaid :=
  OpenClaim.holds_of_wide 6 Try.f6 rfl rfl rfl rfl rfl rfl rfl ⟨rfl, rfl, rfl, rfl, rfl⟩ rfl rfl rfl rfl rfl (by kernel_rfl) Try.func6 (by kernel_rfl)
    (of_decide_eq_true (by kernel_rfl)) (by unfold Func.isWrapper; rw [if_neg (of_decide_eq_false (by kernel_rfl))]; exact ⟨rfl, rfl⟩)
    (fun os started H enc _ => handoverArrives_lifted os started H enc)
end Go.Proofs.Ytaocopmlgemgiaa
