/- PriorityAlone returns true for every input. Conditions: none. -/
import Derived.Test.YtgcplboiodnfpaaPArgs
import Derived.Test.YtgcplboiodnfpaaL2
namespace Go.Proofs.Ytgcplboiodnfpaa
open Go.ChangeShapes Go.WideShapes Go.ChangeAt Go.RowKit
set_option linter.unusedVariables false
set_option linter.unusedSimpArgs false

theorem priorityAlone_lifted (os : Os) (started : os.Started) (H : Type) (enc : TypeId × Value → H) :
    ReturnsInHanded {} Try.checked os 4 .any (Rows.priorityAloneSpec.pre6 enc Try.prog Try.f4 Rows.priorityAloneRow.domain false) (Rows.priorityAloneSpec.post enc Try.prog Try.f4 false true false false) := by
  refine lift_law (C := Try.checked) (tb := 4) own started (by kernel_rfl) Try.func4
    (ChangeSpec.witness6 (enc := enc) (C := Try.checked) false ⟨#[], #[.int .i16 0, .int .u8 0, .int .u8 0, .int .u8 0, .int .u8 0], []⟩ 8 (by kernel_rfl) (by kernel_rfl) (by kernel_rfl) (by kernel_rfl))
    laidOut rfl rfl Try.underlying4 (by kernel_rfl) (fun ds hd => ?_) ?_
  · match ds, hd with
    | [_, _, _, _, _], _ => rfl
  · intro W base args hargs hsz
    obtain ⟨l⟩ := args
    match l, hsz with
    | [v0, v1, v2, v3, v4], _ =>
      obtain ⟨x0, rfl, w0⟩ := (hargs 0 37 v0 rfl rfl).int Try.underlying37
      have b0 := bounds_i16 w0
      obtain ⟨x1, rfl, w1⟩ := (hargs 1 5 v1 rfl rfl).int Try.underlying5
      have b1 := bounds_u8 w1
      obtain ⟨x2, rfl, w2⟩ := (hargs 2 5 v2 rfl rfl).int Try.underlying5
      have b2 := bounds_u8 w2
      obtain ⟨x3, rfl, w3⟩ := (hargs 3 5 v3 rfl rfl).int Try.underlying5
      have b3 := bounds_u8 w3
      obtain ⟨x4, rfl, w4⟩ := (hargs 4 5 v4 rfl rfl).int Try.underlying5
      have b4 := bounds_u8 w4
      exact alone4 x0 x1 x2 x3 x4 W b0 b1 b2 b3 b4

theorem priorityAlone_holds : Rows.PriorityAloneSaid :=
  OpenClaim.holds_of_wide 4 Try.f4 rfl rfl rfl rfl rfl rfl rfl ⟨rfl, rfl, rfl, rfl, rfl⟩ rfl rfl rfl rfl rfl (by kernel_rfl) Try.func4 (by kernel_rfl)
    (of_decide_eq_true (by kernel_rfl)) (by unfold Func.isWrapper; rw [if_neg (of_decide_eq_false (by kernel_rfl))]; exact ⟨rfl, rfl⟩)
    (fun os started H enc _ => priorityAlone_lifted os started H enc)
end Go.Proofs.Ytgcplboiodnfpaa
