/- FairOrder returns true for every input: who is preferred is preferred in one way only and from one to the next, and the best one is not behind any other. Conditions: none. -/
import Derived.Test.YtkjadgjambphjaaOArgs
namespace Go.Proofs.Ytkjadgjambphjaa
open Go.ChangeShapes Go.WideShapes Go.ChangeAt Go.RowKit
set_option linter.unusedVariables false
set_option linter.unusedSimpArgs false

theorem fairOrder_lifted (os : Os) (started : os.Started) (H : Type) (enc : TypeId × Value → H) :
    ReturnsInHanded {} Try.checked os 5 .any (Rows.fairOrderSpec.pre6 enc Try.prog Try.f5 Rows.fairOrderRow.domain false) (Rows.fairOrderSpec.post enc Try.prog Try.f5 false true false false) := by
  refine lift_law (C := Try.checked) (tb := 4) own started (by kernel_rfl) Try.func5
    (ChangeSpec.witness6 (enc := enc) (C := Try.checked) false ⟨#[], #[.agg #[.int .u16 0, .int .u16 0, .int .u16 0], .agg #[.int .u32 0, .int .u32 0, .int .u32 0]], []⟩ 8 (by kernel_rfl) (by kernel_rfl) (by kernel_rfl) (by kernel_rfl))
    laidOut rfl rfl Try.underlying4 (by kernel_rfl) (fun ds hd => ?_) ?_
  · match ds, hd with
    | [_, _], _ => rfl
  · intro W base args hargs hsz
    obtain ⟨l⟩ := args
    match l, hsz with
    | [v0, v1], _ =>
      obtain ⟨x0, x1, x2, rfl, c0, c1, c2⟩ := arg_rates (hargs 0 35 v0 rfl rfl)
      obtain ⟨y0, y1, y2, rfl, d0, d1, d2⟩ := arg_means3 (hargs 1 36 v1 rfl rfl)
      exact order5 x0 x1 x2 y0 y1 y2 W ⟨c0, c1, c2⟩ ⟨d0, d1, d2⟩

theorem fairOrder_holds : Rows.FairOrderSaid :=
  OpenClaim.holds_of_wide 5 Try.f5 rfl rfl rfl rfl rfl rfl rfl ⟨rfl, rfl, rfl, rfl, rfl⟩ rfl rfl rfl rfl rfl (by kernel_rfl) Try.func5 (by kernel_rfl)
    (of_decide_eq_true (by kernel_rfl)) (by unfold Func.isWrapper; rw [if_neg (of_decide_eq_false (by kernel_rfl))]; exact ⟨rfl, rfl⟩)
    (fun os started H enc _ => fairOrder_lifted os started H enc)
end Go.Proofs.Ytkjadgjambphjaa
