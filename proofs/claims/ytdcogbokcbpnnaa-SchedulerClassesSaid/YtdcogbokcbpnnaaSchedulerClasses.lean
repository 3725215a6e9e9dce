/- SchedulerClasses returns true for every input. Conditions: none. -/
import Derived.Test.YtdcogbokcbpnnaaBArgs
import Derived.Test.YtdcogbokcbpnnaaL6
namespace Go.Proofs.Ytdcogbokcbpnnaa
open Go.ChangeShapes Go.WideShapes Go.ChangeAt Go.RowKit
set_option linter.unusedVariables false
set_option linter.unusedSimpArgs false

theorem schedulerClasses_lifted (os : Os) (started : os.Started) (H : Type) (enc : TypeId × Value → H) :
    ReturnsInHanded {} Try.checked os 8 .any (Rows.schedulerClassesSpec.pre6 enc Try.prog Try.f8 Rows.schedulerClassesRow.domain false) (Rows.schedulerClassesSpec.post enc Try.prog Try.f8 false true false false) := by
  refine lift_law (C := Try.checked) (tb := 4) own started (by kernel_rfl) Try.func8
    (ChangeSpec.witness6 (enc := enc) (C := Try.checked) false ⟨#[], #[.agg #[.int .u8 0, .int .u8 0, .int .u8 0], .agg #[.int .u8 0, .int .u8 0, .int .u8 0], .agg #[.int .u8 0, .int .u8 0, .int .u8 0], .int .u8 0], []⟩ 8 (by kernel_rfl) (by kernel_rfl) (by kernel_rfl) (by kernel_rfl))
    laidOut rfl rfl Try.underlying4 (by kernel_rfl) (fun ds hd => ?_) ?_
  · match ds, hd with
    | [_, _, _, _], _ => rfl
  · intro W base args hargs hsz
    obtain ⟨l⟩ := args
    match l, hsz with
    | [v0, v1, v2, v3], _ =>
      obtain ⟨q, rfl, h0⟩ := arg_b3 (hargs 0 42 v0 rfl rfl)
      obtain ⟨y, rfl, h1⟩ := arg_b3 (hargs 1 42 v1 rfl rfl)
      obtain ⟨d, rfl, h2⟩ := arg_b3 (hargs 2 42 v2 rfl rfl)
      obtain ⟨c, rfl, w3⟩ := (hargs 3 5 v3 rfl rfl).int Try.underlying5
      have b3 := bounds_u8 w3
      exact classes8 q y d c W h0 h1 h2 b3

theorem schedulerClasses_holds : Rows.SchedulerClassesSaid :=
  OpenClaim.holds_of_wide 8 Try.f8 rfl rfl rfl rfl rfl rfl rfl ⟨rfl, rfl, rfl, rfl, rfl⟩ rfl rfl rfl rfl rfl (by kernel_rfl) Try.func8 (by kernel_rfl)
    (of_decide_eq_true (by kernel_rfl)) (by unfold Func.isWrapper; rw [if_neg (of_decide_eq_false (by kernel_rfl))]; exact ⟨rfl, rfl⟩)
    (fun os started H enc _ => schedulerClasses_lifted os started H enc)
end Go.Proofs.Ytdcogbokcbpnnaa
