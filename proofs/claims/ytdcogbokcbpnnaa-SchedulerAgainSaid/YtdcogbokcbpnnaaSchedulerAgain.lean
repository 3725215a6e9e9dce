/- SchedulerAgain returns true for every input. Conditions: none. -/
import Derived.Test.YtdcogbokcbpnnaaBArgs
import Derived.Test.YtdcogbokcbpnnaaL5
namespace Go.Proofs.Ytdcogbokcbpnnaa
open Go.ChangeShapes Go.WideShapes Go.ChangeAt Go.RowKit
set_option linter.unusedVariables false
set_option linter.unusedSimpArgs false

theorem schedulerAgain_lifted (os : Os) (started : os.Started) (H : Type) (enc : TypeId × Value → H) :
    ReturnsInHanded {} Try.checked os 9 .any (Rows.schedulerAgainSpec.pre6 enc Try.prog Try.f9 Rows.schedulerAgainRow.domain false) (Rows.schedulerAgainSpec.post enc Try.prog Try.f9 false true false false) := by
  refine lift_law (C := Try.checked) (tb := 4) own started (by kernel_rfl) Try.func9
    (ChangeSpec.witness6 (enc := enc) (C := Try.checked) false ⟨#[], #[.agg #[.int .u8 0, .int .u8 0, .int .u8 0], .agg #[.int .u8 0, .int .u8 0, .int .u8 0], .int .u8 0], []⟩ 8 (by kernel_rfl) (by kernel_rfl) (by kernel_rfl) (by kernel_rfl))
    laidOut rfl rfl Try.underlying4 (by kernel_rfl) (fun ds hd => ?_) ?_
  · match ds, hd with
    | [_, _, _], _ => rfl
  · intro W base args hargs hsz
    obtain ⟨l⟩ := args
    match l, hsz with
    | [v0, v1, v2], _ =>
      obtain ⟨a, rfl, h0⟩ := arg_b3 (hargs 0 42 v0 rfl rfl)
      obtain ⟨d, rfl, h1⟩ := arg_b3 (hargs 1 42 v1 rfl rfl)
      obtain ⟨c, rfl, w2⟩ := (hargs 2 5 v2 rfl rfl).int Try.underlying5
      have b2 := bounds_u8 w2
      exact again9 a d c W h0 h1 b2

theorem schedulerAgain_holds : Rows.SchedulerAgainSaid :=
  OpenClaim.holds_of_wide 9 Try.f9 rfl rfl rfl rfl rfl rfl rfl ⟨rfl, rfl, rfl, rfl, rfl⟩ rfl rfl rfl rfl rfl (by kernel_rfl) Try.func9 (by kernel_rfl)
    (of_decide_eq_true (by kernel_rfl)) (by unfold Func.isWrapper; rw [if_neg (of_decide_eq_false (by kernel_rfl))]; exact ⟨rfl, rfl⟩)
    (fun os started H enc _ => schedulerAgain_lifted os started H enc)
end Go.Proofs.Ytdcogbokcbpnnaa
