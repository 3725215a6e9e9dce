/- SchedulerOwed returns true for every input. Conditions: none. -/
import Derived.Test.YtdcogbokcbpnnaaBArgs
import Derived.Test.YtdcogbokcbpnnaaL4
namespace Go.Proofs.Ytdcogbokcbpnnaa
open Go.ChangeShapes Go.WideShapes Go.ChangeAt Go.RowKit
set_option linter.unusedVariables false
set_option linter.unusedSimpArgs false

theorem schedulerOwed_lifted (os : Os) (started : os.Started) (H : Type) (enc : TypeId × Value → H) :
    ReturnsInHanded {} Try.checked os 6 .any (Rows.schedulerOwedSpec.pre6 enc Try.prog Try.f6 Rows.schedulerOwedRow.domain false) (Rows.schedulerOwedSpec.post enc Try.prog Try.f6 false true false false) := by
  refine lift_law (C := Try.checked) (tb := 4) own started (by kernel_rfl) Try.func6
    (ChangeSpec.witness6 (enc := enc) (C := Try.checked) false ⟨#[], #[.agg #[.int .u8 0, .int .u8 0, .int .u8 0], .agg #[.int .u8 0, .int .u8 0, .int .u8 0], .int .u8 0], []⟩ 8 (by kernel_rfl) (by kernel_rfl) (by kernel_rfl) (by kernel_rfl))
    laidOut rfl rfl Try.underlying4 (by kernel_rfl) (fun ds hd => ?_) ?_
  · match ds, hd with
    | [_, _, _], _ => rfl
  · intro W base args hargs hsz
    obtain ⟨l⟩ := args
    match l, hsz with
    | [v0, v1, v2], _ =>
      obtain ⟨a, rfl, h0⟩ := arg_b3 (hargs 0 42 v0 rfl rfl)
      obtain ⟨d, rfl, h1⟩ := arg_b3 (hargs 1 42 v1 rfl rfl)
      obtain ⟨c, rfl, w2⟩ := (hargs 2 5 v2 rfl rfl).int Try.underlying5
      have b2 := bounds_u8 w2
      exact owed6 a d c W h0 h1 b2

theorem schedulerOwed_holds : Rows.SchedulerOwedSaid :=
  OpenClaim.holds_of_wide 6 Try.f6 rfl rfl rfl rfl rfl rfl rfl ⟨rfl, rfl, rfl, rfl, rfl⟩ rfl rfl rfl rfl rfl (by kernel_rfl) Try.func6 (by kernel_rfl)
    (of_decide_eq_true (by kernel_rfl)) (by unfold Func.isWrapper; rw [if_neg (of_decide_eq_false (by kernel_rfl))]; exact ⟨rfl, rfl⟩)
    (fun os started H enc _ => schedulerOwed_lifted os started H enc)
end Go.Proofs.Ytdcogbokcbpnnaa
