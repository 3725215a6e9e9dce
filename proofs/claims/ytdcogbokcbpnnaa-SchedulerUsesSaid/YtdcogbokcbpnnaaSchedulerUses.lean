/- SchedulerUses returns true for every input. Conditions: none. -/
import Derived.Test.YtdcogbokcbpnnaaRArgs
import Derived.Test.YtdcogbokcbpnnaaL3
namespace Go.Proofs.Ytdcogbokcbpnnaa
open Go.ChangeShapes Go.WideShapes Go.ChangeAt Go.RowKit
set_option linter.unusedVariables false
set_option linter.unusedSimpArgs false

theorem schedulerUses_lifted (os : Os) (started : os.Started) (H : Type) (enc : TypeId × Value → H) :
    ReturnsInHanded {} Try.checked os 5 .any (Rows.schedulerUsesSpec.pre6 enc Try.prog Try.f5 Rows.schedulerUsesRow.domain false) (Rows.schedulerUsesSpec.post enc Try.prog Try.f5 false true false false) := by
  refine lift_law (C := Try.checked) (tb := 4) own started (by kernel_rfl) Try.func5
    (ChangeSpec.witness6 (enc := enc) (C := Try.checked) false ⟨#[], #[.slice none 0 0, .int .u8 0], []⟩ 8 (by kernel_rfl) (by kernel_rfl) (by kernel_rfl) (by kernel_rfl))
    laidOut rfl rfl Try.underlying4 (by kernel_rfl) (fun ds hd => ?_) ?_
  · match ds, hd with
    | [_, _], _ => rfl
  · intro W base args hargs hsz
    obtain ⟨l⟩ := args
    match l, hsz with
    | [v0, v1], _ =>
      obtain ⟨a, n0, cp, b, o, xs, rfl, h1, h2, h3, h4, h5, h6⟩ := arg_list (hargs 0 23 v0 rfl rfl)
      obtain ⟨r, rfl, w1⟩ := (hargs 1 5 v1 rfl rfl).int Try.underlying5
      have b1 := bounds_u8 w1
      exact uses5 a b o n0 cp xs r W h1 h3 h4 h5 h2 b1

theorem schedulerUses_holds : Rows.SchedulerUsesSaid :=
  OpenClaim.holds_of_wide 5 Try.f5 rfl rfl rfl rfl rfl rfl rfl ⟨rfl, rfl, rfl, rfl, rfl⟩ rfl rfl rfl rfl rfl (by kernel_rfl) Try.func5 (by kernel_rfl)
    (of_decide_eq_true (by kernel_rfl)) (by unfold Func.isWrapper; rw [if_neg (of_decide_eq_false (by kernel_rfl))]; exact ⟨rfl, rfl⟩)
    (fun os started H enc _ => schedulerUses_lifted os started H enc)
end Go.Proofs.Ytdcogbokcbpnnaa
