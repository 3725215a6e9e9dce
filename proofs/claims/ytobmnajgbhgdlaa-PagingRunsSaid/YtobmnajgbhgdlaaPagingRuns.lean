/- PagingRuns returns true for every input. Conditions: none. -/
import Derived.Test.YtobmnajgbhgdlaaPArgs
import Derived.Test.YtobmnajgbhgdlaaL2
namespace Go.Proofs.Ytobmnajgbhgdlaa
open Go.ChangeShapes Go.WideShapes Go.ChangeAt Go.RowKit
set_option linter.unusedVariables false
set_option linter.unusedSimpArgs false

theorem pagingRuns_lifted (os : Os) (started : os.Started) (H : Type) (enc : TypeId × Value → H) :
    ReturnsInHanded {} Try.checked os 5 .any (Rows.pagingRunsSpec.pre6 enc Try.prog Try.f5 Rows.pagingRunsRow.domain false) (Rows.pagingRunsSpec.post enc Try.prog Try.f5 false true false false) := by
  refine lift_law (C := Try.checked) (tb := 4) own started (by kernel_rfl) Try.func5
    (ChangeSpec.witness6 (enc := enc) (C := Try.checked) false ⟨#[], #[.slice none 0 0], []⟩ 8 (by kernel_rfl) (by kernel_rfl) (by kernel_rfl) (by kernel_rfl))
    laidOut rfl rfl Try.underlying4 (by kernel_rfl) (fun ds hd => ?_) ?_
  · match ds, hd with
    | [_], _ => rfl
  · intro W base args hargs hsz
    obtain ⟨l⟩ := args
    match l, hsz with
    | [v0], _ =>
      obtain ⟨d, m, l, b, o, xs, rfl, h1, h2, h3, h4, h5, h6⟩ := arg_list (hargs 0 32 v0 rfl rfl)
      exact runs5 d b o m l xs W ⟨h1, h3, h4, h5⟩ h2

theorem pagingRuns_holds : Rows.PagingRunsSaid :=
  OpenClaim.holds_of_wide 5 Try.f5 rfl rfl rfl rfl rfl rfl rfl ⟨rfl, rfl, rfl, rfl, rfl⟩ rfl rfl rfl rfl rfl (by kernel_rfl) Try.func5 (by kernel_rfl)
    (of_decide_eq_true (by kernel_rfl)) (by unfold Func.isWrapper; rw [if_neg (of_decide_eq_false (by kernel_rfl))]; exact ⟨rfl, rfl⟩)
    (fun os started H enc _ => pagingRuns_lifted os started H enc)
end Go.Proofs.Ytobmnajgbhgdlaa
