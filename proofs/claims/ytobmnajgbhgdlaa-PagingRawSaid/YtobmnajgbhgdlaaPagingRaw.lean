/- PagingRaw returns true for every input. Conditions: none. -/
import Derived.Test.YtobmnajgbhgdlaaPArgs
import Derived.Test.YtobmnajgbhgdlaaL1
namespace Go.Proofs.Ytobmnajgbhgdlaa
open Go.ChangeShapes Go.WideShapes Go.ChangeAt Go.RowKit
set_option linter.unusedVariables false
set_option linter.unusedSimpArgs false

theorem pagingRaw_lifted (os : Os) (started : os.Started) (H : Type) (enc : TypeId × Value → H) :
    ReturnsInHanded {} Try.checked os 4 .any (Rows.pagingRawSpec.pre6 enc Try.prog Try.f4 Rows.pagingRawRow.domain false) (Rows.pagingRawSpec.post enc Try.prog Try.f4 false true false false) := by
  refine lift_law (C := Try.checked) (tb := 4) own started (by kernel_rfl) Try.func4
    (ChangeSpec.witness6 (enc := enc) (C := Try.checked) false ⟨#[], #[.agg #[.int .i64 0, .int .i64 0, .int .i64 0, .slice none 0 0], .int .i64 0, .int .i64 0], []⟩ 8 (by kernel_rfl) (by kernel_rfl) (by kernel_rfl) (by kernel_rfl))
    laidOut rfl rfl Try.underlying4 (by kernel_rfl) (fun ds hd => ?_) ?_
  · match ds, hd with
    | [_, _, _], _ => rfl
  · intro W base args hargs hsz
    obtain ⟨l⟩ := args
    match l, hsz with
    | [v0, v1, v2], _ =>
      obtain ⟨cy, mo, tr, a, n, c, I, S, C, rfl, k1, k2, k3, k4⟩ := arg_pager (hargs 0 25 v0 rfl rfl)
      obtain ⟨x, rfl, w1⟩ := (hargs 1 3 v1 rfl rfl).int Try.underlying3
      have b1 := bounds_i64 w1
      obtain ⟨y, rfl, w2⟩ := (hargs 2 3 v2 rfl rfl).int Try.underlying3
      have b2 := bounds_i64 w2
      exact raw4 cy mo tr x y a n c I S C W k4 k1 k2 k3

theorem pagingRaw_holds : Rows.PagingRawSaid :=
  OpenClaim.holds_of_wide 4 Try.f4 rfl rfl rfl rfl rfl rfl rfl ⟨rfl, rfl, rfl, rfl, rfl⟩ rfl rfl rfl rfl rfl (by kernel_rfl) Try.func4 (by kernel_rfl)
    (of_decide_eq_true (by kernel_rfl)) (by unfold Func.isWrapper; rw [if_neg (of_decide_eq_false (by kernel_rfl))]; exact ⟨rfl, rfl⟩)
    (fun os started H enc _ => pagingRaw_lifted os started H enc)
end Go.Proofs.Ytobmnajgbhgdlaa
