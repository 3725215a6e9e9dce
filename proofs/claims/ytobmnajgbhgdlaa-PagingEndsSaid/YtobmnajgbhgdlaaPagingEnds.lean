/- PagingEnds returns true for every input. Conditions: none. -/
import Derived.Test.YtobmnajgbhgdlaaRArgs
namespace Go.Proofs.Ytobmnajgbhgdlaa
open Go.ChangeShapes Go.WideShapes Go.ChangeAt Go.RowKit
set_option linter.unusedVariables false
set_option linter.unusedSimpArgs false

theorem pagingEnds_lifted (os : Os) (started : os.Started) (H : Type) (enc : TypeId × Value → H) :
    ReturnsInHanded {} Try.checked os 3 .any (Rows.pagingEndsSpec.pre6 enc Try.prog Try.f3 Rows.pagingEndsRow.domain false) (Rows.pagingEndsSpec.post enc Try.prog Try.f3 false true false false) := by
  refine lift_law (C := Try.checked) (tb := 4) own started (by kernel_rfl) Try.func3
    (ChangeSpec.witness6 (enc := enc) (C := Try.checked) false ⟨#[], #[.slice none 0 0, .int .u8 0, .int .u8 0, .int .u8 0], []⟩ 8 (by kernel_rfl) (by kernel_rfl) (by kernel_rfl) (by kernel_rfl))
    laidOut rfl rfl Try.underlying4 (by kernel_rfl) (fun ds hd => ?_) ?_
  · match ds, hd with
    | [_, _, _, _], _ => rfl
  · intro W base args hargs hsz
    obtain ⟨l⟩ := args
    match l, hsz with
    | [v0, v1, v2, v3], _ =>
      obtain ⟨a, n, c, b, m, xs, rfl, h1, h2⟩ := arg_u16s (hargs 0 22 v0 rfl rfl)
      obtain ⟨x1, rfl, w1⟩ := (hargs 1 5 v1 rfl rfl).int Try.underlying5
      have b1 := bounds_u8 w1
      obtain ⟨x2, rfl, w2⟩ := (hargs 2 5 v2 rfl rfl).int Try.underlying5
      have b2 := bounds_u8 w2
      obtain ⟨x3, rfl, w3⟩ := (hargs 3 5 v3 rfl rfl).int Try.underlying5
      have b3 := bounds_u8 w3
      exact ends3 a b m n c xs x1 x2 x3 W h2 h1 b1 b2 b3

theorem pagingEnds_holds : Rows.PagingEndsSaid :=
  OpenClaim.holds_of_wide 3 Try.f3 rfl rfl rfl rfl rfl rfl rfl ⟨rfl, rfl, rfl, rfl, rfl⟩ rfl rfl rfl rfl rfl (by kernel_rfl) Try.func3 (by kernel_rfl)
    (of_decide_eq_true (by kernel_rfl)) (by unfold Func.isWrapper; rw [if_neg (of_decide_eq_false (by kernel_rfl))]; exact ⟨rfl, rfl⟩)
    (fun os started H enc _ => pagingEnds_lifted os started H enc)
end Go.Proofs.Ytobmnajgbhgdlaa
