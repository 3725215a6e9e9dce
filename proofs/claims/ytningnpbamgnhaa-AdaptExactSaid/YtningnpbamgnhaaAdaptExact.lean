/- AdaptExact returns true for every input. Conditions: none. -/
import Derived.Test.YtningnpbamgnhaaArgs
import Derived.Test.YtningnpbamgnhaaA4
namespace Go.Proofs.Ytningnpbamgnhaa
open Go.ChangeShapes Go.WideShapes Go.ChangeAt Go.RowKit
set_option linter.unusedVariables false

theorem adaptExact_lifted (os : Os) (started : os.Started) (H : Type) (enc : TypeId × Value → H) :
    ReturnsInHanded {} Try.checked os 5 .any (Rows.adaptExactSpec.pre6 enc Try.prog Try.f5 Rows.adaptExactRow.domain false) (Rows.adaptExactSpec.post enc Try.prog Try.f5 false true false false) := by
  refine lift_law (C := Try.checked) (tb := 4) own started (by kernel_rfl) Try.func5
    (ChangeSpec.witness6 (enc := enc) (C := Try.checked) false ⟨#[], #[.int .i64 0, .int .i64 0, .int .i64 0, .int .i64 0, .agg #[.int .i64 0, .int .i64 0, .int .i64 0], .bool false], []⟩ 8 (by kernel_rfl) (by kernel_rfl) (by kernel_rfl) (by kernel_rfl))
    laidOut rfl rfl Try.underlying4 (by kernel_rfl) (fun ds hd => ?_) ?_
  · match ds, hd with
    | [_, _, _, _, _, _], _ => rfl
  · intro W base args hargs hsz
    obtain ⟨l⟩ := args
    match l, hsz with
    | [v0, v1, v2, v3, v4, v5], _ =>
      obtain ⟨q, rfl, w0⟩ := (hargs 0 3 v0 rfl rfl).int Try.underlying3
      have b0 := bounds_i64 w0
      obtain ⟨n, rfl, w1⟩ := (hargs 1 3 v1 rfl rfl).int Try.underlying3
      have b1 := bounds_i64 w1
      obtain ⟨g, rfl, w2⟩ := (hargs 2 3 v2 rfl rfl).int Try.underlying3
      have b2 := bounds_i64 w2
      obtain ⟨m, rfl, w3⟩ := (hargs 3 3 v3 rfl rfl).int Try.underlying3
      have b3 := bounds_i64 w3
      obtain ⟨o, u, d, rfl⟩ := arg_outer (hargs 4 28 v4 rfl rfl)
      obtain ⟨right, rfl⟩ := (hargs 5 4 v5 rfl rfl).bool Try.underlying4
      exact exact5 q n g m o u d right W

theorem adaptExact_holds : Rows.AdaptExactSaid :=
  OpenClaim.holds_of_wide 5 Try.f5 rfl rfl rfl rfl rfl rfl rfl ⟨rfl, rfl, rfl, rfl, rfl⟩ rfl rfl rfl rfl rfl (by kernel_rfl) Try.func5 (by kernel_rfl)
    (of_decide_eq_true (by kernel_rfl)) (by unfold Func.isWrapper; rw [if_neg (of_decide_eq_false (by kernel_rfl))]; exact ⟨rfl, rfl⟩)
    (fun os started H enc _ => adaptExact_lifted os started H enc)
end Go.Proofs.Ytningnpbamgnhaa
