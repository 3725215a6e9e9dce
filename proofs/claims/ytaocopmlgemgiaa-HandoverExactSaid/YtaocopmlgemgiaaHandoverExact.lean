/- HandoverExact returns true for every input. Conditions: none. -/
import Derived.Test.YtaocopmlgemgiaaHArgs
import Derived.Test.YtaocopmlgemgiaaH9
namespace Go.Proofs.Ytaocopmlgemgiaa
set_option linter.unusedVariables false
set_option linter.unusedSimpArgs false
open Go.ChangeShapes Go.WideShapes Go.ChangeAt Go.RowKit

theorem handoverExact_lifted (os : Os) (started : os.Started) (H : Type) (enc : TypeId × Value → H) :
    ReturnsInHanded {} Try.checked os 3 .any (Rows.handoverExactSpec.pre6 enc Try.prog Try.f3 Rows.handoverExactRow.domain false) (Rows.handoverExactSpec.post enc Try.prog Try.f3 false true false false) := by
  refine lift_law (C := Try.checked) (tb := 4) own started (by kernel_rfl) Try.func3
    (ChangeSpec.witness6 (enc := enc) (C := Try.checked) false ⟨#[], #[.agg #[.int .i64 0, .int .i64 0, .int .i64 0], .agg #[.int .i64 0, .int .i64 0, .int .i64 0], .agg #[.int .i64 0, .int .i64 0, .int .i64 0, .int .i64 0], .int .i64 0, .int .i64 0, .int .i64 0], []⟩ 8 (by kernel_rfl) (by kernel_rfl) (by kernel_rfl) (by kernel_rfl))
    laidOut rfl rfl Try.underlying4 (by kernel_rfl) (fun ds hd => ?_) ?_
  · match ds, hd with
    | [_, _, _, _, _, _], _ => rfl
  · intro W base args hargs hsz
    obtain ⟨l⟩ := args
    match l, hsz with
    | [v0, v1, v2, v3, v4, v5], _ =>
      obtain ⟨a, o, r, rfl⟩ := arg_patience (hargs 0 23 v0 rfl rfl)
      obtain ⟨ph, ot, si, rfl, hp⟩ := arg_move (hargs 1 25 v1 rfl rfl)
      obtain ⟨ph2, ce, ta, si2, rfl, hp2⟩ := arg_roam (hargs 2 27 v2 rfl rfl)
      obtain ⟨ev, rfl, w3⟩ := (hargs 3 3 v3 rfl rfl).int Try.underlying3
      have b3 := bounds_i64 w3
      obtain ⟨ar, rfl, w4⟩ := (hargs 4 3 v4 rfl rfl).int Try.underlying3
      have b4 := bounds_i64 w4
      obtain ⟨ti, rfl, w5⟩ := (hargs 5 3 v5 rfl rfl).int Try.underlying3
      have b5 := bounds_i64 w5
      exact exact3 a o r ph ot si ph2 ce ta si2 ev ar ti hp hp2 w3 W

theorem handoverExact_holds : Rows.HandoverExactSaid :=
  OpenClaim.holds_of_wide 3 Try.f3 rfl rfl rfl rfl rfl rfl rfl ⟨rfl, rfl, rfl, rfl, rfl⟩ rfl rfl rfl rfl rfl (by kernel_rfl) Try.func3 (by kernel_rfl)
    (of_decide_eq_true (by kernel_rfl)) (by unfold Func.isWrapper; rw [if_neg (of_decide_eq_false (by kernel_rfl))]; exact ⟨rfl, rfl⟩)
    (fun os started H enc _ => handoverExact_lifted os started H enc)
end Go.Proofs.Ytaocopmlgemgiaa
