/- SleepRaw returns true for every input. Conditions: none. -/
import Derived.Test.YtjbokpejfifamaaArgs
import Derived.Test.YtjbokpejfifamaaS9
namespace Go.Proofs.Ytjbokpejfifamaa
open Go.ChangeShapes Go.WideShapes Go.ChangeAt Go.RowKit
set_option linter.unusedVariables false

theorem sleepRaw_lifted (os : Os) (started : os.Started) (H : Type) (enc : TypeId × Value → H) :
    ReturnsInHanded {} Try.checked os 5 .any (Rows.sleepRawSpec.pre6 enc Try.prog Try.f5 Rows.sleepRawRow.domain false) (Rows.sleepRawSpec.post enc Try.prog Try.f5 false true false false) := by
  refine lift_law (C := Try.checked) (tb := 4) own started (by kernel_rfl) Try.func5
    (ChangeSpec.witness6 (enc := enc) (C := Try.checked) false ⟨#[], #[.agg #[.int .i64 0, .int .i64 0, .int .i64 0, .int .i64 0, .int .i64 0, .int .i64 0], .agg #[.int .i64 0, .int .i64 0], .int .i64 0, .int .i64 0, .bool false], []⟩ 8 (by kernel_rfl) (by kernel_rfl) (by kernel_rfl) (by kernel_rfl))
    laidOut rfl rfl Try.underlying4 (by kernel_rfl) (fun ds hd => ?_) ?_
  · match ds, hd with
    | [_, _, _, _, _], _ => rfl
  · intro W base args hargs hsz
    obtain ⟨l⟩ := args
    match l, hsz with
    | [v0, v1, v2, v3, v4], _ =>
      obtain ⟨c, o, n, l, s, h, rfl⟩ := arg_rhythm (hargs 0 27 v0 rfl rfl)
      obtain ⟨last, bat, rfl, hbw⟩ := arg_sleep (hargs 1 36 v1 rfl rfl)
      obtain ⟨tick, rfl, w2⟩ := (hargs 2 3 v2 rfl rfl).int Try.underlying3
      have b2 := bounds_i64 w2
      obtain ⟨k, rfl, w3⟩ := (hargs 3 3 v3 rfl rfl).int Try.underlying3
      have b3 := bounds_i64 w3
      obtain ⟨got, rfl⟩ := (hargs 4 4 v4 rfl rfl).bool Try.underlying4
      exact raw5 c o n l s h last bat tick k got hbw W

theorem sleepRaw_holds : Rows.SleepRawSaid :=
  OpenClaim.holds_of_wide 5 Try.f5 rfl rfl rfl rfl rfl rfl rfl ⟨rfl, rfl, rfl, rfl, rfl⟩ rfl rfl rfl rfl rfl (by kernel_rfl) Try.func5 (by kernel_rfl)
    (of_decide_eq_true (by kernel_rfl)) (by unfold Func.isWrapper; rw [if_neg (of_decide_eq_false (by kernel_rfl))]; exact ⟨rfl, rfl⟩)
    (fun os started H enc _ => sleepRaw_lifted os started H enc)
end Go.Proofs.Ytjbokpejfifamaa
