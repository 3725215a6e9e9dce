/- MeasureRaw returns true for every input. Conditions: none. -/
import Derived.Test.YtbhldnfldkjoiaaMArgs
import Derived.Test.YtbhldnfldkjoiaaL1
namespace Go.Proofs.Ytbhldnfldkjoiaa
open Go.ChangeShapes Go.WideShapes Go.ChangeAt Go.RowKit
set_option linter.unusedVariables false

theorem measureRaw_lifted (os : Os) (started : os.Started) (H : Type) (enc : TypeId × Value → H) :
    ReturnsInHanded {} Try.checked os 3 .any (Rows.measureRawSpec.pre6 enc Try.prog Try.f3 Rows.measureRawRow.domain false) (Rows.measureRawSpec.post enc Try.prog Try.f3 false true false false) := by
  refine lift_law (C := Try.checked) (tb := 4) own started (by kernel_rfl) Try.func3
    (ChangeSpec.witness6 (enc := enc) (C := Try.checked) false ⟨#[], #[.agg #[.int .i64 0, .int .i64 0, .int .i64 0], .agg #[.slice none 0 0, .slice none 0 0], .int .i64 0, .int .i64 0, .slice none 0 0], []⟩ 8 (by kernel_rfl) (by kernel_rfl) (by kernel_rfl) (by kernel_rfl))
    laidOut rfl rfl Try.underlying4 (by kernel_rfl) (fun ds hd => ?_) ?_
  · match ds, hd with
    | [_, _, _, _, _], _ => rfl
  · intro W base args hargs hsz
    obtain ⟨l⟩ := args
    match l, hsz with
    | [v0, v1, v2, v3, v4], _ =>
      obtain ⟨mg, bk, hd, rfl⟩ := arg_rule (hargs 0 23 v0 rfl rfl)
      obtain ⟨n, m, fs, hs, S, hn, hm⟩ := arg_sight (hargs 1 26 v1 rfl rfl)
      obtain ⟨own, rfl, w2⟩ := (hargs 2 3 v2 rfl rfl).int Try.underlying3
      have b2 := bounds_i64 w2
      obtain ⟨cl, rfl, w3⟩ := (hargs 3 3 v3 rfl rfl).int Try.underlying3
      have b3 := bounds_i64 w3
      obtain ⟨a, r, c, b, o, qs, rfl, h1, h2, h3, h4, h5, h6⟩ := arg_list (hargs 4 24 v4 rfl rfl)
      exact raw3 mg bk hd own cl v1 a n m r c fs hs qs W S h6 hn hm h2

theorem measureRaw_holds : Rows.MeasureRawSaid :=
  OpenClaim.holds_of_wide 3 Try.f3 rfl rfl rfl rfl rfl rfl rfl ⟨rfl, rfl, rfl, rfl, rfl⟩ rfl rfl rfl rfl rfl (by kernel_rfl) Try.func3 (by kernel_rfl)
    (of_decide_eq_true (by kernel_rfl)) (by unfold Func.isWrapper; rw [if_neg (of_decide_eq_false (by kernel_rfl))]; exact ⟨rfl, rfl⟩)
    (fun os started H enc _ => measureRaw_lifted os started H enc)
end Go.Proofs.Ytbhldnfldkjoiaa
