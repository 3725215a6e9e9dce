/- ChannelRaw returns true for every input. Conditions: none. -/
import Derived.Test.YtfkbcjpiijcbfaaRArgs
import Derived.Test.YtfkbcjpiijcbfaaC15
namespace Go.Proofs.Ytfkbcjpiijcbfaa
open Go.ChangeShapes Go.WideShapes Go.ChangeAt Go.RowKit
set_option linter.unusedVariables false
set_option linter.unusedSimpArgs false

theorem channelRaw_lifted (os : Os) (started : os.Started) (H : Type) (enc : TypeId × Value → H) :
    ReturnsInHanded {} Try.checked os 5 .any (Rows.channelRawSpec.pre6 enc Try.prog Try.f5 Rows.channelRawRow.domain false) (Rows.channelRawSpec.post enc Try.prog Try.f5 false true false false) := by
  refine lift_law (C := Try.checked) (tb := 4) own started (by kernel_rfl) Try.func5
    (ChangeSpec.witness6 (enc := enc) (C := Try.checked) false ⟨#[], #[.slice none 0 0, .int .i64 0, .int .i64 0, .int .i64 0, .int .i64 0, .int .i64 0, .int .i64 0, .slice none 0 0], []⟩ 8 (by kernel_rfl) (by kernel_rfl) (by kernel_rfl) (by kernel_rfl))
    laidOut rfl rfl Try.underlying4 (by kernel_rfl) (fun ds hd => ?_) ?_
  · match ds, hd with
    | [_, _, _, _, _, _, _, _], _ => rfl
  · intro W base args hargs hsz
    obtain ⟨l⟩ := args
    match l, hsz with
    | [v0, v1, v2, v3, v4, v5, v6, v7], _ =>
      obtain ⟨a, n, c, X, rfl, hn, H⟩ := arg_fs (hargs 0 32 v0 rfl rfl)
      obtain ⟨s, rfl, w1⟩ := (hargs 1 3 v1 rfl rfl).int Try.underlying3
      have b1 := bounds_i64 w1
      obtain ⟨te, rfl, w2⟩ := (hargs 2 3 v2 rfl rfl).int Try.underlying3
      have b2 := bounds_i64 w2
      obtain ⟨ce, rfl, w3⟩ := (hargs 3 3 v3 rfl rfl).int Try.underlying3
      have b3 := bounds_i64 w3
      obtain ⟨ti, rfl, w4⟩ := (hargs 4 3 v4 rfl rfl).int Try.underlying3
      have b4 := bounds_i64 w4
      obtain ⟨co, rfl, w5⟩ := (hargs 5 3 v5 rfl rfl).int Try.underlying3
      have b5 := bounds_i64 w5
      obtain ⟨mo, rfl, w6⟩ := (hargs 6 3 v6 rfl rfl).int Try.underlying3
      have b6 := bounds_i64 w6
      obtain ⟨d, m, l, b, o, xs, rfl, h1, h2, h3, h4, h5, h6⟩ := arg_list (hargs 7 23 v7 rfl rfl)
      exact raw5 a n c X s te ce ti co mo d m l xs W H (by unfold maxLen; omega) h6 (by unfold maxLen; omega)

theorem channelRaw_holds : Rows.ChannelRawSaid :=
  OpenClaim.holds_of_wide 5 Try.f5 rfl rfl rfl rfl rfl rfl rfl ⟨rfl, rfl, rfl, rfl, rfl⟩ rfl rfl rfl rfl rfl (by kernel_rfl) Try.func5 (by kernel_rfl)
    (of_decide_eq_true (by kernel_rfl)) (by unfold Func.isWrapper; rw [if_neg (of_decide_eq_false (by kernel_rfl))]; exact ⟨rfl, rfl⟩)
    (fun os started H enc _ => channelRaw_lifted os started H enc)
end Go.Proofs.Ytfkbcjpiijcbfaa
