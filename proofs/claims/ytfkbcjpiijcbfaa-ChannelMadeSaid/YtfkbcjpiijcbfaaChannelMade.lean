/- ChannelMade returns true for every input. Conditions: none. -/
import Derived.Test.YtfkbcjpiijcbfaaRArgs
import Derived.Test.YtfkbcjpiijcbfaaC18
namespace Go.Proofs.Ytfkbcjpiijcbfaa
open Go.ChangeShapes Go.WideShapes Go.ChangeAt Go.RowKit
set_option linter.unusedVariables false
set_option linter.unusedSimpArgs false
theorem cells4 : Try.prog.cellsOf 4 = 1 := by kernel_rfl
theorem bytes4 : Try.prog.bytesOf 4 = 1 := by kernel_rfl
theorem channelMade_lifted (os : Os) (started : os.Started) (H : Type) (enc : TypeId × Value → H) :
    ReturnsInHanded {} Try.checked os 6 .any (Rows.channelMadeSpec.pre6 enc Try.prog Try.f6 Rows.channelMadeRow.domain false) (Rows.channelMadeSpec.post enc Try.prog Try.f6 false true false false) := by
  refine lift_law (C := Try.checked) (tb := 4) own started (by kernel_rfl) Try.func6
    (ChangeSpec.witness6 (enc := enc) (C := Try.checked) false ⟨#[], #[.slice none 0 0, .slice none 0 0, .int .u16 0, .int .u16 0], []⟩ 8 (by kernel_rfl) (by kernel_rfl) (by kernel_rfl) (by kernel_rfl))
    laidOut rfl rfl Try.underlying4 (by kernel_rfl) (fun ds hd => ?_) ?_
  · match ds, hd with
    | [_, _, _, _], _ => rfl
  · intro W base args hargs hsz
    obtain ⟨l⟩ := args
    match l, hsz with
    | [v0, v1, v2, v3], _ =>
      obtain ⟨a, n0, cp, b, o, xs, rfl, h1, h2, h3, h4, h5, h6⟩ := arg_list (hargs 0 23 v0 rfl rfl)
      obtain ⟨a2, m, cp2, l, rfl, hm, bb2, o2, ha2, hl⟩ := arg_bools (hargs 1 40 v1 rfl rfl) Try.underlying40 Try.underlying4 cells4 bytes4
      obtain ⟨s, rfl, w2⟩ := (hargs 2 22 v2 rfl rfl).int Try.underlying22
      have b2 := bounds_u16 w2
      obtain ⟨ti, rfl, w3⟩ := (hargs 3 22 v3 rfl rfl).int Try.underlying22
      have b3 := bounds_u16 w3
      exact made6 a b o n0 cp xs a2 bb2 o2 m cp2 l s ti W h1 h3 h4 h5 h2 ha2 hl hm b2 b3

theorem channelMade_holds : Rows.ChannelMadeSaid :=
  OpenClaim.holds_of_wide 6 Try.f6 rfl rfl rfl rfl rfl rfl rfl ⟨rfl, rfl, rfl, rfl, rfl⟩ rfl rfl rfl rfl rfl (by kernel_rfl) Try.func6 (by kernel_rfl)
    (of_decide_eq_true (by kernel_rfl)) (by unfold Func.isWrapper; rw [if_neg (of_decide_eq_false (by kernel_rfl))]; exact ⟨rfl, rfl⟩)
    (fun os started H enc _ => channelMade_lifted os started H enc)
end Go.Proofs.Ytfkbcjpiijcbfaa
