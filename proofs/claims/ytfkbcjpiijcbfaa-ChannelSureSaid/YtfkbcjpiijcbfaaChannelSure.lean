/- ChannelSure returns true for every input. Conditions: none. -/
import Derived.Test.YtfkbcjpiijcbfaaRArgs
import Derived.Test.YtfkbcjpiijcbfaaC16
namespace Go.Proofs.Ytfkbcjpiijcbfaa
open Go.ChangeShapes Go.WideShapes Go.ChangeAt Go.RowKit
set_option linter.unusedVariables false
set_option linter.unusedSimpArgs false
theorem cells4 : Try.prog.cellsOf 4 = 1 := by kernel_rfl
theorem bytes4 : Try.prog.bytesOf 4 = 1 := by kernel_rfl
theorem channelSure_lifted (os : Os) (started : os.Started) (H : Type) (enc : TypeId × Value → H) :
    ReturnsInHanded {} Try.checked os 7 .any (Rows.channelSureSpec.pre6 enc Try.prog Try.f7 Rows.channelSureRow.domain false) (Rows.channelSureSpec.post enc Try.prog Try.f7 false true false false) := by
  refine lift_law (C := Try.checked) (tb := 4) own started (by kernel_rfl) Try.func7
    (ChangeSpec.witness6 (enc := enc) (C := Try.checked) false ⟨#[], #[.slice none 0 0, .int .u16 0, .int .u16 0, .int .u8 0, .int .u8 0], []⟩ 8 (by kernel_rfl) (by kernel_rfl) (by kernel_rfl) (by kernel_rfl))
    laidOut rfl rfl Try.underlying4 (by kernel_rfl) (fun ds hd => ?_) ?_
  · match ds, hd with
    | [_, _, _, _, _], _ => rfl
  · intro W base args hargs hsz
    obtain ⟨l⟩ := args
    match l, hsz with
    | [v0, v1, v2, v3, v4], _ =>
      obtain ⟨a2, m, cp2, l, rfl, hm, bb2, o2, ha2, hl⟩ := arg_bools (hargs 0 40 v0 rfl rfl) Try.underlying40 Try.underlying4 cells4 bytes4
      obtain ⟨s, rfl, w1⟩ := (hargs 1 22 v1 rfl rfl).int Try.underlying22
      have b1 := bounds_u16 w1
      obtain ⟨ti, rfl, w2⟩ := (hargs 2 22 v2 rfl rfl).int Try.underlying22
      have b2 := bounds_u16 w2
      obtain ⟨ga, rfl, w3⟩ := (hargs 3 5 v3 rfl rfl).int Try.underlying5
      have b3 := bounds_u8 w3
      obtain ⟨no, rfl, w4⟩ := (hargs 4 5 v4 rfl rfl).int Try.underlying5
      have b4 := bounds_u8 w4
      exact sure7 a2 bb2 o2 m cp2 l s ti ga no W ha2 hl hm b1 b2 b3 b4

theorem channelSure_holds : Rows.ChannelSureSaid :=
  OpenClaim.holds_of_wide 7 Try.f7 rfl rfl rfl rfl rfl rfl rfl ⟨rfl, rfl, rfl, rfl, rfl⟩ rfl rfl rfl rfl rfl (by kernel_rfl) Try.func7 (by kernel_rfl)
    (of_decide_eq_true (by kernel_rfl)) (by unfold Func.isWrapper; rw [if_neg (of_decide_eq_false (by kernel_rfl))]; exact ⟨rfl, rfl⟩)
    (fun os started H enc _ => channelSure_lifted os started H enc)
end Go.Proofs.Ytfkbcjpiijcbfaa
