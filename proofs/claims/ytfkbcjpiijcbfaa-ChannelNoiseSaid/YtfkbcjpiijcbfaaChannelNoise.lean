/- ChannelNoise returns true for every input. Conditions: none. -/
import Derived.Test.YtfkbcjpiijcbfaaCArgs
namespace Go.Proofs.Ytfkbcjpiijcbfaa
open Go.ChangeShapes Go.WideShapes Go.ChangeAt Go.RowKit
set_option linter.unusedVariables false
set_option linter.unusedSimpArgs false

theorem channelNoise_lifted (os : Os) (started : os.Started) (H : Type) (enc : TypeId × Value → H) :
    ReturnsInHanded {} Try.checked os 3 .any (Rows.channelNoiseSpec.pre6 enc Try.prog Try.f3 Rows.channelNoiseRow.domain false) (Rows.channelNoiseSpec.post enc Try.prog Try.f3 false true false false) := by
  refine lift_law (C := Try.checked) (tb := 4) own started (by kernel_rfl) Try.func3
    (ChangeSpec.witness6 (enc := enc) (C := Try.checked) false ⟨#[], #[.int .u16 0, .int .u16 0, .int .u8 0, .int .u8 0, .int .u8 0, .int .u8 0, .int .u16 0], []⟩ 8 (by kernel_rfl) (by kernel_rfl) (by kernel_rfl) (by kernel_rfl))
    laidOut rfl rfl Try.underlying4 (by kernel_rfl) (fun ds hd => ?_) ?_
  · match ds, hd with
    | [_, _, _, _, _, _, _], _ => rfl
  · intro W base args hargs hsz
    obtain ⟨l⟩ := args
    match l, hsz with
    | [v0, v1, v2, v3, v4, v5, v6], _ =>
      obtain ⟨s, rfl, w0⟩ := (hargs 0 22 v0 rfl rfl).int Try.underlying22
      have b0 := bounds_u16 w0
      obtain ⟨ti, rfl, w1⟩ := (hargs 1 22 v1 rfl rfl).int Try.underlying22
      have b1 := bounds_u16 w1
      obtain ⟨te, rfl, w2⟩ := (hargs 2 5 v2 rfl rfl).int Try.underlying5
      have b2 := bounds_u8 w2
      obtain ⟨ce, rfl, w3⟩ := (hargs 3 5 v3 rfl rfl).int Try.underlying5
      have b3 := bounds_u8 w3
      obtain ⟨n, rfl, w4⟩ := (hargs 4 5 v4 rfl rfl).int Try.underlying5
      have b4 := bounds_u8 w4
      obtain ⟨d, rfl, w5⟩ := (hargs 5 5 v5 rfl rfl).int Try.underlying5
      have b5 := bounds_u8 w5
      obtain ⟨m, rfl, w6⟩ := (hargs 6 22 v6 rfl rfl).int Try.underlying22
      have b6 := bounds_u16 w6
      exact noise3 s ti te ce n d m W b0 b1 b2 b3 b4 b5 b6

theorem channelNoise_holds : Rows.ChannelNoiseSaid :=
  OpenClaim.holds_of_wide 3 Try.f3 rfl rfl rfl rfl rfl rfl rfl ⟨rfl, rfl, rfl, rfl, rfl⟩ rfl rfl rfl rfl rfl (by kernel_rfl) Try.func3 (by kernel_rfl)
    (of_decide_eq_true (by kernel_rfl)) (by unfold Func.isWrapper; rw [if_neg (of_decide_eq_false (by kernel_rfl))]; exact ⟨rfl, rfl⟩)
    (fun os started H enc _ => channelNoise_lifted os started H enc)
end Go.Proofs.Ytfkbcjpiijcbfaa
