/- SoftClips returns true for every input. Conditions: none. -/
import Derived.Test.YtdhfadmeablkpaaArgs
import Derived.Test.YtdhfadmeablkpaaL3
namespace Go.Proofs.Ytdhfadmeablkpaa
open Go.ChangeShapes Go.WideShapes Go.ChangeAt Go.RowKit
set_option linter.unusedVariables false

theorem own : ownKnob Try.prog.godebug = none := by kernel_rfl
theorem laidOut : laidOutB Try.prog = true := by kernel_rfl

theorem softClips_lifted (os : Os) (started : os.Started) (H : Type) (enc : TypeId × Value → H) :
    ReturnsInHanded {} Try.checked os 5 .any (Rows.softClipsSpec.pre6 enc Try.prog Try.f5 Rows.softClipsRow.domain false) (Rows.softClipsSpec.post enc Try.prog Try.f5 false true false false) := by
  refine lift_law (C := Try.checked) (tb := 4) own started (by kernel_rfl) Try.func5
    (ChangeSpec.witness6 (enc := enc) (C := Try.checked) false ⟨#[], #[.slice none 0 0, .int .i64 0], []⟩ 8 (by kernel_rfl) (by kernel_rfl) (by kernel_rfl) (by kernel_rfl))
    laidOut rfl rfl Try.underlying4 (by kernel_rfl) (fun ds hd => ?_) ?_
  · match ds, hd with
    | [_, _], _ => rfl
  · intro W base args hargs hsz
    obtain ⟨l⟩ := args
    match l, hsz with
    | [v0, v1], _ =>
      obtain ⟨al, n, cl, bl, ol, ls, rfl, l0, h0, _, hal, hl⟩ := arg_intsOf (B := 1) (hargs 0 37 v0 rfl rfl) Try.underlying37 Try.underlying38 (by kernel_rfl) (by kernel_rfl) (by decide)
      obtain ⟨x, rfl, w1⟩ := (hargs 1 3 v1 rfl rfl).int Try.underlying3
      have b1 := bounds_i64 w1
      exact clips5 al n cl bl ol ls x W (fun h => hal (by omega)) (fun k hk => ⟨(hl k (by omega)).1, bounds_i8 (hl k (by omega)).2⟩) (by omega)

theorem softClips_holds : Rows.SoftClipsSaid :=
  OpenClaim.holds_of_wide 5 Try.f5 rfl rfl rfl rfl rfl rfl rfl ⟨rfl, rfl, rfl, rfl, rfl⟩ rfl rfl rfl rfl rfl (by kernel_rfl) Try.func5 (by kernel_rfl)
    (of_decide_eq_true (by kernel_rfl)) (by unfold Func.isWrapper; rw [if_neg (of_decide_eq_false (by kernel_rfl))]; exact ⟨rfl, rfl⟩)
    (fun os started H enc _ => softClips_lifted os started H enc)
end Go.Proofs.Ytdhfadmeablkpaa
