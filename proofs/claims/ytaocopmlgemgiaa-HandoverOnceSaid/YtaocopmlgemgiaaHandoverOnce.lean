/- HandoverOnce returns true for every input. Conditions: none. -/
import Derived.Test.YtaocopmlgemgiaaHArgs
import Derived.Test.YtaocopmlgemgiaaL4
namespace Go.Proofs.Ytaocopmlgemgiaa
open Go.ChangeShapes Go.WideShapes Go.ChangeAt Go.RowKit
set_option linter.unusedVariables false
set_option linter.unusedSimpArgs false

theorem handoverOnce_lifted (os : Os) (started : os.Started) (H : Type) (enc : TypeId × Value → H) :
    ReturnsInHanded {} Try.checked os 5 .any (Rows.handoverOnceSpec.pre6 enc Try.prog Try.f5 Rows.handoverOnceRow.domain false) (Rows.handoverOnceSpec.post enc Try.prog Try.f5 false true false false) := by
  refine lift_law (C := Try.checked) (tb := 4) own started (by kernel_rfl) Try.func5
    (ChangeSpec.witness6 (enc := enc) (C := Try.checked) false ⟨#[], #[.slice none 0 0], []⟩ 8 (by kernel_rfl) (by kernel_rfl) (by kernel_rfl) (by kernel_rfl))
    laidOut rfl rfl Try.underlying4 (by kernel_rfl) (fun ds hd => ?_) ?_
  · match ds, hd with
    | [_], _ => rfl
  · intro W base args hargs hsz
    obtain ⟨l⟩ := args
    match l, hsz with
    | [v0], _ =>
      obtain ⟨a, n, c, b, m, xs, rfl, h1, h2, h3, h4, h5⟩ := arg_intsOf (B := 8) (hargs 0 36 v0 rfl rfl) Try.underlying36 Try.underlying3 cells3 bytes3 (by decide)
      have L : ListIn W a b m n c xs := ⟨h1, h3, h4, fun i hi => (h5 i (by omega)).1⟩
      exact once5 a b m n c xs W L (by omega)

theorem handoverOnce_holds : Rows.HandoverOnceSaid :=
  OpenClaim.holds_of_wide 5 Try.f5 rfl rfl rfl rfl rfl rfl rfl ⟨rfl, rfl, rfl, rfl, rfl⟩ rfl rfl rfl rfl rfl (by kernel_rfl) Try.func5 (by kernel_rfl)
    (of_decide_eq_true (by kernel_rfl)) (by unfold Func.isWrapper; rw [if_neg (of_decide_eq_false (by kernel_rfl))]; exact ⟨rfl, rfl⟩)
    (fun os started H enc _ => handoverOnce_lifted os started H enc)
end Go.Proofs.Ytaocopmlgemgiaa
