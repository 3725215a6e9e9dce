/- SleepMade returns true for every input. Conditions: none. -/
import Derived.Test.YtjbokpejfifamaaArgs
import Derived.Test.YtjbokpejfifamaaL4
namespace Go.Proofs.Ytjbokpejfifamaa
open Go.ChangeShapes Go.WideShapes Go.ChangeAt Go.RowKit
set_option linter.unusedVariables false

theorem sleepMade_lifted (os : Os) (started : os.Started) (H : Type) (enc : TypeId × Value → H) :
    ReturnsInHanded {} Try.checked os 6 .any (Rows.sleepMadeSpec.pre6 enc Try.prog Try.f6 Rows.sleepMadeRow.domain false) (Rows.sleepMadeSpec.post enc Try.prog Try.f6 false true false false) := by
  refine lift_law (C := Try.checked) (tb := 4) own started (by kernel_rfl) Try.func6
    (ChangeSpec.witness6 (enc := enc) (C := Try.checked) false ⟨#[], #[.slice none 0 0, .slice none 0 0], []⟩ 8 (by kernel_rfl) (by kernel_rfl) (by kernel_rfl) (by kernel_rfl))
    laidOut rfl rfl Try.underlying4 (by kernel_rfl) (fun ds hd => ?_) ?_
  · match ds, hd with
    | [_, _], _ => rfl
  · intro W base args hargs hsz
    obtain ⟨l⟩ := args
    match l, hsz with
    | [v0, v1], _ =>
      obtain ⟨a, n, c, b, m, xs, rfl, h1, h2, h3, h4, h5⟩ := arg_ints (hargs 0 22 v0 rfl rfl)
      have L : ListIn W a b m n c xs := ⟨h1, h3, h4, fun i hi => (h5 i (by omega)).1⟩
      obtain ⟨ao, gn, gc, gs, rfl, hg64, gb, gm, ha, hgs⟩ := arg_bools (hargs 1 38 v1 rfl rfl) Try.underlying38
      exact made6 a b m n c xs ao gn gc gb gm gs W L (by omega) hg64 ha hgs

theorem sleepMade_holds : Rows.SleepMadeSaid :=
  OpenClaim.holds_of_wide 6 Try.f6 rfl rfl rfl rfl rfl rfl rfl ⟨rfl, rfl, rfl, rfl, rfl⟩ rfl rfl rfl rfl rfl (by kernel_rfl) Try.func6 (by kernel_rfl)
    (of_decide_eq_true (by kernel_rfl)) (by unfold Func.isWrapper; rw [if_neg (of_decide_eq_false (by kernel_rfl))]; exact ⟨rfl, rfl⟩)
    (fun os started H enc _ => sleepMade_lifted os started H enc)
end Go.Proofs.Ytjbokpejfifamaa
