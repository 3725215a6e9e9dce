/- SleepShorts returns true for every input. Conditions: none. -/
import Derived.Test.YtjbokpejfifamaaArgs
import Derived.Test.YtjbokpejfifamaaL2
namespace Go.Proofs.Ytjbokpejfifamaa
open Go.ChangeShapes Go.WideShapes Go.ChangeAt Go.RowKit
set_option linter.unusedVariables false

theorem sleepShorts_lifted (os : Os) (started : os.Started) (H : Type) (enc : TypeId × Value → H) :
    ReturnsInHanded {} Try.checked os 4 .any (Rows.sleepShortsSpec.pre6 enc Try.prog Try.f4 Rows.sleepShortsRow.domain false) (Rows.sleepShortsSpec.post enc Try.prog Try.f4 false true false false) := by
  refine lift_law (C := Try.checked) (tb := 4) own started (by kernel_rfl) Try.func4
    (ChangeSpec.witness6 (enc := enc) (C := Try.checked) false ⟨#[], #[.slice none 0 0, .int .u16 0, .int .u16 0], []⟩ 8 (by kernel_rfl) (by kernel_rfl) (by kernel_rfl) (by kernel_rfl))
    laidOut rfl rfl Try.underlying4 (by kernel_rfl) (fun ds hd => ?_) ?_
  · match ds, hd with
    | [_, _, _], _ => rfl
  · intro W base args hargs hsz
    obtain ⟨l⟩ := args
    match l, hsz with
    | [v0, v1, v2], _ =>
      obtain ⟨a, n, c, b, m, xs, rfl, h1, h2, h3, h4, h5⟩ := arg_ints (hargs 0 22 v0 rfl rfl)
      have L : ListIn W a b m n c xs := ⟨h1, h3, h4, fun i hi => (h5 i (by omega)).1⟩
      obtain ⟨last, rfl, w1⟩ := (hargs 1 23 v1 rfl rfl).int Try.underlying23
      have b1 := bounds_u16 w1
      obtain ⟨more, rfl, w2⟩ := (hargs 2 23 v2 rfl rfl).int Try.underlying23
      have b2 := bounds_u16 w2
      exact shorts4 a b m n c xs last more W L (by omega) b1 b2

theorem sleepShorts_holds : Rows.SleepShortsSaid :=
  OpenClaim.holds_of_wide 4 Try.f4 rfl rfl rfl rfl rfl rfl rfl ⟨rfl, rfl, rfl, rfl, rfl⟩ rfl rfl rfl rfl rfl (by kernel_rfl) Try.func4 (by kernel_rfl)
    (of_decide_eq_true (by kernel_rfl)) (by unfold Func.isWrapper; rw [if_neg (of_decide_eq_false (by kernel_rfl))]; exact ⟨rfl, rfl⟩)
    (fun os started H enc _ => sleepShorts_lifted os started H enc)
end Go.Proofs.Ytjbokpejfifamaa
