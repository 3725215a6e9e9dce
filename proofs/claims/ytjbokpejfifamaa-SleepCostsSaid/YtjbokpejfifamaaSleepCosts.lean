/- SleepCosts returns true for every input. Conditions: none. -/
import Derived.Test.YtjbokpejfifamaaArgs
import Derived.Test.YtjbokpejfifamaaL3
namespace Go.Proofs.Ytjbokpejfifamaa
open Go.ChangeShapes Go.WideShapes Go.ChangeAt Go.RowKit
set_option linter.unusedVariables false

theorem sleepCosts_lifted (os : Os) (started : os.Started) (H : Type) (enc : TypeId × Value → H) :
    ReturnsInHanded {} Try.checked os 7 .any (Rows.sleepCostsSpec.pre6 enc Try.prog Try.f7 Rows.sleepCostsRow.domain false) (Rows.sleepCostsSpec.post enc Try.prog Try.f7 false true false false) := by
  refine lift_law (C := Try.checked) (tb := 4) own started (by kernel_rfl) Try.func7
    (ChangeSpec.witness6 (enc := enc) (C := Try.checked) false ⟨#[], #[.slice none 0 0, .int .u16 0, .int .u8 0, .slice none 0 0], []⟩ 8 (by kernel_rfl) (by kernel_rfl) (by kernel_rfl) (by kernel_rfl))
    laidOut rfl rfl Try.underlying4 (by kernel_rfl) (fun ds hd => ?_) ?_
  · match ds, hd with
    | [_, _, _, _], _ => rfl
  · intro W base args hargs hsz
    obtain ⟨l⟩ := args
    match l, hsz with
    | [v0, v1, v2, v3], _ =>
      obtain ⟨a, n, c, b, m, xs, rfl, h1, h2, h3, h4, h5⟩ := arg_ints (hargs 0 22 v0 rfl rfl)
      have L : ListIn W a b m n c xs := ⟨h1, h3, h4, fun i hi => (h5 i (by omega)).1⟩
      obtain ⟨fr, rfl, w1⟩ := (hargs 1 23 v1 rfl rfl).int Try.underlying23
      have b1 := bounds_u16 w1
      obtain ⟨cy, rfl, w2⟩ := (hargs 2 5 v2 rfl rfl).int Try.underlying5
      have b2 := bounds_u8 w2
      obtain ⟨ao, gn, gc, gs, rfl, hg64, gb, gm, ha, hgs⟩ := arg_bools (hargs 3 38 v3 rfl rfl) Try.underlying38
      exact costs7 a b m n c xs fr cy ao gn gc gb gm gs W L (by omega) hg64 b1 b2 ha hgs

theorem sleepCosts_holds : Rows.SleepCostsSaid :=
  OpenClaim.holds_of_wide 7 Try.f7 rfl rfl rfl rfl rfl rfl rfl ⟨rfl, rfl, rfl, rfl, rfl⟩ rfl rfl rfl rfl rfl (by kernel_rfl) Try.func7 (by kernel_rfl)
    (of_decide_eq_true (by kernel_rfl)) (by unfold Func.isWrapper; rw [if_neg (of_decide_eq_false (by kernel_rfl))]; exact ⟨rfl, rfl⟩)
    (fun os started H enc _ => sleepCosts_lifted os started H enc)
end Go.Proofs.Ytjbokpejfifamaa
