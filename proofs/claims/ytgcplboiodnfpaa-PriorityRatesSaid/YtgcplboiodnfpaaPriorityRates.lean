/- PriorityRates returns true for every input. Conditions: none. -/
import Derived.Test.YtgcplboiodnfpaaPArgs
import Derived.Test.YtgcplboiodnfpaaL3
namespace Go.Proofs.Ytgcplboiodnfpaa
open Go.ChangeShapes Go.WideShapes Go.ChangeAt Go.RowKit
set_option linter.unusedVariables false
set_option linter.unusedSimpArgs false

theorem priorityRates_lifted (os : Os) (started : os.Started) (H : Type) (enc : TypeId × Value → H) :
    ReturnsInHanded {} Try.checked os 7 .any (Rows.priorityRatesSpec.pre6 enc Try.prog Try.f7 Rows.priorityRatesRow.domain false) (Rows.priorityRatesSpec.post enc Try.prog Try.f7 false true false false) := by
  refine lift_law (C := Try.checked) (tb := 4) own started (by kernel_rfl) Try.func7
    (ChangeSpec.witness6 (enc := enc) (C := Try.checked) false ⟨#[], #[.slice none 0 0, .int .u8 0], []⟩ 8 (by kernel_rfl) (by kernel_rfl) (by kernel_rfl) (by kernel_rfl))
    laidOut rfl rfl Try.underlying4 (by kernel_rfl) (fun ds hd => ?_) ?_
  · match ds, hd with
    | [_, _], _ => rfl
  · intro W base args hargs hsz
    obtain ⟨l⟩ := args
    match l, hsz with
    | [v0, v1], _ =>
      obtain ⟨a, n, c, b, m, xs, rfl, h1, h2, h3⟩ := arg_u8s (hargs 0 43 v0 rfl rfl)
      obtain ⟨x1, rfl, w1⟩ := (hargs 1 5 v1 rfl rfl).int Try.underlying5
      have b1 := bounds_u8 w1
      exact rates7 a b m n c xs x1 W h1 h2 h3 b1

theorem priorityRates_holds : Rows.PriorityRatesSaid :=
  OpenClaim.holds_of_wide 7 Try.f7 rfl rfl rfl rfl rfl rfl rfl ⟨rfl, rfl, rfl, rfl, rfl⟩ rfl rfl rfl rfl rfl (by kernel_rfl) Try.func7 (by kernel_rfl)
    (of_decide_eq_true (by kernel_rfl)) (by unfold Func.isWrapper; rw [if_neg (of_decide_eq_false (by kernel_rfl))]; exact ⟨rfl, rfl⟩)
    (fun os started H enc _ => priorityRates_lifted os started H enc)
end Go.Proofs.Ytgcplboiodnfpaa
