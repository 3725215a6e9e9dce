/- PriorityRaw returns true for every input. Conditions: none. -/
import Derived.Test.YtgcplboiodnfpaaPArgs
import Derived.Test.YtgcplboiodnfpaaL1
namespace Go.Proofs.Ytgcplboiodnfpaa
open Go.ChangeShapes Go.WideShapes Go.ChangeAt Go.RowKit
set_option linter.unusedVariables false
set_option linter.unusedSimpArgs false

theorem priorityRaw_lifted (os : Os) (started : os.Started) (H : Type) (enc : TypeId × Value → H) :
    ReturnsInHanded {} Try.checked os 5 .any (Rows.priorityRawSpec.pre6 enc Try.prog Try.f5 Rows.priorityRawRow.domain false) (Rows.priorityRawSpec.post enc Try.prog Try.f5 false true false false) := by
  refine lift_law (C := Try.checked) (tb := 4) own started (by kernel_rfl) Try.func5
    (ChangeSpec.witness6 (enc := enc) (C := Try.checked) false ⟨#[], #[.slice none 0 0, .slice none 0 0, .int .i64 0], []⟩ 8 (by kernel_rfl) (by kernel_rfl) (by kernel_rfl) (by kernel_rfl))
    laidOut rfl rfl Try.underlying4 (by kernel_rfl) (fun ds hd => ?_) ?_
  · match ds, hd with
    | [_, _, _], _ => rfl
  · intro W base args hargs hsz
    obtain ⟨l⟩ := args
    match l, hsz with
    | [v0, v1, v2], _ =>
      obtain ⟨a, n, c, P, R, M, T, rfl, hn, ha, R4⟩ := arg_bs (hargs 0 25 v0 rfl rfl)
      obtain ⟨d, m, l, b, o, xs, rfl, h1, h2, h3, h4, h5, h6⟩ := arg_list (hargs 1 22 v1 rfl rfl)
      obtain ⟨x, rfl, w2⟩ := (hargs 2 3 v2 rfl rfl).int Try.underlying3
      have b2 := bounds_i64 w2
      exact raw5 a n c d m l P R M T xs x W hn h2 ha R4 h6

theorem priorityRaw_holds : Rows.PriorityRawSaid :=
  OpenClaim.holds_of_wide 5 Try.f5 rfl rfl rfl rfl rfl rfl rfl ⟨rfl, rfl, rfl, rfl, rfl⟩ rfl rfl rfl rfl rfl (by kernel_rfl) Try.func5 (by kernel_rfl)
    (of_decide_eq_true (by kernel_rfl)) (by unfold Func.isWrapper; rw [if_neg (of_decide_eq_false (by kernel_rfl))]; exact ⟨rfl, rfl⟩)
    (fun os started H enc _ => priorityRaw_lifted os started H enc)
end Go.Proofs.Ytgcplboiodnfpaa
