/- GuaranteeRaw returns true for every input. Conditions: none. -/
import Derived.Test.YteokhadpenalaaaGArgs
import Derived.Test.YteokhadpenalaaaL2
namespace Go.Proofs.Yteokhadpenalaaa
open Go.ChangeShapes Go.WideShapes Go.ChangeAt Go.RowKit
set_option linter.unusedVariables false
set_option linter.unusedSimpArgs false

theorem guaranteeRaw_lifted (os : Os) (started : os.Started) (H : Type) (enc : TypeId × Value → H) :
    ReturnsInHanded {} Try.checked os 3 .any (Rows.guaranteeRawSpec.pre6 enc Try.prog Try.f3 Rows.guaranteeRawRow.domain false) (Rows.guaranteeRawSpec.post enc Try.prog Try.f3 false true false false) := by
  refine lift_law (C := Try.checked) (tb := 4) own started (by kernel_rfl) Try.func3
    (ChangeSpec.witness6 (enc := enc) (C := Try.checked) false ⟨#[], #[.slice none 0 0, .slice none 0 0, .int .i64 0, .int .i64 0, .int .i64 0, .int .i64 0, .int .i64 0], []⟩ 8 (by kernel_rfl) (by kernel_rfl) (by kernel_rfl) (by kernel_rfl))
    laidOut rfl rfl Try.underlying4 (by kernel_rfl) (fun ds hd => ?_) ?_
  · match ds, hd with
    | [_, _, _, _, _, _, _], _ => rfl
  · intro W base args hargs hsz
    obtain ⟨l⟩ := args
    match l, hsz with
    | [v0, v1, v2, v3, v4, v5, v6], _ =>
      obtain ⟨a, n, c, F, U, B, rfl, hn, ha, R⟩ := arg_gs (hargs 0 22 v0 rfl rfl)
      obtain ⟨ag, m, cg, bg, mg, g, rfl, g1, g2, g3, g4, g5, G⟩ := arg_list (hargs 1 23 v1 rfl rfl)
      obtain ⟨x, rfl, w2⟩ := (hargs 2 3 v2 rfl rfl).int Try.underlying3
      have b2 := bounds_i64 w2
      obtain ⟨y, rfl, w3⟩ := (hargs 3 3 v3 rfl rfl).int Try.underlying3
      have b3 := bounds_i64 w3
      obtain ⟨t, rfl, w4⟩ := (hargs 4 3 v4 rfl rfl).int Try.underlying3
      have b4 := bounds_i64 w4
      obtain ⟨r, rfl, w5⟩ := (hargs 5 3 v5 rfl rfl).int Try.underlying3
      have b5 := bounds_i64 w5
      obtain ⟨h, rfl, w6⟩ := (hargs 6 3 v6 rfl rfl).int Try.underlying3
      have b6 := bounds_i64 w6
      exact raw3 a ag n c m cg F U B g x y t r h W R G hn g2

theorem guaranteeRaw_holds : Rows.GuaranteeRawSaid :=
  OpenClaim.holds_of_wide 3 Try.f3 rfl rfl rfl rfl rfl rfl rfl ⟨rfl, rfl, rfl, rfl, rfl⟩ rfl rfl rfl rfl rfl (by kernel_rfl) Try.func3 (by kernel_rfl)
    (of_decide_eq_true (by kernel_rfl)) (by unfold Func.isWrapper; rw [if_neg (of_decide_eq_false (by kernel_rfl))]; exact ⟨rfl, rfl⟩)
    (fun os started H enc _ => guaranteeRaw_lifted os started H enc)
end Go.Proofs.Yteokhadpenalaaa
