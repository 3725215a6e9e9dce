/- SoftRaw returns true for every input. Conditions: none. -/
import Derived.Test.YtdhfadmeablkpaaArgs
import Derived.Test.YtdhfadmeablkpaaL1
namespace Go.Proofs.Ytdhfadmeablkpaa
open Go.ChangeShapes Go.WideShapes Go.ChangeAt Go.RowKit
set_option linter.unusedVariables false

theorem own : ownKnob Try.prog.godebug = none := by kernel_rfl
theorem laidOut : laidOutB Try.prog = true := by kernel_rfl

theorem softRaw_lifted (os : Os) (started : os.Started) (H : Type) (enc : TypeId × Value → H) :
    ReturnsInHanded {} Try.checked os 3 .any (Rows.softRawSpec.pre6 enc Try.prog Try.f3 Rows.softRawRow.domain false) (Rows.softRawSpec.post enc Try.prog Try.f3 false true false false) := by
  refine lift_law (C := Try.checked) (tb := 4) own started (by kernel_rfl) Try.func3
    (ChangeSpec.witness6 (enc := enc) (C := Try.checked) false ⟨#[], #[.int .i64 0, .slice none 0 0, .int .i64 0, .slice none 0 0, .slice none 0 0, .slice none 0 0], []⟩ 8 (by kernel_rfl) (by kernel_rfl) (by kernel_rfl) (by kernel_rfl))
    laidOut rfl rfl Try.underlying4 (by kernel_rfl) (fun ds hd => ?_) ?_
  · match ds, hd with
    | [_, _, _, _, _, _], _ => rfl
  · intro W base args hargs hsz
    obtain ⟨l⟩ := args
    match l, hsz with
    | [v0, v1, v2, v3, v4, v5], _ =>
      obtain ⟨x, rfl, w0⟩ := (hargs 0 3 v0 rfl rfl).int Try.underlying3
      have b0 := bounds_i64 w0
      obtain ⟨ab, nb, cb, bs, rfl, l1, m1, RB⟩ := arg_row (hargs 1 22 v1 rfl rfl) Try.underlying22 Try.underlying3 (by kernel_rfl) (by kernel_rfl)
      obtain ⟨gain, rfl, w2⟩ := (hargs 2 3 v2 rfl rfl).int Try.underlying3
      have b2 := bounds_i64 w2
      obtain ⟨an, nn, cn, ns, rfl, l3, m3, RN⟩ := arg_row (hargs 3 22 v3 rfl rfl) Try.underlying22 Try.underlying3 (by kernel_rfl) (by kernel_rfl)
      obtain ⟨aa, na, ca, us, rfl, l4, m4, RA⟩ := arg_row (hargs 4 22 v4 rfl rfl) Try.underlying22 Try.underlying3 (by kernel_rfl) (by kernel_rfl)
      obtain ⟨ac, nc, cc, cs, rfl, l5, m5, RC⟩ := arg_row (hargs 5 22 v5 rfl rfl) Try.underlying22 Try.underlying3 (by kernel_rfl) (by kernel_rfl)
      exact raw3 x ab an aa ac nb nn na nc cb cn ca cc gain bs ns us cs W RB RN RA RC (by omega) (by omega) (by omega) (by omega)

theorem softRaw_holds : Rows.SoftRawSaid :=
  OpenClaim.holds_of_wide 3 Try.f3 rfl rfl rfl rfl rfl rfl rfl ⟨rfl, rfl, rfl, rfl, rfl⟩ rfl rfl rfl rfl rfl (by kernel_rfl) Try.func3 (by kernel_rfl)
    (of_decide_eq_true (by kernel_rfl)) (by unfold Func.isWrapper; rw [if_neg (of_decide_eq_false (by kernel_rfl))]; exact ⟨rfl, rfl⟩)
    (fun os started H enc _ => softRaw_lifted os started H enc)
end Go.Proofs.Ytdhfadmeablkpaa
