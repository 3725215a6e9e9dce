/- SoftHolds returns true for every input. Conditions: none. -/
import Derived.Test.YtdhfadmeablkpaaArgs
import Derived.Test.YtdhfadmeablkpaaL2
namespace Go.Proofs.Ytdhfadmeablkpaa
open Go.ChangeShapes Go.WideShapes Go.ChangeAt Go.RowKit
set_option linter.unusedVariables false

theorem own : ownKnob Try.prog.godebug = none := by kernel_rfl
theorem laidOut : laidOutB Try.prog = true := by kernel_rfl

theorem softHolds_lifted (os : Os) (started : os.Started) (H : Type) (enc : TypeId × Value → H) :
    ReturnsInHanded {} Try.checked os 4 .any (Rows.softHoldsSpec.pre6 enc Try.prog Try.f4 Rows.softHoldsRow.domain false) (Rows.softHoldsSpec.post enc Try.prog Try.f4 false true false false) := by
  refine lift_law (C := Try.checked) (tb := 4) own started (by kernel_rfl) Try.func4
    (ChangeSpec.witness6 (enc := enc) (C := Try.checked) false ⟨#[], #[.slice none 0 0, .int .u8 0, .slice none 0 0, .slice none 0 0], []⟩ 8 (by kernel_rfl) (by kernel_rfl) (by kernel_rfl) (by kernel_rfl))
    laidOut rfl rfl Try.underlying4 (by kernel_rfl) (fun ds hd => ?_) ?_
  · match ds, hd with
    | [_, _, _, _], _ => rfl
  · intro W base args hargs hsz
    obtain ⟨l⟩ := args
    match l, hsz with
    | [v0, v1, v2, v3], _ =>
      obtain ⟨al, nl, cl, l, rfl, h1, bl, ol, hal, hl⟩ := arg_bools (hargs 0 32 v0 rfl rfl) Try.underlying32 Try.underlying4 (by kernel_rfl) (by kernel_rfl)
      obtain ⟨gain, rfl, w1⟩ := (hargs 1 5 v1 rfl rfl).int Try.underlying5
      have b1 := bounds_u8 w1
      obtain ⟨ap, np, cp, bp, op, ps, rfl, l2, h2, _, hap, hp⟩ := arg_intsOf (B := 2) (hargs 2 33 v2 rfl rfl) Try.underlying33 Try.underlying35 (by kernel_rfl) (by kernel_rfl) (by decide)
      obtain ⟨aq, nq, cq, bq, oq, qs, rfl, l3, h3, _, haq, hq⟩ := arg_intsOf (B := 2) (hargs 3 33 v3 rfl rfl) Try.underlying33 Try.underlying35 (by kernel_rfl) (by kernel_rfl) (by decide)
      exact holds4 al ap aq nl np nq cl cp cq bl ol bp op bq oq l gain ps qs W hal hl (fun h => hap (by omega)) (fun k hk => ⟨(hp k (by omega)).1, bounds_i16 (hp k (by omega)).2⟩) (fun h => haq (by omega)) (fun k hk => ⟨(hq k (by omega)).1, bounds_i16 (hq k (by omega)).2⟩) h1 (by omega) (by omega) b1

theorem softHolds_holds : Rows.SoftHoldsSaid :=
  OpenClaim.holds_of_wide 4 Try.f4 rfl rfl rfl rfl rfl rfl rfl ⟨rfl, rfl, rfl, rfl, rfl⟩ rfl rfl rfl rfl rfl (by kernel_rfl) Try.func4 (by kernel_rfl)
    (of_decide_eq_true (by kernel_rfl)) (by unfold Func.isWrapper; rw [if_neg (of_decide_eq_false (by kernel_rfl))]; exact ⟨rfl, rfl⟩)
    (fun os started H enc _ => softHolds_lifted os started H enc)
end Go.Proofs.Ytdhfadmeablkpaa
