/- SchedulerRaw returns true for every input. Conditions: none. -/
import Derived.Test.YtdcogbokcbpnnaaRArgs
import Derived.Test.YtdcogbokcbpnnaaL1
namespace Go.Proofs.Ytdcogbokcbpnnaa
open Go.ChangeShapes Go.WideShapes Go.ChangeAt Go.RowKit
set_option linter.unusedVariables false
set_option linter.unusedSimpArgs false

theorem schedulerRaw_lifted (os : Os) (started : os.Started) (H : Type) (enc : TypeId × Value → H) :
    ReturnsInHanded {} Try.checked os 3 .any (Rows.schedulerRawSpec.pre6 enc Try.prog Try.f3 Rows.schedulerRawRow.domain false) (Rows.schedulerRawSpec.post enc Try.prog Try.f3 false true false false) := by
  refine lift_law (C := Try.checked) (tb := 4) own started (by kernel_rfl) Try.func3
    (ChangeSpec.witness6 (enc := enc) (C := Try.checked) false ⟨#[], #[.slice none 0 0, .int .i64 0, .int .i64 0, .slice none 0 0], []⟩ 8 (by kernel_rfl) (by kernel_rfl) (by kernel_rfl) (by kernel_rfl))
    laidOut rfl rfl Try.underlying4 (by kernel_rfl) (fun ds hd => ?_) ?_
  · match ds, hd with
    | [_, _, _, _], _ => rfl
  · intro W base args hargs hsz
    obtain ⟨l⟩ := args
    match l, hsz with
    | [v0, v1, v2, v3], _ =>
      obtain ⟨la, n, lc, L, rfl, hn, H⟩ := arg_ds (hargs 0 22 v0 rfl rfl)
      obtain ⟨R, rfl, w1⟩ := (hargs 1 3 v1 rfl rfl).int Try.underlying3
      have b1 := bounds_i64 w1
      obtain ⟨q, rfl, w2⟩ := (hargs 2 3 v2 rfl rfl).int Try.underlying3
      have b2 := bounds_i64 w2
      obtain ⟨a, n0, cp, b, o, xs, rfl, h1, h2, h3, h4, h5, h6⟩ := arg_list (hargs 3 23 v3 rfl rfl)
      exact raw3 la n lc L R q a n0 cp xs W H h6 hn h2

theorem schedulerRaw_holds : Rows.SchedulerRawSaid :=
  OpenClaim.holds_of_wide 3 Try.f3 rfl rfl rfl rfl rfl rfl rfl ⟨rfl, rfl, rfl, rfl, rfl⟩ rfl rfl rfl rfl rfl (by kernel_rfl) Try.func3 (by kernel_rfl)
    (of_decide_eq_true (by kernel_rfl)) (by unfold Func.isWrapper; rw [if_neg (of_decide_eq_false (by kernel_rfl))]; exact ⟨rfl, rfl⟩)
    (fun os started H enc _ => schedulerRaw_lifted os started H enc)
end Go.Proofs.Ytdcogbokcbpnnaa
