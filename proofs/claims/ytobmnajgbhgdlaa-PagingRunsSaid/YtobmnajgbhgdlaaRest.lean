/- Dice: how many numbers are left. -/
import Derived.Test.YtobmnajgbhgdlaaDice
namespace Go.Proofs.Ytobmnajgbhgdlaa
set_option linter.unusedVariables false
set_option linter.unusedSimpArgs false
open Go.RowKit Go.Sort
attribute [local go_sem] gcell

theorem dnext_le {n k : Nat} (h : k ≤ n) : dnext n k ≤ n := by unfold dnext; split <;> omega
set_option maxHeartbeats 1000000 in
theorem dice_rest (p g : Nat) (a : Option Addr) (cap n : Nat) (xs : Nat → Int) (k : Nat) (w : World) (hk : k ≤ n) (hn : n ≤ 300) (D : DiceAt w p g a cap n xs k) :
    Calls Try.prog 14 #[.pointer (some ⟨p, 0, none⟩)] w fun e w' => e = .returned (.int .i64 ((n : Int) - k)) ∧ ∃ q, w' = w.drewN q := by
  have c0 := D.c0
  have c1 := D.c1
  have e1 : IntKind.i64.wrap ((n : Int) - (k : Int)) = (n : Int) - k := IntWalk.i64_in _ (by omega)
  have h0 : (0 : Int) ≤ (n : Int) - k := by omega
  clear D
  go_enter Try.func14, Try.ntmps14
  go_wp2_with fail
  go_quiet (fail)
  go_wp2
  all_goals
    go_ret
    exact ⟨ret_int (by first | rfl | (split <;> omega) | omega), _, rfl⟩
end Go.Proofs.Ytobmnajgbhgdlaa
