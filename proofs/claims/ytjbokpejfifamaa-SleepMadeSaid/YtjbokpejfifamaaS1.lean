/- Layer 35: contracts of the small functions. -/
import Derived.Test.YtjbokpejfifamaaRows
import Derived.Test.YtjbokpejfifamaaKit
import Derived.Test.YtjbokpejfifamaaS0
namespace Go.Proofs.Ytjbokpejfifamaa
open Go.RowKit Go.Sort
attribute [local go_sem] gcell
set_option linter.unusedVariables false

/-- A rhythm as a value. -/
abbrev rv (c o n l s h : Int) : Value := .agg #[.int .i64 c, .int .i64 o, .int .i64 n, .int .i64 l, .int .i64 s, .int .i64 h]

theorem check_a {r : Rh} (h : bad1 r) : check r = 3 := by unfold check; rw [if_pos h]
theorem check_b {r : Rh} (h : ¬ bad1 r) (h2 : bad2 r) : check r = 3 := by unfold check; rw [if_neg h, if_pos h2]
theorem check_c {r : Rh} (h : ¬ bad1 r) (h2 : ¬ bad2 r) : check r = 0 := by unfold check; rw [if_neg h, if_neg h2]

set_option maxHeartbeats 2000000 in
theorem check24 (c o n l s h : Int) (w : World) : Calls Try.prog 24 #[rv c o n l s h] w fun e w' => e = .returned (.int .i64 (check ⟨c, o, n, l, s, h⟩)) ∧ Below w.heap.size w w' := by
  by_cases s2 : s = 0
  · subst s2
    go_enter Try.func24, Try.ntmps24
    go_wp2
    all_goals
      go_ret
      exact ⟨ret_int (by first | rw [check_a (by unfold bad1; dsimp only; omega)] | rw [check_b (by unfold bad1; dsimp only; omega) (by unfold bad2; dsimp only; omega)] | rw [check_c (by unfold bad1; dsimp only; omega) (by unfold bad2; dsimp only; omega)]), (Below.refl _ _).alloc (Nat.le_refl _) _⟩
  · have s1 : (s == 0) = false := beq_eq_false_iff_ne.2 s2
    have s3 : (s != 0) = true := by rw [bne_iff_ne]; exact s2
    go_enter Try.func24, Try.ntmps24
    go_wp2
    all_goals
      go_ret
      exact ⟨ret_int (by first | rw [check_a (by unfold bad1; dsimp only; omega)] | rw [check_b (by unfold bad1; dsimp only; omega) (by unfold bad2; dsimp only; omega)] | rw [check_c (by unfold bad1; dsimp only; omega) (by unfold bad2; dsimp only; omega)]), (Below.refl _ _).alloc (Nat.le_refl _) _⟩

set_option maxHeartbeats 2000000 in
theorem check25 (c o n l s h : Int) (w : World) : Calls Try.prog 25 #[rv c o n l s h] w fun e w' => e = .returned (.int .i64 (check ⟨c, o, n, l, s, h⟩)) ∧ Below w.heap.size w w' := by
  by_cases s2 : s = 0
  · subst s2
    go_enter Try.func25, Try.ntmps25
    go_wp2
    all_goals
      go_ret
      exact ⟨ret_int (by first | rw [check_a (by unfold bad1; dsimp only; omega)] | rw [check_b (by unfold bad1; dsimp only; omega) (by unfold bad2; dsimp only; omega)] | rw [check_c (by unfold bad1; dsimp only; omega) (by unfold bad2; dsimp only; omega)]), (Below.refl _ _).alloc (Nat.le_refl _) _⟩
  · have s1 : (s == 0) = false := beq_eq_false_iff_ne.2 s2
    have s3 : (s != 0) = true := by rw [bne_iff_ne]; exact s2
    go_enter Try.func25, Try.ntmps25
    go_wp2
    all_goals
      go_ret
      exact ⟨ret_int (by first | rw [check_a (by unfold bad1; dsimp only; omega)] | rw [check_b (by unfold bad1; dsimp only; omega) (by unfold bad2; dsimp only; omega)] | rw [check_c (by unfold bad1; dsimp only; omega) (by unfold bad2; dsimp only; omega)]), (Below.refl _ _).alloc (Nat.le_refl _) _⟩

end Go.Proofs.Ytjbokpejfifamaa
