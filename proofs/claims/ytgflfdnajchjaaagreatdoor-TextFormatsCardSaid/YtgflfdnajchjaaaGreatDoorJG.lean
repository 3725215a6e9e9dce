import Derived.Test.YtgflfdnajchjaaaGreatDoorRows
import Derived.Test.YtgflfdnajchjaaaGreatDoorJB
import Derived.Lib.SliceRun
/- Layer 45: the check of a rhythm (turned from layer 35). -/
namespace Go.Proofs.YtgflfdnajchjaaaGreatDoor.Sl
set_option linter.unusedVariables false
set_option linter.unusedSimpArgs false
open Go.RowKit Go.Sort
attribute [local go_sem] gcell
/-- A rhythm. -/
structure Rh where
  c : Int
  o : Int
  n : Int
  l : Int
  s : Int
  h : Int

def bad1 (r : Rh) : Prop := r.c < 1 ∨ 256 < r.c ∨ r.o < 0 ∨ r.c ≤ r.o ∨ r.n < 1 ∨ r.c < r.n ∨ r.l < 0 ∨ 256 < r.l
def bad2 (r : Rh) : Prop := (r.s ≠ 0 ∧ (r.s < r.n ∨ r.c < r.s)) ∨ r.h < 0 ∨ 16 < r.h
instance (r : Rh) : Decidable (bad1 r) := by unfold bad1; infer_instance
instance (r : Rh) : Decidable (bad2 r) := by unfold bad2; infer_instance
def check (r : Rh) : Int := if bad1 r then 3 else if bad2 r then 3 else 0
def okR (r : Rh) : Bool := decide (¬ bad1 r ∧ ¬ bad2 r)
theorem check_ok {r : Rh} (h : okR r = true) : check r = 0 := by
  have := of_decide_eq_true h
  unfold check; rw [if_neg this.1, if_neg this.2]
theorem check_bad {r : Rh} (h : okR r = false) : check r = 3 := by
  have := of_decide_eq_false h
  unfold check; split
  · rfl
  · rw [if_pos]; exact Classical.byContradiction fun h2 => this ⟨‹_›, h2⟩
theorem okR_iff (r : Rh) : okR r = true ↔ 1 ≤ r.c ∧ r.c ≤ 256 ∧ 0 ≤ r.o ∧ r.o < r.c ∧ 1 ≤ r.n ∧ r.n ≤ r.c ∧ 0 ≤ r.l ∧ r.l ≤ 256 ∧ (r.s = 0 ∨ (r.n ≤ r.s ∧ r.s ≤ r.c)) ∧ 0 ≤ r.h ∧ r.h ≤ 16 := by
  unfold okR bad1 bad2
  rw [decide_eq_true_eq]
  omega

/-- A rhythm as a value. -/
abbrev rv (c o n l s h : Int) : Value := .agg #[.int .i64 c, .int .i64 o, .int .i64 n, .int .i64 l, .int .i64 s, .int .i64 h]

theorem check_a {r : Rh} (h : bad1 r) : check r = 3 := by unfold check; rw [if_pos h]
theorem check_b {r : Rh} (h : ¬ bad1 r) (h2 : bad2 r) : check r = 3 := by unfold check; rw [if_neg h, if_pos h2]
theorem check_c {r : Rh} (h : ¬ bad1 r) (h2 : ¬ bad2 r) : check r = 0 := by unfold check; rw [if_neg h, if_neg h2]

set_option maxHeartbeats 2000000 in
theorem check24 (c o n l s h : Int) (w : World) : Calls Tryz.prog 114 #[rv c o n l s h] w fun e w' => e = .returned (.int .i64 (check ⟨c, o, n, l, s, h⟩)) ∧ Below w.heap.size w w' := by
  by_cases s2 : s = 0
  · subst s2
    go_enter Tryz.func114, Tryz.ntmps114
    go_wp2
    all_goals
      go_ret
      exact ⟨ret_int (by first | rw [check_a (by unfold bad1; dsimp only; omega)] | rw [check_b (by unfold bad1; dsimp only; omega) (by unfold bad2; dsimp only; omega)] | rw [check_c (by unfold bad1; dsimp only; omega) (by unfold bad2; dsimp only; omega)]), (Below.refl _ _).alloc (Nat.le_refl _) _⟩
  · have s1 : (s == 0) = false := beq_eq_false_iff_ne.2 s2
    have s3 : (s != 0) = true := by rw [bne_iff_ne]; exact s2
    go_enter Tryz.func114, Tryz.ntmps114
    go_wp2
    all_goals
      go_ret
      exact ⟨ret_int (by first | rw [check_a (by unfold bad1; dsimp only; omega)] | rw [check_b (by unfold bad1; dsimp only; omega) (by unfold bad2; dsimp only; omega)] | rw [check_c (by unfold bad1; dsimp only; omega) (by unfold bad2; dsimp only; omega)]), (Below.refl _ _).alloc (Nat.le_refl _) _⟩

set_option maxHeartbeats 2000000 in
theorem check25 (c o n l s h : Int) (w : World) : Calls Tryz.prog 101 #[rv c o n l s h] w fun e w' => e = .returned (.int .i64 (check ⟨c, o, n, l, s, h⟩)) ∧ Below w.heap.size w w' := by
  by_cases s2 : s = 0
  · subst s2
    go_enter Tryz.func101, Tryz.ntmps101
    go_wp2
    all_goals
      go_ret
      exact ⟨ret_int (by first | rw [check_a (by unfold bad1; dsimp only; omega)] | rw [check_b (by unfold bad1; dsimp only; omega) (by unfold bad2; dsimp only; omega)] | rw [check_c (by unfold bad1; dsimp only; omega) (by unfold bad2; dsimp only; omega)]), (Below.refl _ _).alloc (Nat.le_refl _) _⟩
  · have s1 : (s == 0) = false := beq_eq_false_iff_ne.2 s2
    have s3 : (s != 0) = true := by rw [bne_iff_ne]; exact s2
    go_enter Tryz.func101, Tryz.ntmps101
    go_wp2
    all_goals
      go_ret
      exact ⟨ret_int (by first | rw [check_a (by unfold bad1; dsimp only; omega)] | rw [check_b (by unfold bad1; dsimp only; omega) (by unfold bad2; dsimp only; omega)] | rw [check_c (by unfold bad1; dsimp only; omega) (by unfold bad2; dsimp only; omega)]), (Below.refl _ _).alloc (Nat.le_refl _) _⟩

end Go.Proofs.YtgflfdnajchjaaaGreatDoor.Sl
