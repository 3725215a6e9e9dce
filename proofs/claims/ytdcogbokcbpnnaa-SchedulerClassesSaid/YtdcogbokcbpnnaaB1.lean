/- Layer 34: who is preferred. -/
import Derived.Test.YtdcogbokcbpnnaaB0
namespace Go.Proofs.Ytdcogbokcbpnnaa
set_option linter.unusedVariables false
set_option linter.unusedSimpArgs false
open Go.RowKit Go.Sort
attribute [local go_sem] gcell
def within (n most : Int) : Int := max 0 (min n most)
theorem within_nonneg (n m : Int) : 0 ≤ within n m := by unfold within; omega
theorem within_le (n m : Int) (h : 0 ≤ m) : within n m ≤ m := by unfold within; omega

set_option maxHeartbeats 400000 in
theorem within54 (a b : Int) (w : World) :
    Calls Try.prog 54 #[.int .i64 a, .int .i64 b] w fun e w' => e = .returned (.int .i64 (within a b)) ∧ w' = w := by
  go_enter Try.func54, Try.ntmps54
  go_wp2
  all_goals
    go_ret
    exact ⟨ret_int (by unfold within; omega), rfl⟩

set_option maxHeartbeats 400000 in
theorem within28 (a b : Int) (w : World) :
    Calls Try.prog 28 #[.int .i64 a, .int .i64 b] w fun e w' => e = .returned (.int .i64 (within a b)) ∧ w' = w := by
  go_enter Try.func28, Try.ntmps28
  go_wp2
  all_goals
    go_ret
    exact ⟨ret_int (by unfold within; omega), rfl⟩

def mean (m : Int) : Int := within m 67108864

set_option maxHeartbeats 400000 in
theorem mean55 (m : Int) (w : World) :
    Calls Try.prog 55 #[.agg #[.int .i64 m]] w fun e w' => e = .returned (.int .i64 (mean m)) ∧ Below w.heap.size w w' := by
  go_enter Try.func55, Try.ntmps55
  go_wp2_with (go_at_call 54; refine (within54 _ _ _).mono ?_; rintro e w' ⟨rfl, rfl⟩)
  go_ret
  exact ⟨rfl, (Below.refl _ _).alloc (Nat.le_refl _) _⟩

def learn (m b : Int) : Int := min (mean m - mean m / 16 + 4 * within b 1048576) 67108864

def prefer (r m q n : Int) : Bool := decide (within q 1048576 * (64 + mean m) < within r 1048576 * (64 + mean n))

theorem mul_bd (a b : Int) (h1 : 0 ≤ a) (h2 : a ≤ 1048576) (h3 : 0 ≤ b) (h4 : b ≤ 67108928) : 0 ≤ a * b ∧ a * b ≤ 1048576 * 67108928 :=
  ⟨Int.mul_nonneg h1 h3, Int.mul_le_mul h2 h4 h3 (by omega)⟩

theorem prefer_wrap (r m q n : Int) : decide (wrap64 (within q 1048576 * wrap64 (64 + mean m)) < wrap64 (within r 1048576 * wrap64 (64 + mean n))) = prefer r m q n := by
  have h1 : 0 ≤ mean m := within_nonneg m 67108864
  have h2 : mean m ≤ 67108864 := within_le m 67108864 (by omega)
  have h3 : 0 ≤ mean n := within_nonneg n 67108864
  have h4 : mean n ≤ 67108864 := within_le n 67108864 (by omega)
  have h5 := within_nonneg q 1048576
  have h6 := within_le q 1048576 (by omega)
  have h7 := within_nonneg r 1048576
  have h8 := within_le r 1048576 (by omega)
  have e1 := mul_bd _ (64 + mean m) h5 h6 (by omega) (by omega)
  have e2 := mul_bd _ (64 + mean n) h7 h8 (by omega) (by omega)
  rw [IntWalk.wrap64_in (64 + mean m) ⟨by omega, by omega⟩, IntWalk.wrap64_in (64 + mean n) ⟨by omega, by omega⟩, IntWalk.wrap64_in _ ⟨by omega, by omega⟩, IntWalk.wrap64_in _ ⟨by omega, by omega⟩]
  rfl

set_option maxHeartbeats 400000 in
theorem prefer44 (r m q n : Int) (w : World) :
    Calls Try.prog 44 #[.int .i64 r, .agg #[.int .i64 m], .int .i64 q, .agg #[.int .i64 n]] w fun e w' => e = .returned (.bool (prefer r m q n)) ∧ Below w.heap.size w w' := by
  go_enter Try.func44, Try.ntmps44
  go_wp2_with fail
  refine wp_region_quiet_below (by kernel_rfl) (by kernel_rfl) ?_
  repeat (go_big_quiet_step (first | (go_at_call 54; exact Calls.regrown_of ((within54 _ _ _).mono fun e w' h => ⟨h.1, h.2 ▸ Below.refl _ _⟩)) | (go_at_call 55; exact Calls.regrown_of (mean55 _ _))))
  refine wpQuiet_nil ?_
  rintro _ ⟨p, rfl⟩
  go_wp2
  go_ret
  exact ⟨by rw [← prefer_wrap]; rfl, (((Below.refl _ _).alloc (Nat.le_refl _) _).alloc (by simp) _).trans ((below_regrown _ _ _).mono (by simp; omega))⟩

set_option maxHeartbeats 400000 in
theorem prefer48 (r m q n : Int) (w : World) :
    Calls Try.prog 48 #[.int .i64 r, .agg #[.int .i64 m], .int .i64 q, .agg #[.int .i64 n]] w fun e w' => e = .returned (.bool (prefer r m q n)) ∧ Below w.heap.size w w' := by
  go_enter Try.func48, Try.ntmps48
  go_wp2_with fail
  refine wp_region_quiet_below (by kernel_rfl) (by kernel_rfl) ?_
  repeat (go_big_quiet_step (first | (go_at_call 28; exact Calls.regrown_of ((within28 _ _ _).mono fun e w' h => ⟨h.1, h.2 ▸ Below.refl _ _⟩))))
  refine wpQuiet_nil ?_
  rintro _ ⟨p, rfl⟩
  go_wp2
  go_ret
  exact ⟨by rw [← prefer_wrap]; rfl, (((Below.refl _ _).alloc (Nat.le_refl _) _).alloc (by simp) _).trans ((below_regrown _ _ _).mono (by simp; omega))⟩

set_option maxHeartbeats 400000 in
theorem learn20 (m b : Int) (w : World) :
    Calls Try.prog 20 #[.agg #[.int .i64 m], .int .i64 b] w fun e w' => e = .returned (.agg #[.int .i64 (learn m b)]) ∧ Below w.heap.size w w' := by
  have h1 : 0 ≤ within m 67108864 := within_nonneg m 67108864
  have h2 : within m 67108864 ≤ 67108864 := within_le m 67108864 (by omega)
  have h3 := within_nonneg b 1048576
  have h4 := within_le b 1048576 (by omega)
  go_enter Try.func20, Try.ntmps20
  go_wp2_with (first | (go_at_call 28; refine (within28 _ _ _).mono ?_; rintro e w' ⟨rfl, rfl⟩))
  all_goals
    have hl : learn m b = within m 67108864 - within m 67108864 / 16 + 4 * within b 1048576 := by unfold learn mean; omega
    refine bodyPost_ret (v := .agg #[.int .i64 (learn m b)]) (by rw [hl]; simp [results, Try.results20, go_sem] <;> omega) rfl ⟨rfl, ?_⟩
    exact Below.alloc (Below.alloc (Below.refl _ _) (Nat.le_refl _) _) (by simp) _

end Go.Proofs.Ytdcogbokcbpnnaa
