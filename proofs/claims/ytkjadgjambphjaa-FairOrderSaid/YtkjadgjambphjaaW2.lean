/- Contracts of the small functions of layer 32. -/
import Derived.Test.YtkjadgjambphjaaW1
namespace Go.Proofs.Ytkjadgjambphjaa
open Go.RowKit Go.Sort

theorem gcell (W : World) (d : Nat) (os : Array Obj) (b o : Nat) (h : b < W.heap.size) : (grow (redrawn W d) os).cell? ⟨b, o, none⟩ = W.cell? ⟨b, o, none⟩ :=
  (below_regrown W d os).cell (p := ⟨b, o, none⟩) h
attribute [local go_sem] gcell

def prefer (r m q n : Int) : Bool := decide (within q 1048576 * (64 + mean m) < within r 1048576 * (64 + mean n))

theorem mul_bd (a b : Int) (h1 : 0 ≤ a) (h2 : a ≤ 1048576) (h3 : 0 ≤ b) (h4 : b ≤ 67108928) : 0 ≤ a * b ∧ a * b ≤ 1048576 * 67108928 :=
  ⟨Int.mul_nonneg h1 h3, Int.mul_le_mul h2 h4 h3 (by omega)⟩

theorem prefer_wrap (r m q n : Int) : decide (wrap64 (within q 1048576 * wrap64 (64 + mean m)) < wrap64 (within r 1048576 * wrap64 (64 + mean n))) = prefer r m q n := by
  have h1 : 0 ≤ mean m := within_nonneg m 67108864
  have h2 : mean m ≤ 67108864 := within_le m 67108864 (by omega)
  have h3 : 0 ≤ mean n := within_nonneg n 67108864
  have h4 : mean n ≤ 67108864 := within_le n 67108864 (by omega)
  have h5 := within_nonneg q 1048576
  have h6 := within_le q 1048576 (by omega)
  have h7 := within_nonneg r 1048576
  have h8 := within_le r 1048576 (by omega)
  have e1 := mul_bd _ (64 + mean m) h5 h6 (by omega) (by omega)
  have e2 := mul_bd _ (64 + mean n) h7 h8 (by omega) (by omega)
  rw [IntWalk.wrap64_in (64 + mean m) ⟨by omega, by omega⟩, IntWalk.wrap64_in (64 + mean n) ⟨by omega, by omega⟩, IntWalk.wrap64_in _ ⟨by omega, by omega⟩, IntWalk.wrap64_in _ ⟨by omega, by omega⟩]
  rfl

set_option maxHeartbeats 400000 in
theorem prefer12 (r m q n : Int) (w : World) :
    Calls Try.prog 12 #[.int .i64 r, .agg #[.int .i64 m], .int .i64 q, .agg #[.int .i64 n]] w fun e w' => e = .returned (.bool (prefer r m q n)) ∧ Below w.heap.size w w' := by
  go_enter Try.func12, Try.ntmps12
  go_wp2_with fail
  refine wp_region_quiet_below (by kernel_rfl) (by kernel_rfl) ?_
  repeat (go_big_quiet_step (first | (go_at_call 18; exact Calls.regrown_of ((within18 _ _ _).mono fun e w' h => ⟨h.1, h.2 ▸ Below.refl _ _⟩)) | (go_at_call 17; exact Calls.regrown_of (mean17 _ _))))
  refine wpQuiet_nil ?_
  rintro _ ⟨p, rfl⟩
  go_wp2
  go_ret
  exact ⟨by rw [← prefer_wrap]; rfl, (((Below.refl _ _).alloc (Nat.le_refl _) _).alloc (by simp) _).trans ((below_regrown _ _ _).mono (by simp; omega))⟩

set_option maxHeartbeats 400000 in
theorem prefer13 (r m q n : Int) (w : World) :
    Calls Try.prog 13 #[.int .i64 r, .agg #[.int .i64 m], .int .i64 q, .agg #[.int .i64 n]] w fun e w' => e = .returned (.bool (prefer r m q n)) ∧ Below w.heap.size w w' := by
  go_enter Try.func13, Try.ntmps13
  go_wp2_with fail
  refine wp_region_quiet_below (by kernel_rfl) (by kernel_rfl) ?_
  repeat (go_big_quiet_step (first | (go_at_call 19; exact Calls.regrown_of ((within19 _ _ _).mono fun e w' h => ⟨h.1, h.2 ▸ Below.refl _ _⟩))))
  refine wpQuiet_nil ?_
  rintro _ ⟨p, rfl⟩
  go_wp2
  go_ret
  exact ⟨by rw [← prefer_wrap]; rfl, (((Below.refl _ _).alloc (Nat.le_refl _) _).alloc (by simp) _).trans ((below_regrown _ _ _).mono (by simp; omega))⟩

set_option maxHeartbeats 400000 in
theorem learn11 (m b : Int) (w : World) :
    Calls Try.prog 11 #[.agg #[.int .i64 m], .int .i64 b] w fun e w' => e = .returned (.agg #[.int .i64 (learn m b)]) ∧ Below w.heap.size w w' := by
  have h1 : 0 ≤ within m 67108864 := within_nonneg m 67108864
  have h2 : within m 67108864 ≤ 67108864 := within_le m 67108864 (by omega)
  have h3 := within_nonneg b 1048576
  have h4 := within_le b 1048576 (by omega)
  go_enter Try.func11, Try.ntmps11
  go_wp2_with (first | (go_at_call 19; refine (within19 _ _ _).mono ?_; rintro e w' ⟨rfl, rfl⟩))
  all_goals
    have hl : learn m b = within m 67108864 - within m 67108864 / 16 + 4 * within b 1048576 := by unfold learn mean; omega
    refine bodyPost_ret (v := .agg #[.int .i64 (learn m b)]) (by rw [hl]; simp [results, Try.results11, go_sem] <;> omega) rfl ⟨rfl, ?_⟩
    exact Below.alloc (Below.alloc (Below.refl _ _) (Nat.le_refl _) _) (by simp) _

end Go.Proofs.Ytkjadgjambphjaa
