/- Layer 35: looked, the three ways of listening. -/
import Derived.Test.YtjbokpejfifamaaS1
namespace Go.Proofs.Ytjbokpejfifamaa
open Go.RowKit Go.Sort
attribute [local go_sem] gcell
set_option linter.unusedVariables false

set_option maxHeartbeats 2000000 in
theorem looked19 (c o n l s h last tick most : Int) (w : World) : Calls Try.prog 19 #[rv c o n l s h, .int .i64 last, .int .i64 tick, .int .i64 most] w fun e w' => e = .returned (.bool (lookB ⟨c, o, n, l, s, h⟩ last tick most)) ∧ Below w.heap.size w w' := by
  have HC := Lib.hid (fun w => check24 c o n l s h w)
  cases hok : okR ⟨c, o, n, l, s, h⟩
  · have hk := check_bad hok
    rw [hk] at HC
    have hl : lookB ⟨c, o, n, l, s, h⟩ last tick most = false := by unfold lookB; rw [hok]; rfl
    rw [hl]
    clear hok hk hl
    go_enter Try.func19, Try.ntmps19
    go_wp2_with (go_at_call 24; refine (HC.out _).mono ?_; rintro e w' ⟨rfl, hb⟩)
    go_ret
    exact ⟨rfl, bthen ((Below.refl _ _).alloc (Nat.le_refl _) _) hb (by simp)⟩
  · have hk := check_ok hok
    rw [hk] at HC
    have hl : lookB ⟨c, o, n, l, s, h⟩ last tick most = decide (0 ≤ tick ∧ tick ≤ most ∧ -1 ≤ last ∧ last ≤ tick) := by unfold lookB; rw [hok]; rfl
    rw [hl]
    clear hok hk hl
    go_enter Try.func19, Try.ntmps19
    go_wp2_with (go_at_call 24; refine (HC.out _).mono ?_; rintro e w' ⟨rfl, hb⟩)
    all_goals
      go_ret
      exact ⟨ret_bool (by rw [Bool.eq_iff_iff]; simp; try omega), bthen ((Below.refl _ _).alloc (Nat.le_refl _) _) hb (by simp)⟩

set_option maxHeartbeats 2000000 in
theorem looks29 (c o n l s h last tick : Int) (w : World) : Calls Try.prog 29 #[rv c o n l s h, .int .i64 last, .int .i64 tick] w fun e w' => e = .returned (.bool (lookB ⟨c, o, n, l, s, h⟩ last tick 1048576)) ∧ Below w.heap.size w w' := by
  have HC := Lib.hid (fun w => check25 c o n l s h w)
  cases hok : okR ⟨c, o, n, l, s, h⟩
  · have hk := check_bad hok
    rw [hk] at HC
    have hl : lookB ⟨c, o, n, l, s, h⟩ last tick 1048576 = false := by unfold lookB; rw [hok]; rfl
    rw [hl]
    clear hok hk hl
    go_enter Try.func29, Try.ntmps29
    go_wp2_with (go_at_call 25; refine (HC.out _).mono ?_; rintro e w' ⟨rfl, hb⟩)
    go_ret
    exact ⟨rfl, bthen ((Below.refl _ _).alloc (Nat.le_refl _) _) hb (by simp)⟩
  · have hk := check_ok hok
    rw [hk] at HC
    have hl : lookB ⟨c, o, n, l, s, h⟩ last tick 1048576 = decide (0 ≤ tick ∧ tick ≤ 1048576 ∧ -1 ≤ last ∧ last ≤ tick) := by unfold lookB; rw [hok]; rfl
    rw [hl]
    clear hok hk hl
    go_enter Try.func29, Try.ntmps29
    go_wp2_with (go_at_call 25; refine (HC.out _).mono ?_; rintro e w' ⟨rfl, hb⟩)
    all_goals
      go_ret
      exact ⟨ret_bool (by rw [Bool.eq_iff_iff]; simp; try omega), bthen ((Below.refl _ _).alloc (Nat.le_refl _) _) hb (by simp)⟩

/-- A moment as a value: a rhythm, the last reception, the tick. -/
abbrev mv (c o n l s h last tick : Int) : Value := .agg #[.int .i64 c, .int .i64 o, .int .i64 n, .int .i64 l, .int .i64 s, .int .i64 h, .int .i64 last, .int .i64 tick]

theorem look_bounds {c o n l s h last tick : Int} (hl : lookB ⟨c, o, n, l, s, h⟩ last tick 1048576 = true) : (1 ≤ c ∧ c ≤ 256) ∧ (0 ≤ o ∧ o < c) ∧ (1 ≤ n ∧ n ≤ c) ∧ (0 ≤ l ∧ l ≤ 256) ∧ (s = 0 ∨ (n ≤ s ∧ s ≤ c)) ∧ (0 ≤ h ∧ h ≤ 16) ∧ (0 ≤ tick ∧ tick ≤ 1048576) ∧ (-1 ≤ last ∧ last ≤ tick) := by
  obtain ⟨h0, h1, h2, h3, h4⟩ := (lookB_iff _ _ _ _).1 hl
  have := (okR_iff _).1 h0
  dsimp only at this
  omega

set_option maxHeartbeats 2000000 in
theorem cycle20 (c o n l s h last tick : Int) (hl : lookB ⟨c, o, n, l, s, h⟩ last tick 1048576 = true) (w : World) : Calls Try.prog 20 #[mv c o n l s h last tick] w fun e w' => e = .returned (.bool (cyc ⟨c, o, n, l, s, h⟩ tick)) ∧ Below w.heap.size w w' := by
  obtain ⟨b1, b2, b3, b4, b5, b6, b7, b8⟩ := look_bounds hl
  have hcz : (c == 0) = false := beq_eq_false_iff_ne.2 (by omega)
  have hm : 0 ≤ tick + c - o := by omega
  clear hl b5
  go_enter Try.func20, Try.ntmps20
  go_wp2_with fail
  refine wp_region_quiet_below (by kernel_rfl) (by kernel_rfl) ?_
  repeat (go_big_quiet_step (fail))
  refine wpQuiet_nil ?_
  rintro _ ⟨p, rfl⟩
  go_wp2
  go_ret
  exact ⟨rfl, ((Below.refl _ _).alloc (Nat.le_refl _) _).trans ((below_regrown _ _ _).mono (by simp))⟩

set_option maxHeartbeats 2000000 in
theorem linger21 (c o n l s h last tick : Int) (hl : lookB ⟨c, o, n, l, s, h⟩ last tick 1048576 = true) (w : World) : Calls Try.prog 21 #[mv c o n l s h last tick] w fun e w' => e = .returned (.bool (ling ⟨c, o, n, l, s, h⟩ last tick)) ∧ Below w.heap.size w w' := by
  obtain ⟨b1, b2, b3, b4, b5, b6, b7, b8⟩ := look_bounds hl
  clear hl b5
  go_enter Try.func21, Try.ntmps21
  go_wp2
  all_goals
    go_ret
    exact ⟨ret_bool (by unfold ling; rw [Bool.eq_iff_iff]; simp; try omega), (Below.refl _ _).alloc (Nat.le_refl _) _⟩

theorem shrt_no {r : Rh} {last t : Int} (h : last < 0 ∨ r.s ≤ 0 ∨ t - last - r.l - 1 < 0 ∨ r.h ≤ (t - last - r.l - 1) / r.s) : shrt r last t = false := by
  unfold shrt; rw [decide_eq_false_iff_not]; omega
theorem shrt_yes {r : Rh} {last t : Int} (h1 : 0 ≤ last) (h2 : 0 < r.s) (h3 : 0 ≤ t - last - r.l - 1) (h4 : (t - last - r.l - 1) / r.s < r.h) : shrt r last t = decide ((t - last - r.l - 1) % r.s < r.n) := by
  unfold shrt; rw [Bool.eq_iff_iff]; simp [h1, h2, h4]; intros; omega

set_option maxHeartbeats 4000000 in
theorem short22 (c o n l s h last tick : Int) (hl : lookB ⟨c, o, n, l, s, h⟩ last tick 1048576 = true) (w : World) : Calls Try.prog 22 #[mv c o n l s h last tick] w fun e w' => e = .returned (.bool (shrt ⟨c, o, n, l, s, h⟩ last tick)) ∧ Below w.heap.size w w' := by
  obtain ⟨b1, b2, b3, b4, b5, b6, b7, b8⟩ := look_bounds hl
  have s0 : 0 ≤ s ∧ s ≤ 256 := by omega
  clear hl b5
  by_cases h1 : 0 ≤ last
  case neg =>
    rw [shrt_no (.inl (by omega))]
    have d1 : decide (0 ≤ last) = false := by simp; omega
    go_enter Try.func22, Try.ntmps22
    go_wp2_with fail
    refine wp_region_quiet_below (by kernel_rfl) (by kernel_rfl) ?_
    repeat (go_big_quiet_step (fail))
    refine wpQuiet_nil ?_
    rintro _ ⟨p, rfl⟩
    go_wp2
    go_ret
    exact ⟨rfl, ((Below.refl _ _).alloc (Nat.le_refl _) _).trans ((below_regrown _ _ _).mono (by simp))⟩
  have d1 : decide (0 ≤ last) = true := by simp; omega
  by_cases h2 : 0 < s
  case neg =>
    rw [shrt_no (.inr (.inl (by dsimp only; omega)))]
    have d2 : decide (0 < s) = false := by simp; omega
    go_enter Try.func22, Try.ntmps22
    go_wp2_with fail
    refine wp_region_quiet_below (by kernel_rfl) (by kernel_rfl) ?_
    repeat (go_big_quiet_step (fail))
    refine wpQuiet_nil ?_
    rintro _ ⟨p, rfl⟩
    go_wp2
    go_ret
    exact ⟨rfl, ((Below.refl _ _).alloc (Nat.le_refl _) _).trans ((below_regrown _ _ _).mono (by simp))⟩
  have d2 : decide (0 < s) = true := by simp; omega
  by_cases h3 : 0 ≤ tick - last - l - 1
  case neg =>
    rw [shrt_no (.inr (.inr (.inl (by dsimp only; omega))))]
    have d3 : decide (0 ≤ tick - last - l - 1) = false := by simp; omega
    have d3' : decide (1 ≤ tick - last - l) = false := by simp; omega
    go_enter Try.func22, Try.ntmps22
    go_wp2_with fail
    refine wp_region_quiet_below (by kernel_rfl) (by kernel_rfl) ?_
    repeat (go_big_quiet_step (fail))
    refine wpQuiet_nil ?_
    rintro _ ⟨p, rfl⟩
    go_wp2
    go_ret
    exact ⟨rfl, ((Below.refl _ _).alloc (Nat.le_refl _) _).trans ((below_regrown _ _ _).mono (by simp))⟩
  have d3 : decide (0 ≤ tick - last - l - 1) = true := by simp; omega
  have d3' : decide (1 ≤ tick - last - l) = true := by simp; omega
  have sz : (s == 0) = false := beq_eq_false_iff_ne.2 (by omega)
  by_cases h4 : (tick - last - l - 1) / s < h
  case neg =>
    rw [shrt_no (.inr (.inr (.inr (by dsimp only; omega))))]
    have d4 : decide ((tick - last - l - 1) / s < h) = false := by simp; omega
    go_enter Try.func22, Try.ntmps22
    go_wp2_with fail
    refine wp_region_quiet_below (by kernel_rfl) (by kernel_rfl) ?_
    repeat (go_big_quiet_step (fail))
    refine wpQuiet_nil ?_
    rintro _ ⟨p, rfl⟩
    go_wp2
    go_ret
    exact ⟨rfl, ((Below.refl _ _).alloc (Nat.le_refl _) _).trans ((below_regrown _ _ _).mono (by simp))⟩
  have d4 : decide ((tick - last - l - 1) / s < h) = true := by simpa using h4
  rw [shrt_yes h1 h2 h3 h4]
  case pos =>
    go_enter Try.func22, Try.ntmps22
    go_wp2_with fail
    refine wp_region_quiet_below (by kernel_rfl) (by kernel_rfl) ?_
    repeat (go_big_quiet_step (fail))
    refine wpQuiet_nil ?_
    rintro _ ⟨p, rfl⟩
    go_wp2
    go_ret
    exact ⟨rfl, ((Below.refl _ _).alloc (Nat.le_refl _) _).trans ((below_regrown _ _ _).mono (by simp))⟩
end Go.Proofs.Ytjbokpejfifamaa
