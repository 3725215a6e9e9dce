/- Layer 30: Effective, Learn, the sanity check. -/
import Derived.Test.YtningnpbamgnhaaA2
namespace Go.Proofs.Ytningnpbamgnhaa
open Go.RowKit Go.Sort
attribute [local go_sem] gcell
set_option linter.unusedVariables false

theorem eff_no (o q : Int) (h : q < 1 ∨ 15 < q) : effective o q = 0 := by unfold effective; rw [if_pos h]
theorem eff_yes (o q : Int) (h : ¬ q < 1) (h2 : ¬ 15 < q) : effective o q = min (max (q + clampO o / 16) 1) 15 := by unfold effective; rw [if_neg (by omega)]

set_option maxHeartbeats 1000000 in
theorem effective14 (o u d q : Int) (w : World) : Calls Try.prog 14 #[.agg #[.int .i64 o, .int .i64 u, .int .i64 d], .int .i64 q] w fun e w' => e = .returned (.int .i64 (effective o q)) ∧ Below w.heap.size w w' := by
  have hc : q < 1 ∨ (¬ q < 1 ∧ 15 < q) ∨ (¬ q < 1 ∧ ¬ 15 < q) := by omega
  have hb := clamp_bd o
  rcases hc with h | ⟨h, h2⟩ | ⟨h, h2⟩
  · rw [eff_no _ _ (.inl h)]
    go_enter Try.func14, Try.ntmps14
    go_wp2
    go_ret
    exact ⟨rfl, (Below.refl _ _).alloc (Nat.le_refl _) _⟩
  · rw [eff_no _ _ (.inr h2)]
    go_enter Try.func14, Try.ntmps14
    go_wp2
    go_ret
    exact ⟨rfl, (Below.refl _ _).alloc (Nat.le_refl _) _⟩
  · rw [eff_yes _ _ h h2]
    go_enter Try.func14, Try.ntmps14
    go_wp2_with (first | (go_at_call 20; refine (clamp20 _ _).mono ?_; rintro e w' ⟨rfl, rfl⟩) | (go_at_call 19; refine (floor19 _ _).mono ?_; rintro e w' ⟨rfl, rfl⟩))
    all_goals
      go_ret
      exact ⟨ret_int (by omega), (Below.refl _ _).alloc (Nat.le_refl _) _⟩

set_option maxHeartbeats 1000000 in
theorem effective15 (o u d q : Int) (w : World) : Calls Try.prog 15 #[.agg #[.int .i64 o, .int .i64 u, .int .i64 d], .int .i64 q] w fun e w' => e = .returned (.int .i64 (effective o q)) ∧ Below w.heap.size w w' := by
  have hc : q < 1 ∨ (¬ q < 1 ∧ 15 < q) ∨ (¬ q < 1 ∧ ¬ 15 < q) := by omega
  have hb := clamp_bd o
  rcases hc with h | ⟨h, h2⟩ | ⟨h, h2⟩
  · rw [eff_no _ _ (.inl h)]
    go_enter Try.func15, Try.ntmps15
    go_wp2
    go_ret
    exact ⟨rfl, (Below.refl _ _).alloc (Nat.le_refl _) _⟩
  · rw [eff_no _ _ (.inr h2)]
    go_enter Try.func15, Try.ntmps15
    go_wp2
    go_ret
    exact ⟨rfl, (Below.refl _ _).alloc (Nat.le_refl _) _⟩
  · rw [eff_yes _ _ h h2]
    go_enter Try.func15, Try.ntmps15
    go_wp2_with (first | (go_at_call 22; refine (limit22 _ _).mono ?_; rintro e w' ⟨rfl, rfl⟩) | (go_at_call 21; refine (floor21 _ _ (by omega) (by omega)).mono ?_; rintro e w' ⟨rfl, rfl⟩))
    all_goals
      go_ret
      exact ⟨ret_int (by omega), (Below.refl _ _).alloc (Nat.le_refl _) _⟩

theorem step_bd (n : Int) : 0 ≤ stepO n ∧ stepO n ≤ 256 := by unfold stepO; split <;> omega

set_option maxHeartbeats 1000000 in
theorem learn16 (o u d : Int) (right : Bool) (w : World) : Calls Try.prog 16 #[.agg #[.int .i64 o, .int .i64 u, .int .i64 d], .bool right] w fun e w' => e = .returned (.agg #[.int .i64 (learnO o u d right), .int .i64 u, .int .i64 d]) ∧ Below w.heap.size w w' := by
  have h1 := clamp_bd o
  have h2 := step_bd u
  have h3 := step_bd d
  cases right
  all_goals
    go_enter Try.func16, Try.ntmps16
    go_wp2_with fail
    refine wp_region_grown_tail 9 (by kernel_rfl) (by kernel_rfl) ?_
    simp only [List.take_succ_cons, List.take_zero, List.drop_succ_cons, List.drop_zero]
    repeat (go_big_quiet_step (first | (go_at_call 20; exact regrown_same (clamp20 _ _)) | (go_at_call 23; exact regrown_same (step23 _ _))))
    refine wpQuiet_nil ?_
    intro w2 hw2
    have hb2 := below_of_regrown hw2
    have hB := bthen (((((Below.refl w.heap.size w).alloc (Nat.le_refl _) (.cells #[.int .i64 o, .int .i64 u, .int .i64 d] 28)).alloc (by simp) (.cells #[.int .i64 0, .int .i64 0, .int .i64 0] 28))).alloc (by simp; omega) (.cells #[.int .i64 o, .int .i64 u, .int .i64 d] 28)) hb2 (by simp; omega)
    have HB := Lib.hid hB
    obtain ⟨hc, hf⟩ := bcell hb2
    clear hB hw2 hb2
    have c0 : w2.cell? ⟨w.heap.size + 2, 0, none⟩ = some (.int .i64 o) := by rw [hc _ _ (by simp)]; simp [go_sem]
    have c1 : w2.cell? ⟨w.heap.size + 2, 1, none⟩ = some (.int .i64 u) := by rw [hc _ _ (by simp)]; simp [go_sem]
    have c2 : w2.cell? ⟨w.heap.size + 2, 2, none⟩ = some (.int .i64 d) := by rw [hc _ _ (by simp)]; simp [go_sem]
    have f0 : w2.frozen? ⟨w.heap.size + 2, 0, none⟩ = false := by rw [hf _ _ (by simp)]; simp [go_sem]
    have r0 : w2.cell? ⟨w.heap.size + 1, 0, none⟩ = some (.int .i64 0) := by rw [hc _ _ (by simp)]; simp [go_sem]
    have r1 : w2.cell? ⟨w.heap.size + 1, 1, none⟩ = some (.int .i64 0) := by rw [hc _ _ (by simp)]; simp [go_sem]
    have r2 : w2.cell? ⟨w.heap.size + 1, 2, none⟩ = some (.int .i64 0) := by rw [hc _ _ (by simp)]; simp [go_sem]
    have g0 : w2.frozen? ⟨w.heap.size + 1, 0, none⟩ = false := by rw [hf _ _ (by simp)]; simp [go_sem]
    have g1 : w2.frozen? ⟨w.heap.size + 1, 1, none⟩ = false := by rw [hf _ _ (by simp)]; simp [go_sem]
    have g2 : w2.frozen? ⟨w.heap.size + 1, 2, none⟩ = false := by rw [hf _ _ (by simp)]; simp [go_sem]
    clear hc hf
    go_wp2
    refine bodyPost_ret (v := .agg #[.int .i64 (learnO o u d _), .int .i64 u, .int .i64 d]) (by simp [results, Try.results16, go_sem, learnO, cell_set, r0, r1, r2]) rfl ⟨rfl, ?_⟩
    exact (((HB.out.setCell (by simp; omega) _).setCell (by simp) _).setCell (by simp) _).setCell (by simp) _

set_option maxHeartbeats 1000000 in
theorem learn17 (o u d : Int) (right : Bool) (w : World) : Calls Try.prog 17 #[.agg #[.int .i64 o, .int .i64 u, .int .i64 d], .bool right] w fun e w' => e = .returned (.agg #[.int .i64 (learnO o u d right), .int .i64 u, .int .i64 d]) ∧ Below w.heap.size w w' := by
  have h1 := clamp_bd o
  have hs : ∀ n, n < 0 ∨ 256 < n → stepO n = 0 := fun n h => by unfold stepO; rw [if_pos h]
  have ht : ∀ n, 0 ≤ n → n ≤ 256 → stepO n = n := fun n h h2 => by unfold stepO; rw [if_neg (by omega)]
  cases right
  · have hl : learnO o u d false = clampO (clampO o - stepO d) := rfl
    rw [hl]
    have hc : d < 0 ∨ (¬ d < 0 ∧ 256 < d) ∨ (¬ d < 0 ∧ ¬ 256 < d) := by omega
    rcases hc with h | ⟨h, h2⟩ | ⟨h, h2⟩
    all_goals
      first | rw [hs d (by omega)] | rw [ht d (by omega) (by omega)]
      clear hs ht hl
      go_enter Try.func17, Try.ntmps17
      go_wp2_with (go_at_call 22; refine (limit22 _ _).mono ?_; rintro e w' ⟨rfl, rfl⟩)
      first
        | exact bodyPost_ret (v := .agg #[.int .i64 (clampO (clampO o - 0)), .int .i64 u, .int .i64 d]) (by simp [results, Try.results17, go_sem]) rfl ⟨rfl, by (repeat (first | exact Below.refl _ _ | refine Below.alloc ?_ (by simp) _)); done⟩
        | exact bodyPost_ret (v := .agg #[.int .i64 (clampO (clampO o - d)), .int .i64 u, .int .i64 d]) (by simp [results, Try.results17, go_sem] <;> rfl) rfl ⟨rfl, by (repeat (first | exact Below.refl _ _ | refine Below.alloc ?_ (by simp) _)); done⟩
  · have hl : learnO o u d true = clampO (clampO o + stepO u) := rfl
    rw [hl]
    have hc : u < 0 ∨ (¬ u < 0 ∧ 256 < u) ∨ (¬ u < 0 ∧ ¬ 256 < u) := by omega
    rcases hc with h | ⟨h, h2⟩ | ⟨h, h2⟩
    all_goals
      first | rw [hs u (by omega)] | rw [ht u (by omega) (by omega)]
      clear hs ht hl
      go_enter Try.func17, Try.ntmps17
      go_wp2_with (go_at_call 22; refine (limit22 _ _).mono ?_; rintro e w' ⟨rfl, rfl⟩)
      first
        | exact bodyPost_ret (v := .agg #[.int .i64 (clampO (clampO o + 0)), .int .i64 u, .int .i64 d]) (by simp [results, Try.results17, go_sem]) rfl ⟨rfl, by (repeat (first | exact Below.refl _ _ | refine Below.alloc ?_ (by simp) _)); done⟩
        | exact bodyPost_ret (v := .agg #[.int .i64 (clampO (clampO o + u)), .int .i64 u, .int .i64 d]) (by simp [results, Try.results17, go_sem] <;> rfl) rfl ⟨rfl, by (repeat (first | exact Below.refl _ _ | refine Below.alloc ?_ (by simp) _)); done⟩

theorem aw1 : bytes 15 2 = 9 := by decide
theorem aw2 : need 15 9 = 2 := by decide
theorem aw3 : qual 10 10 = 8 := by decide
set_option maxHeartbeats 1000000 in
theorem awake10 (w : World) : Calls Try.prog 10 #[] w fun e w' => e = .returned (.bool true) ∧ Below w.heap.size w w' := by
  go_enter Try.func10, Try.ntmps10
  go_wp2_with fail
  refine (bytes7 15 2 _).mono ?_
  rw [aw1]
  rintro e w1 ⟨rfl, hb1⟩
  go_wp2_with fail
  refine (need8 15 9 _).mono ?_
  rw [aw2]
  rintro e w2 ⟨rfl, hb2⟩
  go_wp2_with fail
  refine (quality9 10 10 _).mono ?_
  rw [aw3]
  rintro e w3 ⟨rfl, rfl⟩
  go_wp2
  go_ret
  exact ⟨rfl, bthen' hb1 hb2⟩
end Go.Proofs.Ytningnpbamgnhaa
