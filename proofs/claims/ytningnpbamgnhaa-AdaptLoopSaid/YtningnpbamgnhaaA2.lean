/- Layer 30: Bytes, Need. -/
import Derived.Test.YtningnpbamgnhaaA1
namespace Go.Proofs.Ytningnpbamgnhaa
open Go.RowKit Go.Sort
attribute [local go_sem] gcell
set_option linter.unusedVariables false

theorem run_index34 (q n : Int) (w : World) (h0 : 0 ≤ n) (h1 : n ≤ 12) : (Instr.index 34 (.agg (szList q 13).toArray) (.int .i64 n)).run Try.prog w = .ok (.int .i64 (sz q n)) w := by
  have hc : n = 0 ∨ n = 1 ∨ n = 2 ∨ n = 3 ∨ n = 4 ∨ n = 5 ∨ n = 6 ∨ n = 7 ∨ n = 8 ∨ n = 9 ∨ n = 10 ∨ n = 11 ∨ n = 12 := by omega
  rcases hc with rfl | rfl | rfl | rfl | rfl | rfl | rfl | rfl | rfl | rfl | rfl | rfl | rfl
  all_goals rfl

theorem bytes_yes (q n : Int) (h : 0 ≤ q) (h2 : q ≤ 15) (h3 : 0 ≤ n) (h4 : n ≤ 12) : bytes q n = sz q n := by unfold bytes; rw [if_pos ⟨h, h2, h3, h4⟩]
theorem bytes_no (q n : Int) (h : q < 0 ∨ 15 < q ∨ n < 0 ∨ 12 < n) : bytes q n = 0 := by unfold bytes; rw [if_neg (by omega)]

set_option maxHeartbeats 1000000 in
theorem bytes7 (q n : Int) (w : World) : Calls Try.prog 7 #[.int .i64 q, .int .i64 n] w fun e w' => e = .returned (.int .i64 (bytes q n)) ∧ Below w.heap.size w w' := by
  have hc : q < 0 ∨ (¬ q < 0 ∧ 15 < q) ∨ (¬ q < 0 ∧ ¬ 15 < q ∧ n < 0) ∨ (¬ q < 0 ∧ ¬ 15 < q ∧ ¬ n < 0 ∧ 12 < n) ∨ (¬ q < 0 ∧ ¬ 15 < q ∧ ¬ n < 0 ∧ ¬ 12 < n) := by omega
  have hno : q < 0 ∨ 15 < q ∨ n < 0 ∨ 12 < n → Calls Try.prog 7 #[.int .i64 q, .int .i64 n] w fun e w' => e = .returned (.int .i64 0) ∧ Below w.heap.size w w' := by
    intro h0
    rcases hc with h | h | h | h | h
    · go_enter Try.func7, Try.ntmps7
      go_wp2
      go_ret
      exact ⟨rfl, Below.refl _ _⟩
    · go_enter Try.func7, Try.ntmps7
      go_wp2
      go_ret
      exact ⟨rfl, Below.refl _ _⟩
    · go_enter Try.func7, Try.ntmps7
      go_wp2
      go_ret
      exact ⟨rfl, Below.refl _ _⟩
    · go_enter Try.func7, Try.ntmps7
      go_wp2
      go_ret
      exact ⟨rfl, Below.refl _ _⟩
    · omega
  by_cases hy : q < 0 ∨ 15 < q ∨ n < 0 ∨ 12 < n
  · rw [bytes_no _ _ hy]; exact hno hy
  clear hno hc
  obtain ⟨h1, h2, h3, h4⟩ : ¬ q < 0 ∧ ¬ 15 < q ∧ ¬ n < 0 ∧ ¬ 12 < n := by omega
  clear hy
  rw [bytes_yes _ _ (by omega) (by omega) (by omega) (by omega)]
  have hi : ∀ w, (Instr.index 34 (.agg (szList q 13).toArray) (.int .i64 n)).run Try.prog w = .ok (.int .i64 (sz q n)) w := fun w => run_index34 q n w (by omega) (by omega)
  go_enter Try.func7, Try.ntmps7
  go_wp2_with (go_at_call 18; refine (sizes18 _ _ (by omega) (by omega)).mono ?_; rintro e w' ⟨rfl, hb⟩)
  go_ret
  exact ⟨rfl, hb⟩

set_option maxHeartbeats 1000000 in
theorem bytes11 (q n : Int) (w : World) : Calls Try.prog 11 #[.int .i64 q, .int .i64 n] w fun e w' => e = .returned (.int .i64 (bytes q n)) ∧ w' = w := by
  have hc : q < 0 ∨ (¬ q < 0 ∧ 15 < q) ∨ (¬ q < 0 ∧ ¬ 15 < q ∧ n < 0) ∨ (¬ q < 0 ∧ ¬ 15 < q ∧ ¬ n < 0 ∧ 12 < n) ∨ (¬ q < 0 ∧ ¬ 15 < q ∧ ¬ n < 0 ∧ ¬ 12 < n) := by omega
  have hno : q < 0 ∨ 15 < q ∨ n < 0 ∨ 12 < n → Calls Try.prog 11 #[.int .i64 q, .int .i64 n] w fun e w' => e = .returned (.int .i64 0) ∧ w' = w := by
    intro h0
    rcases hc with h | h | h | h | h
    · go_enter Try.func11, Try.ntmps11
      go_wp2
      go_ret
      exact ⟨rfl, rfl⟩
    · go_enter Try.func11, Try.ntmps11
      go_wp2
      go_ret
      exact ⟨rfl, rfl⟩
    · go_enter Try.func11, Try.ntmps11
      go_wp2
      go_ret
      exact ⟨rfl, rfl⟩
    · go_enter Try.func11, Try.ntmps11
      go_wp2
      go_ret
      exact ⟨rfl, rfl⟩
    · omega
  by_cases hy : q < 0 ∨ 15 < q ∨ n < 0 ∨ 12 < n
  · rw [bytes_no _ _ hy]; exact hno hy
  clear hno hc
  obtain ⟨h1, h2, h3, h4⟩ : ¬ q < 0 ∧ ¬ 15 < q ∧ ¬ n < 0 ∧ ¬ 12 < n := by omega
  clear hy
  rw [bytes_yes _ _ (by omega) (by omega) (by omega) (by omega)]
  obtain ⟨hp1, hp2⟩ := prod_bd q n (by omega) (by omega) (by omega) (by omega)
  go_enter Try.func11, Try.ntmps11
  go_wp2
  all_goals
    go_ret
    exact ⟨ret_int (by unfold sz; omega), rfl⟩

theorem need_no (q b : Int) (h : b ≤ 0) : need q b = 0 := by unfold need; rw [if_pos h]
theorem need_yes (q b : Int) (h : ¬ b ≤ 0) : need q b = needGo q b 13 0 := by unfold need; rw [if_neg h]

set_option maxHeartbeats 1000000 in
theorem need8 (q b : Int) (w : World) : Calls Try.prog 8 #[.int .i64 q, .int .i64 b] w fun e w' => e = .returned (.int .i64 (need q b)) ∧ Below w.heap.size w w' := by
  by_cases hb : b ≤ 0
  · rw [need_no _ _ hb]
    go_enter Try.func8, Try.ntmps8
    go_wp2
    go_ret
    exact ⟨rfl, Below.refl _ _⟩
  · rw [need_yes _ _ hb]
    go_enter Try.func8, Try.ntmps8
    go_wp2
    go_loopw [8] (fun i wr => ∃ k : Nat, k ≤ 13 ∧ i = .int .i64 k ∧ needGo q b 13 0 = needGo q b (13 - k) k ∧ Below w.heap.size w wr) (fun i _ => 13 - (intOf i).toNat)
    case atStart => exact ⟨0, Nat.zero_le _, rfl, rfl, Below.refl _ _⟩
    case round =>
      obtain ⟨k, hk, rfl, hg, hB⟩ := hrel
      by_cases hlt : k < 13
      · have hs : needGo q b (13 - k) k = if b ≤ bytes q k then (k : Int) else needGo q b (12 - k) (k + 1) := by
          rw [show 13 - k = (12 - k) + 1 by omega]; rfl
        rw [hs] at hg
        have HG := Lib.hid hg
        clear hg hs
        by_cases hy : b ≤ bytes q k
        all_goals
          go_wp2_with (go_at_call 7; refine (bytes7 _ _ _).mono ?_; rintro e w' ⟨rfl, hb1⟩)
          first
            | (go_ret; exact ⟨ret_int (by rw [HG.out, if_pos hy]), bthen hB hb1 hB.size⟩)
            | (go_roundw
               case rel => exact ⟨k + 1, by omega, by go_num, by rw [HG.out, if_neg (by omega)]; congr 1; omega, bthen hB hb1 hB.size⟩
               case measure => simp [intOf]; omega)
      · have : k = 13 := by omega
        subst this
        have HG := Lib.hid hg
        clear hg
        go_wp2
        go_ret
        exact ⟨ret_int (by rw [HG.out]; rfl), hB⟩

set_option maxHeartbeats 1000000 in
theorem need12 (q b : Int) (w : World) : Calls Try.prog 12 #[.int .i64 q, .int .i64 b] w fun e w' => e = .returned (.int .i64 (need q b)) ∧ w' = w := by
  by_cases hb : b ≤ 0
  · rw [need_no _ _ hb]
    go_enter Try.func12, Try.ntmps12
    go_wp2
    go_ret
    exact ⟨rfl, rfl⟩
  · rw [need_yes _ _ hb]
    have h0 : needGo q b 13 0 = needGo q b 12 1 := by
      show (if b ≤ bytes q 0 then ((0 : Nat) : Int) else needGo q b 12 1) = _
      rw [if_neg]
      have : bytes q 0 = 0 := by unfold bytes sz; simp; omega
      omega
    have H0 := Lib.hid h0
    clear h0
    go_enter Try.func12, Try.ntmps12
    go_wp2
    go_loop [5] (fun i => ∃ k : Nat, 1 ≤ k ∧ k ≤ 13 ∧ i = .int .i64 k ∧ needGo q b 13 0 = needGo q b (13 - k) k) (fun i => 13 - (intOf i).toNat)
    case atStart => exact ⟨1, Nat.le_refl _, by omega, rfl, H0.out⟩
    case round =>
      obtain ⟨k, hk1, hk, rfl, hg⟩ := hrel
      by_cases hlt : k < 13
      · have hs : needGo q b (13 - k) k = if b ≤ bytes q k then (k : Int) else needGo q b (12 - k) (k + 1) := by
          rw [show 13 - k = (12 - k) + 1 by omega]; rfl
        rw [hs] at hg
        have HG := Lib.hid hg
        clear hg hs
        by_cases hy : b ≤ bytes q k
        all_goals
          go_wp2_with (go_at_call 11; refine (bytes11 _ _ _).mono ?_; rintro e w' ⟨rfl, rfl⟩)
          first
            | (go_ret; exact ⟨ret_int (by rw [HG.out, if_pos hy]), rfl⟩)
            | (go_round
               case rel => exact ⟨k + 1, by omega, by omega, by go_num, by rw [HG.out, if_neg (by omega)]; congr 1; omega⟩
               case measure => simp [intOf]; omega)
      · have : k = 13 := by omega
        subst this
        have HG := Lib.hid hg
        clear hg
        go_wp2
        go_ret
        exact ⟨ret_int (by rw [HG.out]; rfl), rfl⟩
end Go.Proofs.Ytningnpbamgnhaa
