/- Layer 34: the bytes of blocks. -/
import Derived.Test.YtdcogbokcbpnnaaRows
import Derived.Test.YtdcogbokcbpnnaaKit
namespace Go.Proofs.Ytdcogbokcbpnnaa
set_option linter.unusedVariables false
set_option linter.unusedSimpArgs false
open Go.RowKit Go.Sort
attribute [local go_sem] gcell
def sz (q n : Int) : Int := min (max (96 * n * q / 32 - 18) 0 / 8) 256
def bytes (q n : Int) : Int := if 0 ≤ q ∧ q ≤ 15 ∧ 0 ≤ n ∧ n ≤ 12 then sz q n else 0
theorem prod_bd (q n : Int) (h : 0 ≤ q) (h2 : q ≤ 15) (h3 : 0 ≤ n) (h4 : n ≤ 12) : 0 ≤ 96 * n * q ∧ 96 * n * q ≤ 17280 := by
  have h5 : 0 ≤ 96 * n * q := Int.mul_nonneg (by omega) h
  have h6 : 96 * n * q ≤ 1152 * 15 := Int.mul_le_mul (by omega) h2 h (by omega)
  omega
theorem sz_bd (q n : Int) : 0 ≤ sz q n ∧ sz q n ≤ 256 := by unfold sz; omega
theorem bytes_bd (q n : Int) : 0 ≤ bytes q n ∧ bytes q n ≤ 256 := by unfold bytes; split; exact sz_bd q n; omega
/-! ### The sizes of blocks -/
def szList (q : Int) (k : Nat) : List Value := (List.range 13).map fun (j : Nat) => .int .i64 (if j < k then sz q j else 0)
theorem szList_len (q : Int) (k : Nat) : (szList q k).length = 13 := by simp [szList]
theorem szList_get (q : Int) (k j : Nat) (h : j < 13) : (szList q k)[j]? = some (.int .i64 (if j < k then sz q j else 0)) := by simp [szList, h]

/-- The array that is being filled. -/
structure FillZ (w wr : World) (b r : Nat) (q : Int) (k : Nat) : Prop where
  c : ∀ j, j < 13 → wr.cell? ⟨b, j, none⟩ = some (.int .i64 (if j < k then sz q j else 0))
  f : ∀ o, wr.frozen? ⟨b, o, none⟩ = false
  rc : ∀ j, j < 13 → (wr.cell? ⟨r, j, none⟩).isSome = true
  rf : ∀ o, wr.frozen? ⟨r, o, none⟩ = false
  bb : Below w.heap.size w wr
  bl : w.heap.size ≤ b
  ne : r ≠ b
theorem FillZ.next {w wr : World} {b r : Nat} {q : Int} {k : Nat} (F : FillZ w wr b r q k) (v : Int) (hv : v = sz q k) : FillZ w (wr.setCell ⟨b, k, none⟩ (.int .i64 v)) b r q (k + 1) := by
  subst hv
  refine ⟨fun j hj => ?_, fun o => by rw [World.frozen?_setCell]; exact F.f o, fun j hj => ?_, fun o => by rw [World.frozen?_setCell]; exact F.rf o, F.bb.setCell F.bl _, F.bl, F.ne⟩
  · rw [cell_set, F.c j hj]
    by_cases h : k = j
    · subst h; simp
    · rw [if_neg (by simp [h])]
      have e : (j < k) = (j < k + 1) := propext (by omega)
      simp only [e]
  · rw [cell_set, if_neg (by simp [Ne.symm F.ne])]; exact F.rc j hj
theorem FillZ.range {w wr : World} {b r : Nat} {q : Int} {k : Nat} (F : FillZ w wr b r q k) : wr.rangeAt b 0 (szList q k) := fun j v hv => by
  have hj : j < 13 := by have := (List.getElem?_eq_some_iff.1 hv).1; rwa [szList_len] at this
  rw [szList_get q k j hj] at hv
  rw [Nat.zero_add, F.c j hj, hv]

theorem below_setCells {B b : Nat} (hb : B ≤ b) : ∀ (vs : List Value) (o : Nat) (w w' : World), Below B w w' → Below B w (w'.setCells b o vs)
  | [], _, _, _, h => by simpa [World.setCells] using h
  | v :: vs, o, w, w', h => by
    unfold World.setCells
    exact below_setCells hb vs _ w _ (h.setCell (p := ⟨b, o, none⟩) hb v)
theorem info74 : (Try.prog.info? 74).map (·.size) = some 13 := by kernel_rfl

set_option maxHeartbeats 1000000 in
theorem sizes58 (q : Int) (w : World) (h0 : 0 ≤ q) (h1 : q ≤ 15) : Calls Try.prog 58 #[.int .i64 q] w fun e w' => e = .returned (.agg (szList q 13).toArray) ∧ Below w.heap.size w w' := by
  go_enter Try.func58, Try.ntmps58
  go_wp2
  have hF : FillZ w ((w.alloc (.cells #[.int .i64 0, .int .i64 0, .int .i64 0, .int .i64 0, .int .i64 0, .int .i64 0, .int .i64 0, .int .i64 0, .int .i64 0, .int .i64 0, .int .i64 0, .int .i64 0, .int .i64 0] 74)).alloc (.cells #[.int .i64 0, .int .i64 0, .int .i64 0, .int .i64 0, .int .i64 0, .int .i64 0, .int .i64 0, .int .i64 0, .int .i64 0, .int .i64 0, .int .i64 0, .int .i64 0, .int .i64 0] 74)) (w.heap.size + 1) w.heap.size q 0 := by
    refine ⟨fun j hj => ?_, fun o => by simp [go_sem], fun j hj => ?_, fun o => by simp [go_sem], ((Below.refl _ _).alloc (Nat.le_refl _) _).alloc (by simp) _, by omega, by omega⟩
    all_goals
      have hc : j = 0 ∨ j = 1 ∨ j = 2 ∨ j = 3 ∨ j = 4 ∨ j = 5 ∨ j = 6 ∨ j = 7 ∨ j = 8 ∨ j = 9 ∨ j = 10 ∨ j = 11 ∨ j = 12 := by omega
      rcases hc with rfl | rfl | rfl | rfl | rfl | rfl | rfl | rfl | rfl | rfl | rfl | rfl | rfl <;> simp [go_sem]
  have HF := Lib.hid hF
  clear hF
  go_loopw [5] (fun i wr => ∃ k : Nat, k ≤ 13 ∧ i = .int .i64 k ∧ FillZ w wr (w.heap.size + 1) w.heap.size q k) (fun i _ => 13 - (intOf i).toNat)
  case atStart => exact ⟨0, Nat.zero_le _, rfl, HF.out⟩
  case round =>
    obtain ⟨k, hk, rfl, hF⟩ := hrel
    clear HF
    have HF := Lib.hid hF
    clear hF
    by_cases hlt : k < 13
    · have hp := prod_bd q k h0 h1 (by omega) (by omega)
      obtain ⟨hp1, hp2⟩ := hp
      have c1 := HF.out.c k hlt
      have f1 := HF.out.f k
      go_wp2
      all_goals
        go_roundw
        case rel => exact ⟨k + 1, by omega, by go_num, HF.out.next _ (by unfold sz; omega)⟩
        case measure => simp [intOf]; omega
    · have : k = 13 := by omega
      subst this
      have HR := Lib.hid HF.out.range
      have ht : wr.there w.heap.size 0 (szList q 13).toArray.size := fun j hj => by
        rw [Nat.zero_add]
        exact ⟨HF.out.rc j (by simpa [szList_len] using hj), HF.out.rf j⟩
      have HT := Lib.hid ht
      have hi : (Try.prog.info? 74).map (·.size) = some (szList q 13).toArray.size := by rw [List.size_toArray, szList_len]; exact info74
      have HI := Lib.hid hi
      have h1 : (szList q 13).toArray.all (·.oneCell') = true := all_oneCell_toArray fun v hv => by
        simp only [szList, List.mem_map] at hv
        obtain ⟨j, _, rfl⟩ := hv
        rfl
      have H1 := Lib.hid h1
      have HB := Lib.hid HF.out.bb
      clear ht hi h1
      go_wp2_with (first
        | (refine wpList_load_mid rfl 74 (.tmp 3) rfl (w.heap.size + 1) 0 rfl (szList q 13) _ HR.out Try.underlying74 rfl (by rw [szList_len]; exact info74) ?_)
        | (refine wpList_store_mid rfl 74 (.tmp 2) (.tmp 20) rfl w.heap.size 0 (szList q 13).toArray rfl rfl HT.out HI.out H1.out ?_))
      refine bodyPost_ret (v := .agg (szList q 13).toArray) ?_ rfl ⟨rfl, ?_⟩
      · refine results_range Try.results58 _ _ w.heap.size (szList q 13) _ rfl ?_ Try.underlying74 rfl (by rw [szList_len]; exact info74)
        have := World.rangeAt_setCells_same wr w.heap.size 0 (szList q 13) (by simpa using HT.out)
        simpa using this
      · exact below_setCells (Nat.le_refl _) _ _ _ _ HB.out
theorem run_index74 (q n : Int) (w : World) (h0 : 0 ≤ n) (h1 : n ≤ 12) : (Instr.index 74 (.agg (szList q 13).toArray) (.int .i64 n)).run Try.prog w = .ok (.int .i64 (sz q n)) w := by
  have hc : n = 0 ∨ n = 1 ∨ n = 2 ∨ n = 3 ∨ n = 4 ∨ n = 5 ∨ n = 6 ∨ n = 7 ∨ n = 8 ∨ n = 9 ∨ n = 10 ∨ n = 11 ∨ n = 12 := by omega
  rcases hc with rfl | rfl | rfl | rfl | rfl | rfl | rfl | rfl | rfl | rfl | rfl | rfl | rfl
  all_goals rfl

theorem bytes_yes (q n : Int) (h : 0 ≤ q) (h2 : q ≤ 15) (h3 : 0 ≤ n) (h4 : n ≤ 12) : bytes q n = sz q n := by unfold bytes; rw [if_pos ⟨h, h2, h3, h4⟩]
theorem bytes_no (q n : Int) (h : q < 0 ∨ 15 < q ∨ n < 0 ∨ 12 < n) : bytes q n = 0 := by unfold bytes; rw [if_neg (by omega)]

set_option maxHeartbeats 1000000 in
theorem bytes53 (q n : Int) (w : World) : Calls Try.prog 53 #[.int .i64 q, .int .i64 n] w fun e w' => e = .returned (.int .i64 (bytes q n)) ∧ Below w.heap.size w w' := by
  have hc : q < 0 ∨ (¬ q < 0 ∧ 15 < q) ∨ (¬ q < 0 ∧ ¬ 15 < q ∧ n < 0) ∨ (¬ q < 0 ∧ ¬ 15 < q ∧ ¬ n < 0 ∧ 12 < n) ∨ (¬ q < 0 ∧ ¬ 15 < q ∧ ¬ n < 0 ∧ ¬ 12 < n) := by omega
  have hno : q < 0 ∨ 15 < q ∨ n < 0 ∨ 12 < n → Calls Try.prog 53 #[.int .i64 q, .int .i64 n] w fun e w' => e = .returned (.int .i64 0) ∧ Below w.heap.size w w' := by
    intro h0
    rcases hc with h | h | h | h | h
    · go_enter Try.func53, Try.ntmps53
      go_wp2
      go_ret
      exact ⟨rfl, Below.refl _ _⟩
    · go_enter Try.func53, Try.ntmps53
      go_wp2
      go_ret
      exact ⟨rfl, Below.refl _ _⟩
    · go_enter Try.func53, Try.ntmps53
      go_wp2
      go_ret
      exact ⟨rfl, Below.refl _ _⟩
    · go_enter Try.func53, Try.ntmps53
      go_wp2
      go_ret
      exact ⟨rfl, Below.refl _ _⟩
    · omega
  by_cases hy : q < 0 ∨ 15 < q ∨ n < 0 ∨ 12 < n
  · rw [bytes_no _ _ hy]; exact hno hy
  clear hno hc
  obtain ⟨h1, h2, h3, h4⟩ : ¬ q < 0 ∧ ¬ 15 < q ∧ ¬ n < 0 ∧ ¬ 12 < n := by omega
  clear hy
  rw [bytes_yes _ _ (by omega) (by omega) (by omega) (by omega)]
  have hi : ∀ w, (Instr.index 74 (.agg (szList q 13).toArray) (.int .i64 n)).run Try.prog w = .ok (.int .i64 (sz q n)) w := fun w => run_index74 q n w (by omega) (by omega)
  go_enter Try.func53, Try.ntmps53
  go_wp2_with (go_at_call 58; refine (sizes58 _ _ (by omega) (by omega)).mono ?_; rintro e w' ⟨rfl, hb⟩)
  go_ret
  exact ⟨rfl, hb⟩

set_option maxHeartbeats 1000000 in
theorem bytes19 (q n : Int) (w : World) : Calls Try.prog 19 #[.int .i64 q, .int .i64 n] w fun e w' => e = .returned (.int .i64 (bytes q n)) ∧ w' = w := by
  have hc : q < 0 ∨ (¬ q < 0 ∧ 15 < q) ∨ (¬ q < 0 ∧ ¬ 15 < q ∧ n < 0) ∨ (¬ q < 0 ∧ ¬ 15 < q ∧ ¬ n < 0 ∧ 12 < n) ∨ (¬ q < 0 ∧ ¬ 15 < q ∧ ¬ n < 0 ∧ ¬ 12 < n) := by omega
  have hno : q < 0 ∨ 15 < q ∨ n < 0 ∨ 12 < n → Calls Try.prog 19 #[.int .i64 q, .int .i64 n] w fun e w' => e = .returned (.int .i64 0) ∧ w' = w := by
    intro h0
    rcases hc with h | h | h | h | h
    · go_enter Try.func19, Try.ntmps19
      go_wp2
      go_ret
      exact ⟨rfl, rfl⟩
    · go_enter Try.func19, Try.ntmps19
      go_wp2
      go_ret
      exact ⟨rfl, rfl⟩
    · go_enter Try.func19, Try.ntmps19
      go_wp2
      go_ret
      exact ⟨rfl, rfl⟩
    · go_enter Try.func19, Try.ntmps19
      go_wp2
      go_ret
      exact ⟨rfl, rfl⟩
    · omega
  by_cases hy : q < 0 ∨ 15 < q ∨ n < 0 ∨ 12 < n
  · rw [bytes_no _ _ hy]; exact hno hy
  clear hno hc
  obtain ⟨h1, h2, h3, h4⟩ : ¬ q < 0 ∧ ¬ 15 < q ∧ ¬ n < 0 ∧ ¬ 12 < n := by omega
  clear hy
  rw [bytes_yes _ _ (by omega) (by omega) (by omega) (by omega)]
  obtain ⟨hp1, hp2⟩ := prod_bd q n (by omega) (by omega) (by omega) (by omega)
  go_enter Try.func19, Try.ntmps19
  go_wp2
  all_goals
    go_ret
    exact ⟨ret_int (by unfold sz; omega), rfl⟩

end Go.Proofs.Ytdcogbokcbpnnaa
