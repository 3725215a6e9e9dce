/- Layer 30: contracts of the small functions. -/
import Derived.Test.YtningnpbamgnhaaRows
import Derived.Test.YtningnpbamgnhaaKit
import Derived.Test.YtningnpbamgnhaaA0
namespace Go.Proofs.Ytningnpbamgnhaa
open Go.RowKit Go.Sort
attribute [local go_sem] gcell
set_option linter.unusedVariables false

set_option maxHeartbeats 400000 in
theorem clamp20 (n : Int) (w : World) : Calls Try.prog 20 #[.int .i64 n] w fun e w' => e = .returned (.int .i64 (clampO n)) ∧ w' = w := by
  go_enter Try.func20, Try.ntmps20
  go_wp2
  all_goals
    go_ret
    exact ⟨ret_int (by unfold clampO; omega), rfl⟩
set_option maxHeartbeats 400000 in
theorem limit22 (n : Int) (w : World) : Calls Try.prog 22 #[.int .i64 n] w fun e w' => e = .returned (.int .i64 (clampO n)) ∧ w' = w := by
  go_enter Try.func22, Try.ntmps22
  go_wp2
  all_goals
    go_ret
    exact ⟨ret_int (by unfold clampO; omega), rfl⟩
set_option maxHeartbeats 400000 in
theorem step23 (n : Int) (w : World) : Calls Try.prog 23 #[.int .i64 n] w fun e w' => e = .returned (.int .i64 (stepO n)) ∧ w' = w := by
  have hc : n < 0 ∨ (¬ n < 0 ∧ 256 < n) ∨ (¬ n < 0 ∧ ¬ 256 < n) := by omega
  rcases hc with h | ⟨h, h2⟩ | ⟨h, h2⟩
  all_goals
    go_enter Try.func23, Try.ntmps23
    go_wp2
    go_ret
    exact ⟨ret_int (by unfold stepO; first | rw [if_pos (by omega)] | rw [if_neg (by omega)]), rfl⟩
set_option maxHeartbeats 400000 in
theorem floor19 (n : Int) (w : World) : Calls Try.prog 19 #[.int .i64 n] w fun e w' => e = .returned (.int .i64 (n / 16)) ∧ w' = w := by
  go_enter Try.func19, Try.ntmps19
  go_wp2
  go_ret
  exact ⟨rfl, rfl⟩
set_option maxHeartbeats 400000 in
theorem floor21 (n : Int) (w : World) (h1 : -256 ≤ n) (h2 : n ≤ 256) : Calls Try.prog 21 #[.int .i64 n] w fun e w' => e = .returned (.int .i64 (n / 16)) ∧ w' = w := by
  by_cases h : n < 0
  · go_enter Try.func21, Try.ntmps21
    go_wp2
    go_ret
    exact ⟨ret_int (by omega), rfl⟩
  · go_enter Try.func21, Try.ntmps21
    go_wp2
    go_ret
    exact ⟨ret_int (by omega), rfl⟩

theorem qual_yes (g n : Int) (h : ¬ g ≤ 0) (h2 : ¬ n < 0) : qual g n = min (16 * min g 1048576 / (min g 1048576 + min n 1048576)) 15 := by unfold qual; rw [if_neg (by omega)]
theorem qual_no (g n : Int) (h : g ≤ 0 ∨ n < 0) : qual g n = 0 := by unfold qual; rw [if_pos h]
set_option maxHeartbeats 400000 in
theorem quality9 (g n : Int) (w : World) : Calls Try.prog 9 #[.int .i64 g, .int .i64 n] w fun e w' => e = .returned (.int .i64 (qual g n)) ∧ w' = w := by
  have hc : g ≤ 0 ∨ (¬ g ≤ 0 ∧ n < 0) ∨ (¬ g ≤ 0 ∧ ¬ n < 0) := by omega
  rcases hc with h | ⟨h, h2⟩ | ⟨h, h2⟩
  · rw [qual_no _ _ (.inl h)]
    go_enter Try.func9, Try.ntmps9
    go_wp2
    go_ret
    exact ⟨rfl, rfl⟩
  · rw [qual_no _ _ (.inr h2)]
    go_enter Try.func9, Try.ntmps9
    go_wp2
    go_ret
    exact ⟨rfl, rfl⟩
  · have hg : (g ≤ 1048576 ∧ min g 1048576 = g) ∨ (1048576 < g ∧ min g 1048576 = 1048576) := by omega
    have hn : (n ≤ 1048576 ∧ min n 1048576 = n) ∨ (1048576 < n ∧ min n 1048576 = 1048576) := by omega
    rcases hg with ⟨g1, g2⟩ | ⟨g1, g2⟩ <;> rcases hn with ⟨n1, n2⟩ | ⟨n1, n2⟩
    all_goals
      rw [qual_yes _ _ h h2, g2, n2]
      clear g2 n2
      go_enter Try.func9, Try.ntmps9
      go_wp2
      all_goals
        go_ret
        exact ⟨ret_int (by omega), rfl⟩
set_option maxHeartbeats 400000 in
theorem quality13 (g n : Int) (w : World) : Calls Try.prog 13 #[.int .i64 g, .int .i64 n] w fun e w' => e = .returned (.int .i64 (qual g n)) ∧ w' = w := by
  have hc : g ≤ 0 ∨ (¬ g ≤ 0 ∧ n < 0) ∨ (¬ g ≤ 0 ∧ ¬ n < 0) := by omega
  rcases hc with h | ⟨h, h2⟩ | ⟨h, h2⟩
  · rw [qual_no _ _ (.inl h)]
    go_enter Try.func13, Try.ntmps13
    go_wp2
    go_ret
    exact ⟨rfl, rfl⟩
  · rw [qual_no _ _ (.inr h2)]
    go_enter Try.func13, Try.ntmps13
    go_wp2
    go_ret
    exact ⟨rfl, rfl⟩
  · have hg : (g ≤ 1048576 ∧ min g 1048576 = g) ∨ (1048576 < g ∧ min g 1048576 = 1048576) := by omega
    have hn : (n ≤ 1048576 ∧ min n 1048576 = n) ∨ (1048576 < n ∧ min n 1048576 = 1048576) := by omega
    rcases hg with ⟨g1, g2⟩ | ⟨g1, g2⟩ <;> rcases hn with ⟨n1, n2⟩ | ⟨n1, n2⟩
    all_goals
      rw [qual_yes _ _ h h2, g2, n2]
      clear g2 n2
      go_enter Try.func13, Try.ntmps13
      go_wp2
      all_goals
        go_ret
        exact ⟨ret_int (by omega), rfl⟩

/-! ### The sizes of blocks -/
def szList (q : Int) (k : Nat) : List Value := (List.range 13).map fun (j : Nat) => .int .i64 (if j < k then sz q j else 0)
theorem szList_len (q : Int) (k : Nat) : (szList q k).length = 13 := by simp [szList]
theorem szList_get (q : Int) (k j : Nat) (h : j < 13) : (szList q k)[j]? = some (.int .i64 (if j < k then sz q j else 0)) := by simp [szList, h]

/-- The array that is being filled. -/
structure Fill (w wr : World) (b r : Nat) (q : Int) (k : Nat) : Prop where
  c : ∀ j, j < 13 → wr.cell? ⟨b, j, none⟩ = some (.int .i64 (if j < k then sz q j else 0))
  f : ∀ o, wr.frozen? ⟨b, o, none⟩ = false
  rc : ∀ j, j < 13 → (wr.cell? ⟨r, j, none⟩).isSome = true
  rf : ∀ o, wr.frozen? ⟨r, o, none⟩ = false
  bb : Below w.heap.size w wr
  bl : w.heap.size ≤ b
  ne : r ≠ b
theorem Fill.next {w wr : World} {b r : Nat} {q : Int} {k : Nat} (F : Fill w wr b r q k) (v : Int) (hv : v = sz q k) : Fill w (wr.setCell ⟨b, k, none⟩ (.int .i64 v)) b r q (k + 1) := by
  subst hv
  refine ⟨fun j hj => ?_, fun o => by rw [World.frozen?_setCell]; exact F.f o, fun j hj => ?_, fun o => by rw [World.frozen?_setCell]; exact F.rf o, F.bb.setCell F.bl _, F.bl, F.ne⟩
  · rw [cell_set, F.c j hj]
    by_cases h : k = j
    · subst h; simp
    · rw [if_neg (by simp [h])]
      have e : (j < k) = (j < k + 1) := propext (by omega)
      simp only [e]
  · rw [cell_set, if_neg (by simp [Ne.symm F.ne])]; exact F.rc j hj
theorem Fill.range {w wr : World} {b r : Nat} {q : Int} {k : Nat} (F : Fill w wr b r q k) : wr.rangeAt b 0 (szList q k) := fun j v hv => by
  have hj : j < 13 := by have := (List.getElem?_eq_some_iff.1 hv).1; rwa [szList_len] at this
  rw [szList_get q k j hj] at hv
  rw [Nat.zero_add, F.c j hj, hv]

theorem below_setCells {B b : Nat} (hb : B ≤ b) : ∀ (vs : List Value) (o : Nat) (w w' : World), Below B w w' → Below B w (w'.setCells b o vs)
  | [], _, _, _, h => by simpa [World.setCells] using h
  | v :: vs, o, w, w', h => by
    unfold World.setCells
    exact below_setCells hb vs _ w _ (h.setCell (p := ⟨b, o, none⟩) hb v)
theorem info34 : (Try.prog.info? 34).map (·.size) = some 13 := by kernel_rfl

set_option maxHeartbeats 1000000 in
theorem sizes18 (q : Int) (w : World) (h0 : 0 ≤ q) (h1 : q ≤ 15) : Calls Try.prog 18 #[.int .i64 q] w fun e w' => e = .returned (.agg (szList q 13).toArray) ∧ Below w.heap.size w w' := by
  go_enter Try.func18, Try.ntmps18
  go_wp2
  have hF : Fill w ((w.alloc (.cells #[.int .i64 0, .int .i64 0, .int .i64 0, .int .i64 0, .int .i64 0, .int .i64 0, .int .i64 0, .int .i64 0, .int .i64 0, .int .i64 0, .int .i64 0, .int .i64 0, .int .i64 0] 34)).alloc (.cells #[.int .i64 0, .int .i64 0, .int .i64 0, .int .i64 0, .int .i64 0, .int .i64 0, .int .i64 0, .int .i64 0, .int .i64 0, .int .i64 0, .int .i64 0, .int .i64 0, .int .i64 0] 34)) (w.heap.size + 1) w.heap.size q 0 := by
    refine ⟨fun j hj => ?_, fun o => by simp [go_sem], fun j hj => ?_, fun o => by simp [go_sem], ((Below.refl _ _).alloc (Nat.le_refl _) _).alloc (by simp) _, by omega, by omega⟩
    all_goals
      have hc : j = 0 ∨ j = 1 ∨ j = 2 ∨ j = 3 ∨ j = 4 ∨ j = 5 ∨ j = 6 ∨ j = 7 ∨ j = 8 ∨ j = 9 ∨ j = 10 ∨ j = 11 ∨ j = 12 := by omega
      rcases hc with rfl | rfl | rfl | rfl | rfl | rfl | rfl | rfl | rfl | rfl | rfl | rfl | rfl <;> simp [go_sem]
  have HF := Lib.hid hF
  clear hF
  go_loopw [5] (fun i wr => ∃ k : Nat, k ≤ 13 ∧ i = .int .i64 k ∧ Fill w wr (w.heap.size + 1) w.heap.size q k) (fun i _ => 13 - (intOf i).toNat)
  case atStart => exact ⟨0, Nat.zero_le _, rfl, HF.out⟩
  case round =>
    obtain ⟨k, hk, rfl, hF⟩ := hrel
    clear HF
    have HF := Lib.hid hF
    clear hF
    by_cases hlt : k < 13
    · have hp := prod_bd q k h0 h1 (by omega) (by omega)
      obtain ⟨hp1, hp2⟩ := hp
      have c1 := HF.out.c k hlt
      have f1 := HF.out.f k
      go_wp2
      all_goals
        go_roundw
        case rel => exact ⟨k + 1, by omega, by go_num, HF.out.next _ (by unfold sz; omega)⟩
        case measure => simp [intOf]; omega
    · have : k = 13 := by omega
      subst this
      have HR := Lib.hid HF.out.range
      have ht : wr.there w.heap.size 0 (szList q 13).toArray.size := fun j hj => by
        rw [Nat.zero_add]
        exact ⟨HF.out.rc j (by simpa [szList_len] using hj), HF.out.rf j⟩
      have HT := Lib.hid ht
      have hi : (Try.prog.info? 34).map (·.size) = some (szList q 13).toArray.size := by rw [List.size_toArray, szList_len]; exact info34
      have HI := Lib.hid hi
      have h1 : (szList q 13).toArray.all (·.oneCell') = true := all_oneCell_toArray fun v hv => by
        simp only [szList, List.mem_map] at hv
        obtain ⟨j, _, rfl⟩ := hv
        rfl
      have H1 := Lib.hid h1
      have HB := Lib.hid HF.out.bb
      clear ht hi h1
      go_wp2_with (first
        | (refine wpList_load_mid rfl 34 (.tmp 3) rfl (w.heap.size + 1) 0 rfl (szList q 13) _ HR.out Try.underlying34 rfl (by rw [szList_len]; exact info34) ?_)
        | (refine wpList_store_mid rfl 34 (.tmp 2) (.tmp 20) rfl w.heap.size 0 (szList q 13).toArray rfl rfl HT.out HI.out H1.out ?_))
      refine bodyPost_ret (v := .agg (szList q 13).toArray) ?_ rfl ⟨rfl, ?_⟩
      · refine results_range Try.results18 _ _ w.heap.size (szList q 13) _ rfl ?_ Try.underlying34 rfl (by rw [szList_len]; exact info34)
        have := World.rangeAt_setCells_same wr w.heap.size 0 (szList q 13) (by simpa using HT.out)
        simpa using this
      · exact below_setCells (Nat.le_refl _) _ _ _ _ HB.out
end Go.Proofs.Ytningnpbamgnhaa
