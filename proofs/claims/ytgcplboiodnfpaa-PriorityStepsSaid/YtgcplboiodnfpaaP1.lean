/- Layer 25: copies and comparisons. -/
import Derived.Test.YtgcplboiodnfpaaP0
import Derived.Test.YtgcplboiodnfpaaRowK
import Derived.Lib.SliceRun
namespace Go.Proofs.Ytgcplboiodnfpaa
set_option linter.unusedVariables false
set_option linter.unusedSimpArgs false
open Go.RowKit Go.Sort
attribute [local go_sem] gcell

theorem intInfo : (Try.prog.info? 3).map (fun i => (i.zero, i.size, i.bytes)) = some (some (.int .i64 0), 1, 8) := by kernel_rfl
def bz : Value := .agg #[.int .i64 0, .int .i64 0, .int .i64 0, .int .i64 0]
theorem bInfo : (Try.prog.info? 35).map (fun i => (i.zero, i.size, i.bytes)) = some (some bz, 4, 32) := by kernel_rfl
/-- Buckets cell by cell. -/
def bf (P R M T : Nat → Int) (j : Nat) : Value := .int .i64 (if j % 4 = 0 then P (j / 4) else if j % 4 = 1 then R (j / 4) else if j % 4 = 2 then M (j / 4) else T (j / 4))
theorem bf0 (P R M T : Nat → Int) (k : Nat) : bf P R M T (k * 4) = .int .i64 (P k) := by unfold bf; rw [if_pos (by omega), show k * 4 / 4 = k by omega]
theorem bf1 (P R M T : Nat → Int) (k : Nat) : bf P R M T (k * 4 + 1) = .int .i64 (R k) := by unfold bf; rw [if_neg (by omega), if_pos (by omega), show (k * 4 + 1) / 4 = k by omega]
theorem bf2 (P R M T : Nat → Int) (k : Nat) : bf P R M T (k * 4 + 2) = .int .i64 (M k) := by unfold bf; rw [if_neg (by omega), if_neg (by omega), if_pos (by omega), show (k * 4 + 2) / 4 = k by omega]
theorem bf3 (P R M T : Nat → Int) (k : Nat) : bf P R M T (k * 4 + 3) = .int .i64 (T k) := by unfold bf; rw [if_neg (by omega), if_neg (by omega), if_neg (by omega), show (k * 4 + 3) / 4 = k by omega]
theorem four (j : Nat) : j = j / 4 * 4 ∨ j = j / 4 * 4 + 1 ∨ j = j / 4 * 4 + 2 ∨ j = j / 4 * 4 + 3 := by omega
theorem bf_one (P R M T : Nat → Int) (j : Nat) : (bf P R M T j).oneCell' = true := rfl
theorem R4.rowK {w : World} {a : Option Addr} {n : Nat} {P R M T : Nat → Int} (H : R4 w a n P R M T) : RowK w a n 4 (bf P R M T) := by
  obtain ⟨b, m, h1, h2⟩ := H
  refine ⟨b, m, h1, fun j hj => ?_⟩
  obtain ⟨c0, c1, c2, c3⟩ := h2 (j / 4) (by omega)
  rcases four j with e | e | e | e
  · rw [e, bf0]; exact c0
  · rw [e, bf1]; exact c1
  · rw [e, bf2]; exact c2
  · rw [e, bf3]; exact c3
theorem R4.of_cells {w : World} {b n : Nat} {P R M T : Nat → Int} (h : ∀ j, j < n * 4 → w.cell? ⟨b, j, none⟩ = some (bf P R M T j)) {a : Option Addr} (ha : 0 < n → a = some ⟨b, 0, none⟩) : R4 w a n P R M T :=
  ⟨b, 0, ha, fun k hk => by
    simp only [Nat.zero_add]
    exact ⟨by rw [h _ (by omega), bf0], by rw [h _ (by omega), bf1], by rw [h _ (by omega), bf2], by rw [h _ (by omega), bf3]⟩⟩
theorem R4.congr {w : World} {a : Option Addr} {n : Nat} {P R M T T' : Nat → Int} (H : R4 w a n P R M T) (h : ∀ k, k < n → T' k = T k) : R4 w a n P R M T' := by
  obtain ⟨b, m, h1, h2⟩ := H
  exact ⟨b, m, h1, fun k hk => by rw [h k hk]; exact h2 k hk⟩
theorem R4.zero (w : World) (a : Option Addr) (P R M T : Nat → Int) : R4 w a 0 P R M T := ⟨0, 0, fun h => absurd h (Nat.lt_irrefl _), fun k hk => absurd hk (Nat.not_lt_zero _)⟩

/-- A copy of buckets, in a new block (or nil). -/
def Copy (n : Nat) (P R M T : Nat → Int) (w : World) (v : Value) (w' : World) : Prop :=
  ∃ a c b, v = .slice a n c ∧ n ≤ c ∧ (0 < n → a = some ⟨b, 0, none⟩ ∧ w.heap.size ≤ b ∧ VAt w' b (n * 4) (bf P R M T)) ∧ Below w.heap.size w w'
theorem copy_own {w w' : World} {v : Value} {n : Nat} {P R M T : Nat → Int} (h : w'.ownsRow w.heap.size 35 4 v n ((List.range (n * 4)).map (bf P R M T))) (hb : Below w.heap.size w w') : Copy n P R M T w v w' := by
  obtain ⟨a, c, b, h1, h2, h3, h4⟩ := own_cellsK h
  exact ⟨a, c, b, h1, h2, fun h0 => ⟨(h3 h0).1, (h3 h0).2.1, h4, (h3 h0).2.2.2, (h3 h0).2.2.1⟩, hb⟩
set_option maxHeartbeats 2000000 in
theorem clone25_some (w : World) (A : Addr) (n c : Nat) (P R M T : Nat → Int) (hn : n ≤ 1000) (H : R4 w (some A) n P R M T) : Calls Try.prog 25 #[.slice (some A) n c] w fun e w' => ∃ v, e = .returned v ∧ Copy n P R M T w v w' := by
  have HK := Lib.hid H.rowK
  clear H
  have q24 : ∀ (w : World) (a : Option Addr) (n c n' c' : Nat), (binOp .eql 25 (.slice a n c) (.slice none n' c')).run Try.prog w = .ok (.bool a.isNone) w := fun w a n c n' c' => Lib.run_eql_slice_nil w _ _ a n c n' c' Try.underlying25
  go_enter Try.func25, Try.ntmps25
  go_wp2_with (at_builtin; refine wpList_append_copy w rfl (.tmp 5) (.tmp 6) 25 rfl 35 bz 4 32 Try.underlying25 bInfo rfl (by decide) (by decide) n c A (bf P R M T) rfl rfl HK.out (bf_one P R M T) (by omega) ?_; intro v' w' hown hB hlt; have HC := Lib.hid (copy_own hown hB); clear hown hB)
  go_ret
  exact ⟨_, rfl, HC.out⟩
theorem clone25_none (w : World) (P R M T : Nat → Int) (c : Nat) : Calls Try.prog 25 #[.slice none 0 c] w fun e w' => ∃ v, e = .returned v ∧ Copy 0 P R M T w v w' := by
  have q24 : ∀ (w : World) (a : Option Addr) (n c n' c' : Nat), (binOp .eql 25 (.slice a n c) (.slice none n' c')).run Try.prog w = .ok (.bool a.isNone) w := fun w a n c n' c' => Lib.run_eql_slice_nil w _ _ a n c n' c' Try.underlying25
  go_enter Try.func25, Try.ntmps25
  go_wp2
  go_ret
  exact ⟨_, rfl, none, 0, 0, rfl, Nat.le_refl _, fun h => absurd h (Nat.lt_irrefl _), Below.refl _ _⟩
theorem clone25 (w : World) (a : Option Addr) (n c : Nat) (P R M T : Nat → Int) (hn : n ≤ 1000) (h0 : a = none → n = 0) (H : R4 w a n P R M T) : Calls Try.prog 25 #[.slice a n c] w fun e w' => ∃ v, e = .returned v ∧ Copy n P R M T w v w' := by
  cases a with
  | none => obtain rfl := h0 rfl; exact clone25_none w P R M T c
  | some A => exact clone25_some w A n c P R M T hn H

/-- Whether two rows are the same. -/
def same (n m : Nat) (xs ys : Nat → Int) : Bool := decide (n = m) && !anyB (fun k => decide (xs k ≠ ys k)) n
theorem same_true {n m : Nat} {xs ys : Nat → Int} (h : n = m) (h2 : ∀ k, k < n → xs k = ys k) : same n m xs ys = true := by
  unfold same
  rw [anyB_false.2 (fun k hk => by simp [h2 k hk])]
  simp [h]


theorem same29 (a d : Option Addr) (n c m l : Nat) (xs ys : Nat → Int) (w : World) (R : Row w a n xs) (S : Row w d m ys) (hn : n ≤ maxLen) (hm : m ≤ maxLen) :
    Calls Try.prog 29 #[.slice a n c, .slice d m l] w fun e w' => e = .returned (.bool (same n m xs ys)) ∧ Below w.heap.size w w' := by
  obtain ⟨b, o, ha, hx⟩ := R
  obtain ⟨b2, o2, hd, hy⟩ := S
  have HA := Lib.hid ha
  have HX := Lib.hid hx
  have HD := Lib.hid hd
  have HY := Lib.hid hy
  clear ha hx hd hy
  have hn2 := hn
  unfold maxLen at hn2
  have hm2 := hm
  unfold maxLen at hm2
  by_cases hnm : n = m
  · subst hnm
    go_enter Try.func29, Try.ntmps29
    go_wp2
    go_loopw [5] (fun i wr => ∃ k : Nat, k ≤ n ∧ i = .int .i64 k ∧ anyB (fun k => decide (xs k ≠ ys k)) k = false ∧ Below w.heap.size w wr) (fun i _ => n - (intOf i).toNat)
    case atStart => exact ⟨0, Nat.zero_le _, rfl, rfl, Below.refl _ _⟩
    case round =>
      obtain ⟨k, hk, rfl, hf, hB⟩ := hrel
      have HB := Lib.hid hB
      have HF := Lib.hid hf
      clear hf
      by_cases hlt : k < n
      · have hxk := HX.out k hlt
        have hxw := up hB hxk
        have hyk := HY.out k hlt
        have hyw := up hB hyk
        have hak := HA.out (by omega)
        have hdk := HD.out (by omega)
        subst hak hdk
        by_cases h1 : xs k = ys k
        · have hq : (xs k == ys k) = true := by simp [h1]
          have hq2 : (xs k != ys k) = false := by simp [h1]
          go_wp2_with fail
          go_quiet (fail)
          go_wp2
          go_roundw
          case rel => exact ⟨k + 1, by omega, by go_num, by unfold anyB; rw [HF.out]; simp [h1], ⟨HB.out.os, HB.out.tape, HB.out.output, HB.out.size, HB.out.block⟩⟩
          case measure => simp [intOf]; omega
        · have hq : (xs k == ys k) = false := by simp [h1]
          have hq2 : (xs k != ys k) = true := by simp [h1]
          go_wp2_with fail
          go_quiet (fail)
          go_wp2
          go_ret
          refine ⟨ret_bool ?_, ⟨HB.out.os, HB.out.tape, HB.out.output, HB.out.size, HB.out.block⟩⟩
          unfold same
          rw [anyB_true hlt (by simp [h1])]
          simp
      · have : k = n := by omega
        subst this
        go_wp2
        go_ret
        refine ⟨ret_bool ?_, HB.out⟩
        unfold same
        rw [HF.out]
        simp
  · have h1 : ((n : Int) == (m : Int)) = false := beq_eq_false_iff_ne.2 (by omega)
    have h2 : ((n : Int) != (m : Int)) = true := by rw [bne_iff_ne]; omega
    go_enter Try.func29, Try.ntmps29
    go_wp2
    go_ret
    refine ⟨ret_bool ?_, Below.refl _ _⟩
    unfold same
    simp [hnm]


/-- Waiting bytes are in their range. -/
def badW (W : Nat → Int) (k : Nat) : Bool := !btw (W k) 0 1048576
theorem share24 (x : Int) (w : World) : Calls Try.prog 24 #[.int .i64 x] w fun e w' => e = .returned (.bool (!btw x 0 1048576)) ∧ w' = w := by
  go_enter Try.func24, Try.ntmps24
  go_wp2_with (go_at_call 22; refine (between22 _ _ _ _).mono ?_; rintro e wz ⟨rfl, rfl⟩)
  go_ret
  exact ⟨rfl, rfl⟩
theorem index34 (a : Option Addr) (n c : Nat) (W : Nat → Int) (w : World) (H : Row w a n W) (hn : n ≤ maxLen) :
    Calls Try.prog 34 #[.slice a n c, .func (.func 24) #[] #[]] w fun e w' => ∃ i : Int, e = .returned (.int .i64 i) ∧ decide (0 ≤ i) = anyB (badW W) n ∧ w' = w := by
  have HH := Lib.hid H
  clear H
  unfold maxLen at hn
  go_enter Try.func34, Try.ntmps34
  go_wp2
  go_loopw [8] (fun i wr => ∃ k : Nat, k ≤ n ∧ i = .int .i64 k ∧ w = wr ∧ anyB (badW W) k = false) (fun i _ => n - (intOf i).toNat)
  case atStart => exact ⟨0, Nat.zero_le _, rfl, rfl, rfl⟩
  case round =>
    obtain ⟨k, hk, rfl, rfl, hf⟩ := hrel
    have HF := Lib.hid hf
    clear hf
    by_cases hlt : k < n
    · obtain ⟨b, m, h1, h2⟩ := HH.out
      obtain rfl := h1 (by omega)
      have c0 := h2 k hlt
      have i1 : (0 : Int) ≤ (k : Int) := by omega
      have i2 : (k : Int) < (n : Int) := by omega
      have K := Lib.hid (share24 (W k))
      clear h1 h2
      cases hv : btw (W k) 0 1048576
      · rw [hv] at K
        have HQ := Lib.hid (anyB_true (p := badW W) hlt (by unfold badW; rw [hv]; rfl))
        clear hv
        go_wp2_with (go_at_call 24; refine (K.out _).mono ?_; rintro e wz ⟨rfl, rfl⟩)
        go_ret
        exact ⟨k, rfl, by rw [HQ.out]; simp, rfl⟩
      · rw [hv] at K
        have HQ := Lib.hid (show anyB (badW W) (k + 1) = false by unfold anyB; rw [HF.out]; unfold badW; rw [hv]; rfl)
        clear hv
        go_wp2_with (go_at_call 24; refine (K.out _).mono ?_; rintro e wz ⟨rfl, rfl⟩)
        go_roundw
        case rel => exact ⟨k + 1, by omega, by go_num, trivial, HQ.out⟩
        case measure => simp [intOf]; omega
    · obtain rfl : k = n := by omega
      go_wp2
      go_ret
      exact ⟨-1, rfl, by rw [HF.out]; rfl, rfl⟩
theorem contains23 (a : Option Addr) (n c : Nat) (W : Nat → Int) (w : World) (H : Row w a n W) (hn : n ≤ maxLen) :
    Calls Try.prog 23 #[.slice a n c, .func (.func 24) #[] #[]] w fun e w' => e = .returned (.bool (anyB (badW W) n)) ∧ w' = w := by
  go_enter Try.func23, Try.ntmps23
  go_wp2_with (go_at_call 34; refine (index34 a n c W _ H hn).mono ?_)
  rintro e w1 ⟨i, rfl, hi, rfl⟩
  have HI := Lib.hid hi
  clear hi
  go_wp2
  go_ret
  exact ⟨ret_bool (by rw [← HI.out]), rfl⟩

/-- Whether two lists of buckets are the same. -/
theorem same28 (a d : Option Addr) (n c m l : Nat) (P R M T T' : Nat → Int) (w : World) (H : R4 w a n P R M T) (S : R4 w d n P R M T) (hn : n ≤ maxLen) :
    Calls Try.prog 28 #[.slice a n c, .slice d n l] w fun e w' => e = .returned (.bool true) ∧ Below w.heap.size w w' := by
  have HA := Lib.hid H
  have HD := Lib.hid S
  clear H S
  unfold maxLen at hn
  go_enter Try.func28, Try.ntmps28
  go_wp2
  go_loopw [5] (fun i wr => ∃ k : Nat, k ≤ n ∧ i = .int .i64 k ∧ Below w.heap.size w wr) (fun i _ => n - (intOf i).toNat)
  case atStart => exact ⟨0, Nat.zero_le _, rfl, Below.refl _ _⟩
  case round =>
    obtain ⟨k, hk, rfl, hB⟩ := hrel
    have HB := Lib.hid hB
    clear hB
    by_cases hlt : k < n
    · obtain ⟨b, m, h1, h2⟩ := HA.out.mono HB.out
      obtain ⟨b', m', h1', h2'⟩ := HD.out.mono HB.out
      obtain rfl := h1 (by omega)
      obtain rfl := h1' (by omega)
      obtain ⟨c0, c1, c2, c3⟩ := h2 k hlt
      obtain ⟨d0, d1, d2, d3⟩ := h2' k hlt
      have i1 : (0 : Int) ≤ (k : Int) := by omega
      have i2 : (k : Int) < (n : Int) := by omega
      clear h1 h2 h1' h2'
      go_wp2_with fail
      go_quiet (fail)
      go_wp2
      go_roundw
      case rel => exact ⟨k + 1, by omega, by go_num, bthen HB.out (below_drewN (Below.refl _ _) _) HB.out.size⟩
      case measure => simp [intOf]; omega
    · obtain rfl : k = n := by omega
      go_wp2
      go_ret
      exact ⟨rfl, HB.out⟩
end Go.Proofs.Ytgcplboiodnfpaa
