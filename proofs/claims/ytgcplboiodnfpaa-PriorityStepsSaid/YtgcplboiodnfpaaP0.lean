/- Layer 25: the small functions. -/
import Derived.Test.YtgcplboiodnfpaaRows
import Derived.Test.YtgcplboiodnfpaaRow
import Derived.Test.YtgcplboiodnfpaaAny
import Derived.Test.YtgcplboiodnfpaaOrd
namespace Go.Proofs.Ytgcplboiodnfpaa
set_option linter.unusedVariables false
set_option linter.unusedSimpArgs false
open Go.RowKit Go.Sort
attribute [local go_sem] gcell

/-- A number is from low to high. -/
def btw (n lo hi : Int) : Bool := decide (lo ≤ n ∧ n ≤ hi)
theorem btw_true {n lo hi : Int} : btw n lo hi = true ↔ lo ≤ n ∧ n ≤ hi := decide_eq_true_iff
theorem btw_false {n lo hi : Int} : btw n lo hi = false ↔ ¬ (lo ≤ n ∧ n ≤ hi) := decide_eq_false_iff_not
theorem between22 (n lo hi : Int) (w : World) : Calls Try.prog 22 #[.int .i64 n, .int .i64 lo, .int .i64 hi] w fun e w' => e = .returned (.bool (btw n lo hi)) ∧ w' = w := by
  by_cases h0 : lo ≤ n
  · by_cases h1 : n ≤ hi
    · have hv : btw n lo hi = true := btw_true.2 ⟨h0, h1⟩
      rw [hv]
      go_enter Try.func22, Try.ntmps22
      go_wp2
      go_ret
      exact ⟨rfl, rfl⟩
    · have hv : btw n lo hi = false := btw_false.2 (by omega)
      rw [hv]
      go_enter Try.func22, Try.ntmps22
      go_wp2
      go_ret
      exact ⟨ret_bool (by simp; try omega), rfl⟩
  · have hv : btw n lo hi = false := btw_false.2 (by omega)
    rw [hv]
    go_enter Try.func22, Try.ntmps22
    go_wp2
    go_ret
    exact ⟨ret_bool (by simp; try omega), rfl⟩

/-- A bucket is valid. -/
def vb (P R M T : Int) : Bool := btw P 0 15 && btw R 0 1048576 && btw M 0 1048576 && btw T (-1048576) M
theorem vb_true {P R M T : Int} (h : vb P R M T = true) : (0 ≤ P ∧ P ≤ 15) ∧ (0 ≤ R ∧ R ≤ 1048576) ∧ (0 ≤ M ∧ M ≤ 1048576) ∧ (-1048576 ≤ T ∧ T ≤ M) := by
  unfold vb at h
  simp only [Bool.and_eq_true, btw_true] at h
  omega
def bv (P R M T : Int) : Value := .agg #[.int .i64 P, .int .i64 R, .int .i64 M, .int .i64 T]
set_option maxHeartbeats 1000000 in
theorem valid33 (P R M T : Int) (w : World) : Calls Try.prog 33 #[bv P R M T] w fun e w' => e = .returned (.bool (!vb P R M T)) ∧ Below w.heap.size w w' := by
  have HB := Lib.hid ((Below.refl w.heap.size w).alloc (Nat.le_refl _) (.cells #[.int .i64 P, .int .i64 R, .int .i64 M, .int .i64 T] 35))
  have q : (!vb P R M T) = (!btw P 0 15 || !btw R 0 1048576 || !btw M 0 1048576 || !btw T (-1048576) M) := by
    unfold vb
    cases btw P 0 15 <;> cases btw R 0 1048576 <;> cases btw M 0 1048576 <;> cases btw T (-1048576) M <;> rfl
  rw [q]
  clear q
  have K := between22
  have HK := Lib.hid K
  clear K
  unfold bv
  cases h0 : btw P 0 15
  · go_enter Try.func33, Try.ntmps33
    go_wp2_with (go_at_call 22; refine (HK.out _ _ _ _).mono ?_; rw [h0]; rintro e wz ⟨rfl, rfl⟩)
    go_ret
    exact ⟨rfl, HB.out⟩
  · cases h1 : btw R 0 1048576
    · go_enter Try.func33, Try.ntmps33
      go_wp2_with (go_at_call 22; refine (HK.out _ _ _ _).mono ?_; (first | rw [h0] | rw [h1]); rintro e wz ⟨rfl, rfl⟩)
      go_ret
      exact ⟨rfl, HB.out⟩
    · cases h2 : btw M 0 1048576
      · go_enter Try.func33, Try.ntmps33
        go_wp2_with (go_at_call 22; refine (HK.out _ _ _ _).mono ?_; (first | rw [h0] | rw [h1] | rw [h2]); rintro e wz ⟨rfl, rfl⟩)
        go_ret
        exact ⟨rfl, HB.out⟩
      · cases h3 : btw T (-1048576) M
        all_goals
          go_enter Try.func33, Try.ntmps33
          go_wp2_with (go_at_call 22; refine (HK.out _ _ _ _).mono ?_; (first | rw [h0] | rw [h1] | rw [h2] | rw [h3]); rintro e wz ⟨rfl, rfl⟩)
          go_ret
          exact ⟨rfl, HB.out⟩

/-- Buckets as they lie in memory. -/
def R4 (w : World) (a : Option Addr) (n : Nat) (P R M T : Nat → Int) : Prop := ∃ b m, (0 < n → a = some ⟨b, m, none⟩) ∧ ∀ k, k < n → w.cell? ⟨b, m + k * 4, none⟩ = some (.int .i64 (P k)) ∧ w.cell? ⟨b, m + k * 4 + 1, none⟩ = some (.int .i64 (R k)) ∧ w.cell? ⟨b, m + k * 4 + 2, none⟩ = some (.int .i64 (M k)) ∧ w.cell? ⟨b, m + k * 4 + 3, none⟩ = some (.int .i64 (T k))
theorem R4.mono {u w : World} {a : Option Addr} {n : Nat} {P R M T : Nat → Int} (H : R4 u a n P R M T) (hb : Below u.heap.size u w) : R4 w a n P R M T := by
  obtain ⟨b, m, h1, h2⟩ := H
  exact ⟨b, m, h1, fun k hk => ⟨up hb (h2 k hk).1, up hb (h2 k hk).2.1, up hb (h2 k hk).2.2.1, up hb (h2 k hk).2.2.2⟩⟩

section
variable (a : Option Addr) (n c : Nat) (P R M T : Nat → Int)
def badB (k : Nat) : Bool := !vb (P k) (R k) (M k) (T k)
/-- The first bucket that is bad, or -1. -/
theorem index36 (w : World) (H : R4 w a n P R M T) (hn : n ≤ maxLen) :
    Calls Try.prog 36 #[.slice a n c, .func (.func 33) #[] #[]] w fun e w' => ∃ i : Int, e = .returned (.int .i64 i) ∧ decide (0 ≤ i) = anyB (badB P R M T) n ∧ Below w.heap.size w w' := by
  have HH := Lib.hid H
  clear H
  unfold maxLen at hn
  go_enter Try.func36, Try.ntmps36
  go_wp2
  go_loopw [8] (fun i wr => ∃ k : Nat, k ≤ n ∧ i = .int .i64 k ∧ Below w.heap.size w wr ∧ anyB (badB P R M T) k = false) (fun i _ => n - (intOf i).toNat)
  case atStart => exact ⟨0, Nat.zero_le _, rfl, Below.refl _ _, rfl⟩
  case round =>
    obtain ⟨k, hk, rfl, hB, hf⟩ := hrel
    have HF := Lib.hid hf
    have HB := Lib.hid hB
    clear hf hB
    by_cases hlt : k < n
    · obtain ⟨b, m, h1, h2⟩ := HH.out.mono HB.out
      obtain rfl := h1 (by omega)
      obtain ⟨c0, c1, c2, c3⟩ := h2 k hlt
      have i1 : (0 : Int) ≤ (k : Int) := by omega
      have i2 : (k : Int) < (n : Int) := by omega
      have K := Lib.hid (valid33 (P k) (R k) (M k) (T k))
      unfold bv at K
      clear h1 h2
      cases hv : vb (P k) (R k) (M k) (T k)
      · rw [hv] at K
        have HQ := Lib.hid (anyB_true (p := badB P R M T) hlt (by unfold badB; rw [hv]; rfl))
        clear hv
        go_wp2_with (go_at_call 33; refine (K.out _).mono ?_; rintro e wz ⟨rfl, hb⟩)
        have HB1 := Lib.hid (bthen HB.out hb HB.out.size)
        clear hb
        go_wp2
        go_ret
        exact ⟨k, rfl, by rw [HQ.out]; simp, HB1.out⟩
      · rw [hv] at K
        have HQ := Lib.hid (show anyB (badB P R M T) (k + 1) = false by unfold anyB; rw [HF.out]; unfold badB; rw [hv]; rfl)
        clear hv
        go_wp2_with (go_at_call 33; refine (K.out _).mono ?_; rintro e wz ⟨rfl, hb⟩)
        have HB1 := Lib.hid (bthen HB.out hb HB.out.size)
        clear hb
        go_wp2
        go_roundw
        case rel => exact ⟨k + 1, by omega, by go_num, HB1.out, HQ.out⟩
        case measure => simp [intOf]; omega
    · obtain rfl : k = n := by omega
      go_wp2
      go_ret
      exact ⟨-1, rfl, by rw [HF.out]; rfl, HB.out⟩
theorem contains32 (w : World) (H : R4 w a n P R M T) (hn : n ≤ maxLen) :
    Calls Try.prog 32 #[.slice a n c, .func (.func 33) #[] #[]] w fun e w' => e = .returned (.bool (anyB (badB P R M T) n)) ∧ Below w.heap.size w w' := by
  go_enter Try.func32, Try.ntmps32
  go_wp2_with (go_at_call 36; refine (index36 a n c P R M T _ H hn).mono ?_)
  rintro e w1 ⟨i, rfl, hi, hb⟩
  have HI := Lib.hid hi
  have HB := Lib.hid hb
  clear hi hb
  go_wp2
  go_ret
  exact ⟨ret_bool (by rw [← HI.out]), HB.out⟩
/-- Buckets are valid. -/
def okB : Bool := decide (n ≤ 8) && !anyB (badB P R M T) n
variable {n P R M T} in
theorem okB_true (h : okB n P R M T = true) : n ≤ 8 ∧ ∀ k, k < n → vb (P k) (R k) (M k) (T k) = true := by
  unfold okB at h
  rw [Bool.and_eq_true] at h
  refine ⟨of_decide_eq_true h.1, fun k hk => ?_⟩
  have h2 : anyB (badB P R M T) n = false := by simpa using h.2
  have := anyB_false.1 h2 k hk
  unfold badB at this
  simpa using this
variable {n P R M T} in
theorem okB_mk (h : n ≤ 8) (h2 : ∀ k, k < n → vb (P k) (R k) (M k) (T k) = true) : okB n P R M T = true := by
  unfold okB
  rw [anyB_false.2 fun k hk => by unfold badB; rw [h2 k hk]; rfl]
  simp [h]
theorem valid21 (w : World) (H : R4 w a n P R M T) (hn : n ≤ maxLen) :
    Calls Try.prog 21 #[.slice a n c] w fun e w' => e = .returned (.bool (okB n P R M T)) ∧ Below w.heap.size w w' := by
  unfold okB
  have hn2 := hn
  unfold maxLen at hn2
  have K := Lib.hid (contains32 a n c P R M T w H hn)
  clear H
  by_cases h8 : n ≤ 8
  · rw [decide_eq_true h8]
    go_enter Try.func21, Try.ntmps21
    go_wp2_with (go_at_call 32; refine K.out.mono ?_; rintro e w1 ⟨rfl, hb⟩)
    go_ret
    exact ⟨rfl, hb⟩
  · rw [decide_eq_false h8]
    go_enter Try.func21, Try.ntmps21
    go_wp2
    go_ret
    exact ⟨ret_bool (by simp; try omega), Below.refl _ _⟩
set_option maxHeartbeats 2000000 in
theorem valid30 (w : World) (H : R4 w a n P R M T) (hn : n ≤ maxLen) :
    Calls Try.prog 30 #[.slice a n c] w fun e w' => e = .returned (.bool (okB n P R M T)) ∧ Below w.heap.size w w' := by
  have HH := Lib.hid H
  clear H
  unfold maxLen at hn
  go_enter Try.func30, Try.ntmps30
  go_wp2
  go_loopw [3] (fun i wr => ∃ k : Nat, k ≤ n ∧ i = .int .i64 k ∧ Below w.heap.size w wr ∧ anyB (badB P R M T) k = false) (fun i _ => n - (intOf i).toNat)
  case atStart => exact ⟨0, Nat.zero_le _, rfl, Below.refl _ _, rfl⟩
  case round =>
    obtain ⟨k, hk, rfl, hB, hf⟩ := hrel
    have HF := Lib.hid hf
    have HB := Lib.hid hB
    clear hf hB
    by_cases hlt : k < n
    · obtain ⟨b, m, h1, h2⟩ := HH.out.mono HB.out
      obtain rfl := h1 (by omega)
      obtain ⟨c0, c1, c2, c3⟩ := h2 k hlt
      have i1 : (0 : Int) ≤ (k : Int) := by omega
      have i2 : (k : Int) < (n : Int) := by omega
      have HB1 := Lib.hid (HB.out.alloc HB.out.size (.cells #[.int .i64 (P k), .int .i64 (R k), .int .i64 (M k), .int .i64 (T k)] 35))
      have HQ : Hid (vb (P k) (R k) (M k) (T k) = false → anyB (badB P R M T) n = true) := Lib.hid fun hv => anyB_true (p := badB P R M T) hlt (by unfold badB; rw [hv]; rfl)
      have HN : Hid (vb (P k) (R k) (M k) (T k) = true → anyB (badB P R M T) (k + 1) = false) := Lib.hid fun hv => by unfold anyB; rw [HF.out]; unfold badB; rw [hv]; rfl
      clear h1 h2
      generalize P k = p at *
      generalize R k = r at *
      generalize M k = mm at *
      generalize T k = tt at *
      have hno : (vb p r mm tt = false) → Hid (okB n P R M T = false) := fun h => Lib.hid (by unfold okB; rw [HQ.out h]; simp)
      have HNO := Lib.hid hno
      clear hno
      go_wp2
      all_goals first
        | (go_ret; exact ⟨ret_bool (HNO.out (by unfold vb btw; simp; omega)).out.symm, HB1.out⟩)
        | (go_roundw
           case rel => exact ⟨k + 1, by omega, by go_num, HB1.out, HN.out (by unfold vb btw; simp; omega)⟩
           case measure => simp [intOf]; omega)
    · obtain rfl : k = n := by omega
      go_wp2
      go_ret
      exact ⟨ret_bool (by unfold okB; rw [HF.out]; simp; omega), HB.out⟩
end
end Go.Proofs.Ytgcplboiodnfpaa
