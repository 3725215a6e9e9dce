/- Layer 33: the small functions. -/
import Derived.Test.YteokhadpenalaaaRows
import Derived.Test.YteokhadpenalaaaRow
import Derived.Test.YteokhadpenalaaaAny
import Derived.Test.YteokhadpenalaaaCnt
namespace Go.Proofs.Yteokhadpenalaaa
set_option linter.unusedVariables false
set_option linter.unusedSimpArgs false
open Go.RowKit Go.Sort
attribute [local go_sem] gcell

/-- A guarantee is valid. -/
def vg (F W B : Int) : Bool := decide (0 ≤ F ∧ F ≤ 1048576 ∧ 1 ≤ W ∧ W ≤ 64 ∧ 0 ≤ B ∧ B ≤ 12 * W)
theorem vg_true {F W B : Int} (h : vg F W B = true) : 0 ≤ F ∧ F ≤ 1048576 ∧ 1 ≤ W ∧ W ≤ 64 ∧ 0 ≤ B ∧ B ≤ 12 * W := of_decide_eq_true h
def gvv (F W B : Int) : Value := .agg #[.int .i64 F, .int .i64 W, .int .i64 B]
theorem right30 (F W B : Int) (w : World) : Calls Try.prog 30 #[gvv F W B] w fun e w' => e = .returned (.bool (vg F W B)) ∧ Below w.heap.size w w' := by
  unfold gvv
  by_cases h : 0 ≤ F ∧ F ≤ 1048576 ∧ 1 ≤ W ∧ W ≤ 64 ∧ 0 ≤ B ∧ B ≤ 12 * W
  · have hv : vg F W B = true := decide_eq_true h
    rw [hv]
    go_enter Try.func30, Try.ntmps30
    go_wp2
    go_ret
    exact ⟨rfl, (Below.refl _ _).alloc (Nat.le_refl _) _⟩
  · have hv : vg F W B = false := decide_eq_false h
    rw [hv]
    go_enter Try.func30, Try.ntmps30
    go_wp2
    all_goals first
      | (go_ret; exact ⟨rfl, (Below.refl _ _).alloc (Nat.le_refl _) _⟩)
      | (go_ret; exact ⟨ret_bool (by simp; omega), (Below.refl _ _).alloc (Nat.le_refl _) _⟩)
      | (exfalso; omega)
theorem valid32 (F W B : Int) (w : World) : Calls Try.prog 32 #[gvv F W B] w fun e w' => e = .returned (.bool (vg F W B)) ∧ Below w.heap.size w w' := by
  unfold gvv
  by_cases h : 0 ≤ F ∧ F ≤ 1048576 ∧ 1 ≤ W ∧ W ≤ 64 ∧ 0 ≤ B ∧ B ≤ 12 * W
  · have hv : vg F W B = true := decide_eq_true h
    rw [hv]
    go_enter Try.func32, Try.ntmps32
    go_wp2
    go_ret
    exact ⟨rfl, (Below.refl _ _).alloc (Nat.le_refl _) _⟩
  · have hv : vg F W B = false := decide_eq_false h
    rw [hv]
    go_enter Try.func32, Try.ntmps32
    go_wp2
    all_goals first
      | (go_ret; exact ⟨rfl, (Below.refl _ _).alloc (Nat.le_refl _) _⟩)
      | (go_ret; exact ⟨ret_bool (by simp; omega), (Below.refl _ _).alloc (Nat.le_refl _) _⟩)
      | (exfalso; omega)

/-- A slice of guarantees as it lies in memory. -/
def R3 (w : World) (a : Option Addr) (n : Nat) (F W B : Nat → Int) : Prop := ∃ b m, (0 < n → a = some ⟨b, m, none⟩) ∧ ∀ k, k < n → w.cell? ⟨b, m + k * 3, none⟩ = some (.int .i64 (F k)) ∧ w.cell? ⟨b, m + k * 3 + 1, none⟩ = some (.int .i64 (W k)) ∧ w.cell? ⟨b, m + k * 3 + 2, none⟩ = some (.int .i64 (B k))
theorem R3.mono {u w : World} {a : Option Addr} {n : Nat} {F W B : Nat → Int} (R : R3 u a n F W B) (hb : Below u.heap.size u w) : R3 w a n F W B := by
  obtain ⟨b, m, h1, h2⟩ := R
  exact ⟨b, m, h1, fun k hk => ⟨up hb (h2 k hk).1, up hb (h2 k hk).2.1, up hb (h2 k hk).2.2⟩⟩
/-- The error of guarantees. -/
def ck (n : Nat) (F W B : Nat → Int) : Int := if 4 < n then 2 else if anyB (fun k => !vg (F k) (W k) (B k)) n then 3 else 0
theorem ck_ok {n : Nat} {F W B : Nat → Int} (h : ck n F W B = 0) : n ≤ 4 ∧ ∀ k, k < n → vg (F k) (W k) (B k) = true := by
  unfold ck at h
  by_cases h1 : 4 < n
  · rw [if_pos h1] at h; cases h
  · rw [if_neg h1] at h
    cases h2 : anyB (fun k => !vg (F k) (W k) (B k)) n
    · refine ⟨by omega, fun k hk => ?_⟩
      have := anyB_false.1 h2 k hk
      simpa using this
    · rw [h2, if_pos rfl] at h; cases h
set_option maxHeartbeats 1000000 in
theorem check24 (a : Option Addr) (n c : Nat) (F W B : Nat → Int) (w : World) (R : R3 w a n F W B) (hn : n ≤ maxLen) :
    Calls Try.prog 24 #[.slice a n c] w fun e w' => e = .returned (.int .i64 (ck n F W B)) ∧ Below w.heap.size w w' := by
  have HR := Lib.hid R
  clear R
  unfold maxLen at hn
  by_cases h4 : 4 < n
  · have hc : ck n F W B = 2 := if_pos h4
    rw [hc]
    go_enter Try.func24, Try.ntmps24
    go_wp2
    go_ret
    exact ⟨rfl, Below.refl _ _⟩
  · go_enter Try.func24, Try.ntmps24
    go_wp2
    go_loopw [10] (fun i wr => ∃ k : Nat, k ≤ n ∧ i = .int .i64 k ∧ Below w.heap.size w wr ∧ anyB (fun k => !vg (F k) (W k) (B k)) k = false) (fun i _ => n - (intOf i).toNat)
    case atStart => exact ⟨0, Nat.zero_le _, rfl, Below.refl _ _, rfl⟩
    case round =>
      obtain ⟨k, hk, rfl, hB, hf⟩ := hrel
      have HB := Lib.hid hB
      have HF := Lib.hid hf
      clear hB hf
      by_cases hlt : k < n
      · obtain ⟨b, m, h1, h2⟩ := HR.out.mono HB.out
        obtain rfl := h1 (by omega)
        obtain ⟨c0, c1, c2⟩ := h2 k hlt
        have i1 : (0 : Int) ≤ (k : Int) := by omega
        have i2 : (k : Int) < (n : Int) := by omega
        have K := Lib.hid (right30 (F k) (W k) (B k))
        unfold gvv at K
        clear h1 h2
        go_wp2_with (go_at_call 30; refine (K.out _).mono ?_)
        rintro e w1 ⟨rfl, hb⟩
        have HB1 := Lib.hid (bthen (HB.out.alloc HB.out.size (.cells #[.int .i64 (F k), .int .i64 (W k), .int .i64 (B k)] 39)) hb (by simp; have := HB.out.size; omega))
        clear hb c0 c1 c2
        cases hv : vg (F k) (W k) (B k)
        · have hc : ck n F W B = 3 := by unfold ck; rw [if_neg h4, anyB_true hlt (by simp [hv])]; rfl
          have HC := Lib.hid hc
          clear hc
          go_wp2
          go_ret
          exact ⟨ret_int HC.out.symm, HB1.out⟩
        · have HV := Lib.hid hv
          clear hv
          go_wp2
          go_roundw
          case rel => exact ⟨k + 1, by omega, by go_num, HB1.out, by unfold anyB; rw [HF.out, HV.out]; rfl⟩
          case measure => simp [intOf]; omega
      · have : k = n := by omega
        subst this
        have hc : ck k F W B = 0 := by unfold ck; rw [if_neg h4, HF.out]; rfl
        have HC := Lib.hid hc
        clear hc
        go_wp2
        go_ret
        exact ⟨ret_int HC.out.symm, HB.out⟩
set_option maxHeartbeats 1000000 in
theorem check25 (a : Option Addr) (n c : Nat) (F W B : Nat → Int) (w : World) (R : R3 w a n F W B) (hn : n ≤ maxLen) :
    Calls Try.prog 25 #[.slice a n c] w fun e w' => e = .returned (.int .i64 (ck n F W B)) ∧ Below w.heap.size w w' := by
  have HR := Lib.hid R
  clear R
  unfold maxLen at hn
  by_cases h4 : 4 < n
  · have hc : ck n F W B = 2 := if_pos h4
    rw [hc]
    go_enter Try.func25, Try.ntmps25
    go_wp2
    go_ret
    exact ⟨rfl, Below.refl _ _⟩
  · go_enter Try.func25, Try.ntmps25
    go_wp2
    go_loopw [3] (fun i wr => ∃ k : Nat, k ≤ n ∧ i = .int .i64 k ∧ Below w.heap.size w wr ∧ anyB (fun k => !vg (F k) (W k) (B k)) k = false) (fun i _ => n - (intOf i).toNat)
    case atStart => exact ⟨0, Nat.zero_le _, rfl, Below.refl _ _, rfl⟩
    case round =>
      obtain ⟨k, hk, rfl, hB, hf⟩ := hrel
      have HB := Lib.hid hB
      have HF := Lib.hid hf
      clear hB hf
      by_cases hlt : k < n
      · obtain ⟨b, m, h1, h2⟩ := HR.out.mono HB.out
        obtain rfl := h1 (by omega)
        obtain ⟨c0, c1, c2⟩ := h2 k hlt
        have i1 : (0 : Int) ≤ (k : Int) := by omega
        have i2 : (k : Int) < (n : Int) := by omega
        have K := Lib.hid (valid32 (F k) (W k) (B k))
        unfold gvv at K
        clear h1 h2
        go_wp2_with (go_at_call 32; refine (K.out _).mono ?_)
        rintro e w1 ⟨rfl, hb⟩
        have HB1 := Lib.hid (bthen HB.out hb HB.out.size)
        clear hb c0 c1 c2
        cases hv : vg (F k) (W k) (B k)
        · have hc : ck n F W B = 3 := by unfold ck; rw [if_neg h4, anyB_true hlt (by simp [hv])]; rfl
          have HC := Lib.hid hc
          clear hc
          go_wp2
          go_ret
          exact ⟨ret_int HC.out.symm, HB1.out⟩
        · have HV := Lib.hid hv
          clear hv
          go_wp2
          go_roundw
          case rel => exact ⟨k + 1, by omega, by go_num, HB1.out, by unfold anyB; rw [HF.out, HV.out]; rfl⟩
          case measure => simp [intOf]; omega
      · have : k = n := by omega
        subst this
        have hc : ck k F W B = 0 := by unfold ck; rw [if_neg h4, HF.out]; rfl
        have HC := Lib.hid hc
        clear hc
        go_wp2
        go_ret
        exact ⟨ret_int HC.out.symm, HB.out⟩
end Go.Proofs.Yteokhadpenalaaa
