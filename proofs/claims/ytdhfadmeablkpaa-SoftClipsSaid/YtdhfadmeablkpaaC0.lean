/- Layer 27: the small functions: the limit, the search for one that is outside, the comparison of two rows. -/
import Derived.Test.YtdhfadmeablkpaaRows
import Derived.Test.YtdhfadmeablkpaaRow
namespace Go.Proofs.Ytdhfadmeablkpaa
open Go.RowKit Go.Sort
attribute [local go_sem] gcell
set_option linter.unusedVariables false

def clip (n : Int) : Int := max (-127) (min n 127)
theorem clip_bd (n : Int) : -127 ≤ clip n ∧ clip n ≤ 127 := by unfold clip; omega

theorem clip14 (n : Int) (w : World) : Calls Try.prog 14 #[.int .i64 n] w fun e w' => e = .returned (.int .i64 (clip n)) ∧ w' = w := by
  go_enter Try.func14, Try.ntmps14
  go_wp2
  all_goals
    go_ret
    exact ⟨ret_int (by simp only [clip]; omega), rfl⟩
theorem clip15 (n : Int) (w : World) : Calls Try.prog 15 #[.int .i64 n] w fun e w' => e = .returned (.int .i64 (clip n)) ∧ w' = w := by
  go_enter Try.func15, Try.ntmps15
  go_wp2
  all_goals
    go_ret
    exact ⟨ret_int (by simp only [clip]; omega), rfl⟩

/-- Whether one of the first n is so. -/
def anyB (p : Nat → Bool) : Nat → Bool
  | 0 => false
  | k + 1 => anyB p k || p k
theorem anyB_true {p : Nat → Bool} {n k : Nat} (hk : k < n) (h : p k = true) : anyB p n = true := by
  induction n with
  | zero => omega
  | succ n ih =>
    unfold anyB
    by_cases h2 : k < n
    · rw [ih h2]; rfl
    · have : k = n := by omega
      subst this; rw [h]; simp
theorem anyB_false {p : Nat → Bool} {n : Nat} : anyB p n = false ↔ ∀ k, k < n → p k = false := by
  constructor
  · intro h k hk
    cases hp : p k
    · rfl
    · rw [anyB_true hk hp] at h; cases h
  · intro h
    induction n with
    | zero => rfl
    | succ n ih => unfold anyB; rw [ih (fun k hk => h k (by omega)), h n (by omega)]; rfl
def out (xs : Nat → Int) (m : Int) (k : Nat) : Bool := decide (xs k < -m) || decide (m < xs k)

theorem outside17 (a : Option Addr) (n c : Nat) (xs : Nat → Int) (m : Int) (w : World) (R : Row w a n xs) (hn : n ≤ maxLen) (hm : 0 ≤ m) (hm2 : m ≤ 100000) :
    Calls Try.prog 17 #[.slice a n c, .int .i64 m] w fun e w' => e = .returned (.bool (anyB (out xs m) n)) ∧ Below w.heap.size w w' := by
  obtain ⟨b, o, ha, hx⟩ := R
  have HA := Lib.hid ha
  have HX := Lib.hid hx
  clear ha hx
  have hn2 := hn
  unfold maxLen at hn2
  go_enter Try.func17, Try.ntmps17
  go_wp2
  go_loopw [9] (fun i wr => ∃ k : Nat, k ≤ n ∧ i = .int .i64 k ∧ anyB (out xs m) k = false ∧ Below w.heap.size w wr) (fun i _ => n - (intOf i).toNat)
  case atStart => exact ⟨0, Nat.zero_le _, rfl, rfl, Below.refl _ _⟩
  case round =>
    obtain ⟨k, hk, rfl, hf, hB⟩ := hrel
    have HB := Lib.hid hB
    have HF := Lib.hid hf
    clear hf
    by_cases hlt : k < n
    · have hxk := HX.out k hlt
      have hxw := up hB hxk
      have hak := HA.out (by omega)
      subst hak
      by_cases h1 : xs k < -m
      · go_wp2
        go_ret
        refine ⟨ret_bool ?_, HB.out⟩
        rw [anyB_true hlt (by unfold out; simp [h1])]
      · by_cases h2 : m < xs k
        · go_wp2
          go_ret
          refine ⟨ret_bool ?_, HB.out⟩
          rw [anyB_true hlt (by unfold out; simp [h2])]
        · go_wp2
          go_roundw
          case rel => exact ⟨k + 1, by omega, by go_num, by unfold anyB; rw [HF.out]; unfold out; simp; omega, HB.out⟩
          case measure => simp [intOf]; omega
    · have : k = n := by omega
      subst this
      go_wp2
      go_ret
      refine ⟨ret_bool ?_, HB.out⟩
      rw [HF.out]

theorem soft21 (a : Option Addr) (n c : Nat) (xs : Nat → Int) (w : World) (R : Row w a n xs) (hn : n ≤ maxLen) :
    Calls Try.prog 21 #[.slice a n c] w fun e w' => e = .returned (.bool (!anyB (out xs 127) n)) ∧ Below w.heap.size w w' := by
  obtain ⟨b, o, ha, hx⟩ := R
  have HA := Lib.hid ha
  have HX := Lib.hid hx
  clear ha hx
  have hn2 := hn
  unfold maxLen at hn2
  go_enter Try.func21, Try.ntmps21
  go_wp2
  go_loopw [3] (fun i wr => ∃ k : Nat, k ≤ n ∧ i = .int .i64 k ∧ anyB (out xs 127) k = false ∧ Below w.heap.size w wr) (fun i _ => n - (intOf i).toNat)
  case atStart => exact ⟨0, Nat.zero_le _, rfl, rfl, Below.refl _ _⟩
  case round =>
    obtain ⟨k, hk, rfl, hf, hB⟩ := hrel
    have HB := Lib.hid hB
    have HF := Lib.hid hf
    clear hf
    by_cases hlt : k < n
    · have hxk := HX.out k hlt
      have hxw := up hB hxk
      have hak := HA.out (by omega)
      subst hak
      by_cases h1 : xs k < -127
      · go_wp2
        go_ret
        refine ⟨ret_bool ?_, HB.out⟩
        rw [anyB_true hlt (by unfold out; simp [h1])]; rfl
      · by_cases h2 : 127 < xs k
        · go_wp2
          go_ret
          refine ⟨ret_bool ?_, HB.out⟩
          rw [anyB_true hlt (by unfold out; simp [h2])]; rfl
        · go_wp2
          go_roundw
          case rel => exact ⟨k + 1, by omega, by go_num, by unfold anyB; rw [HF.out]; unfold out; simp; omega, HB.out⟩
          case measure => simp [intOf]; omega
    · have : k = n := by omega
      subst this
      go_wp2
      go_ret
      refine ⟨ret_bool ?_, HB.out⟩
      rw [HF.out]; rfl

/-- Whether two rows are the same. -/
def same (n m : Nat) (xs ys : Nat → Int) : Bool := decide (n = m) && !anyB (fun k => decide (xs k ≠ ys k)) n
theorem same_true {n m : Nat} {xs ys : Nat → Int} (h : n = m) (h2 : ∀ k, k < n → xs k = ys k) : same n m xs ys = true := by
  unfold same
  rw [anyB_false.2 (fun k hk => by simp [h2 k hk])]
  simp [h]

theorem same11 (a d : Option Addr) (n c m l : Nat) (xs ys : Nat → Int) (w : World) (R : Row w a n xs) (S : Row w d m ys) (hn : n ≤ maxLen) (hm : m ≤ maxLen) :
    Calls Try.prog 11 #[.slice a n c, .slice d m l] w fun e w' => e = .returned (.bool (same n m xs ys)) ∧ Below w.heap.size w w' := by
  obtain ⟨b, o, ha, hx⟩ := R
  obtain ⟨b2, o2, hd, hy⟩ := S
  have HA := Lib.hid ha
  have HX := Lib.hid hx
  have HD := Lib.hid hd
  have HY := Lib.hid hy
  clear ha hx hd hy
  have hn2 := hn
  unfold maxLen at hn2
  have hm2 := hm
  unfold maxLen at hm2
  by_cases hnm : n = m
  · subst hnm
    go_enter Try.func11, Try.ntmps11
    go_wp2
    go_loopw [5] (fun i wr => ∃ k : Nat, k ≤ n ∧ i = .int .i64 k ∧ anyB (fun k => decide (xs k ≠ ys k)) k = false ∧ Below w.heap.size w wr) (fun i _ => n - (intOf i).toNat)
    case atStart => exact ⟨0, Nat.zero_le _, rfl, rfl, Below.refl _ _⟩
    case round =>
      obtain ⟨k, hk, rfl, hf, hB⟩ := hrel
      have HB := Lib.hid hB
      have HF := Lib.hid hf
      clear hf
      by_cases hlt : k < n
      · have hxk := HX.out k hlt
        have hxw := up hB hxk
        have hyk := HY.out k hlt
        have hyw := up hB hyk
        have hak := HA.out (by omega)
        have hdk := HD.out (by omega)
        subst hak hdk
        by_cases h1 : xs k = ys k
        · have hq : (xs k == ys k) = true := by simp [h1]
          have hq2 : (xs k != ys k) = false := by simp [h1]
          go_wp2_with fail
          go_quiet (fail)
          go_wp2
          go_roundw
          case rel => exact ⟨k + 1, by omega, by go_num, by unfold anyB; rw [HF.out]; simp [h1], ⟨HB.out.os, HB.out.tape, HB.out.output, HB.out.size, HB.out.block⟩⟩
          case measure => simp [intOf]; omega
        · have hq : (xs k == ys k) = false := by simp [h1]
          have hq2 : (xs k != ys k) = true := by simp [h1]
          go_wp2_with fail
          go_quiet (fail)
          go_wp2
          go_ret
          refine ⟨ret_bool ?_, ⟨HB.out.os, HB.out.tape, HB.out.output, HB.out.size, HB.out.block⟩⟩
          unfold same
          rw [anyB_true hlt (by simp [h1])]
          simp
      · have : k = n := by omega
        subst this
        go_wp2
        go_ret
        refine ⟨ret_bool ?_, HB.out⟩
        unfold same
        rw [HF.out]
        simp
  · have h1 : ((n : Int) == (m : Int)) = false := beq_eq_false_iff_ne.2 (by omega)
    have h2 : ((n : Int) != (m : Int)) = true := by rw [bne_iff_ne]; omega
    go_enter Try.func11, Try.ntmps11
    go_wp2
    go_ret
    refine ⟨ret_bool ?_, Below.refl _ _⟩
    unfold same
    simp [hnm]
end Go.Proofs.Ytdhfadmeablkpaa
