/- Layer 31: Noise at all numbers; comparisons. -/
import Derived.Test.YtfkbcjpiijcbfaaC3
namespace Go.Proofs.Ytfkbcjpiijcbfaa
set_option linter.unusedVariables false
set_option linter.unusedSimpArgs false
open Go.RowKit Go.Sort
attribute [local go_sem] gcell
theorem noise8 (s te ce ti n m : Int) (w : World) : Calls Try.prog 8 #[.int .i64 s, .int .i64 te, .int .i64 ce, .int .i64 ti, .int .i64 n, .int .i64 m] w (NoiseR s te ce ti n m w) := by
  rcases Bool.eq_false_or_eq_true (nzOk s te ce ti n m) with h | h
  · have h' := h
    unfold nzOk btw at h'
    simp only [Bool.and_eq_true, decide_eq_true_eq] at h'
    obtain ⟨⟨⟨⟨⟨h1, h2⟩, h3⟩, h4⟩, h5⟩, h6⟩ := h'
    obtain ⟨N, rfl⟩ := Int.eq_ofNat_of_zero_le h5.1
    exact noise8_ok s te ce ti m N w h1 h2 h3 h4 (by omega) h6
  · exact noise8_err s te ce ti n m w h
/-- Whether two rows are the same. -/
def same (n m : Nat) (xs ys : Nat → Int) : Bool := decide (n = m) && !anyB (fun k => decide (xs k ≠ ys k)) n
theorem same_true {n m : Nat} {xs ys : Nat → Int} (h : n = m) (h2 : ∀ k, k < n → xs k = ys k) : same n m xs ys = true := by
  unfold same
  rw [anyB_false.2 (fun k hk => by simp [h2 k hk])]
  simp [h]


theorem same16 (a d : Option Addr) (n c m l : Nat) (xs ys : Nat → Int) (w : World) (R : Row w a n xs) (S : Row w d m ys) (hn : n ≤ maxLen) (hm : m ≤ maxLen) :
    Calls Try.prog 16 #[.slice a n c, .slice d m l] w fun e w' => e = .returned (.bool (same n m xs ys)) ∧ Below w.heap.size w w' := by
  obtain ⟨b, o, ha, hx⟩ := R
  obtain ⟨b2, o2, hd, hy⟩ := S
  have HA := Lib.hid ha
  have HX := Lib.hid hx
  have HD := Lib.hid hd
  have HY := Lib.hid hy
  clear ha hx hd hy
  have hn2 := hn
  unfold maxLen at hn2
  have hm2 := hm
  unfold maxLen at hm2
  by_cases hnm : n = m
  · subst hnm
    go_enter Try.func16, Try.ntmps16
    go_wp2
    go_loopw [5] (fun i wr => ∃ k : Nat, k ≤ n ∧ i = .int .i64 k ∧ anyB (fun k => decide (xs k ≠ ys k)) k = false ∧ Below w.heap.size w wr) (fun i _ => n - (intOf i).toNat)
    case atStart => exact ⟨0, Nat.zero_le _, rfl, rfl, Below.refl _ _⟩
    case round =>
      obtain ⟨k, hk, rfl, hf, hB⟩ := hrel
      have HB := Lib.hid hB
      have HF := Lib.hid hf
      clear hf
      by_cases hlt : k < n
      · have hxk := HX.out k hlt
        have hxw := up hB hxk
        have hyk := HY.out k hlt
        have hyw := up hB hyk
        have hak := HA.out (by omega)
        have hdk := HD.out (by omega)
        subst hak hdk
        by_cases h1 : xs k = ys k
        · have hq : (xs k == ys k) = true := by simp [h1]
          have hq2 : (xs k != ys k) = false := by simp [h1]
          go_wp2_with fail
          go_quiet (fail)
          go_wp2
          go_roundw
          case rel => exact ⟨k + 1, by omega, by go_num, by unfold anyB; rw [HF.out]; simp [h1], ⟨HB.out.os, HB.out.tape, HB.out.output, HB.out.size, HB.out.block⟩⟩
          case measure => simp [intOf]; omega
        · have hq : (xs k == ys k) = false := by simp [h1]
          have hq2 : (xs k != ys k) = true := by simp [h1]
          go_wp2_with fail
          go_quiet (fail)
          go_wp2
          go_ret
          refine ⟨ret_bool ?_, ⟨HB.out.os, HB.out.tape, HB.out.output, HB.out.size, HB.out.block⟩⟩
          unfold same
          rw [anyB_true hlt (by simp [h1])]
          simp
      · have : k = n := by omega
        subst this
        go_wp2
        go_ret
        refine ⟨ret_bool ?_, HB.out⟩
        unfold same
        rw [HF.out]
        simp
  · have h1 : ((n : Int) == (m : Int)) = false := beq_eq_false_iff_ne.2 (by omega)
    have h2 : ((n : Int) != (m : Int)) = true := by rw [bne_iff_ne]; omega
    go_enter Try.func16, Try.ntmps16
    go_wp2
    go_ret
    refine ⟨ret_bool ?_, Below.refl _ _⟩
    unfold same
    simp [hnm]



end Go.Proofs.Ytfkbcjpiijcbfaa
