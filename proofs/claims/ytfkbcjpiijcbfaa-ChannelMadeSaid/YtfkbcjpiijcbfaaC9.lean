/- Layer 31: the checks of a list of fades. -/
import Derived.Test.YtfkbcjpiijcbfaaC8
namespace Go.Proofs.Ytfkbcjpiijcbfaa
set_option linter.unusedVariables false
set_option linter.unusedSimpArgs false
open Go.RowKit Go.Sort
attribute [local go_sem] gcell
def errOf (x : Fd) : Int := if btw x.t 0 3 = false then 64 else if btw x.c 0 2 = false then 63 else if (btw x.f 0 1048576 && btw x.g 0 127 && btw x.n 0 1000) = false then 3 else 0
def firstErr (X : Nat → Fd) : Nat → Int
  | 0 => 0
  | k + 1 => if firstErr X k = 0 then errOf (X k) else firstErr X k
def chk (n : Nat) (X : Nat → Fd) : Int := if 400 < n then 2 else firstErr X n
theorem firstErr_keep {X : Nat → Fd} {k n : Nat} (h : k ≤ n) (h0 : firstErr X k ≠ 0) : firstErr X n = firstErr X k := by
  induction n with
  | zero => obtain rfl : k = 0 := by omega
            rfl
  | succ n ih =>
    rcases Nat.lt_or_eq_of_le h with h1 | rfl
    · have := ih (by omega)
      show (if firstErr X n = 0 then errOf (X n) else firstErr X n) = _
      rw [if_neg (by rw [this]; exact h0), this]
    · rfl
theorem firstErr_at {X : Nat → Fd} {k n : Nat} (h : k < n) (h0 : firstErr X k = 0) (h1 : errOf (X k) ≠ 0) : firstErr X n = errOf (X k) := by
  have e : firstErr X (k + 1) = errOf (X k) := by
    show (if firstErr X k = 0 then errOf (X k) else firstErr X k) = _
    rw [if_pos h0]
  rw [firstErr_keep (k := k + 1) h (by rw [e]; exact h1), e]
theorem firstErr_next {X : Nat → Fd} {k : Nat} (h0 : firstErr X k = 0) (h1 : errOf (X k) = 0) : firstErr X (k + 1) = 0 := by
  show (if firstErr X k = 0 then errOf (X k) else firstErr X k) = _
  rw [if_pos h0, h1]
set_option maxRecDepth 100000 in
set_option maxHeartbeats 8000000 in
theorem check25 (a : Option Addr) (n cp : Nat) (X : Nat → Fd) (w : World) (H : R5 w a n X) (hn : n ≤ maxLen) :
    Calls Try.prog 25 #[.slice a n cp] w fun e w' => e = .returned (.int .i64 (chk n X)) ∧ Below w.heap.size w w' := by
  have HH := Lib.hid H
  clear H
  have hn2 := hn
  unfold maxLen at hn2
  by_cases h4 : 400 < n
  · go_enter Try.func25, Try.ntmps25
    go_wp2
    go_ret
    exact ⟨ret_int (show (2 : Int) = chk n X by unfold chk; rw [if_pos h4]), Below.refl _ _⟩
  · have hc : chk n X = firstErr X n := by unfold chk; rw [if_neg h4]
    rw [hc]
    clear hc
    go_enter Try.func25, Try.ntmps25
    go_wp2
    go_loopw [10] (fun i wr => ∃ k : Nat, k ≤ n ∧ i = .int .i64 k ∧ firstErr X k = 0 ∧ Below w.heap.size w wr) (fun i _ => n - (intOf i).toNat)
    case atStart => exact ⟨0, Nat.zero_le _, rfl, rfl, Below.refl _ _⟩
    case round =>
      obtain ⟨k, hk, rfl, hf, hB⟩ := hrel
      have HB := Lib.hid hB
      have HF := Lib.hid hf
      clear hf
      by_cases hlt : k < n
      · obtain ⟨b, m, h1, h2⟩ := HH.out.mono hB
        obtain rfl := h1 (by omega)
        obtain ⟨c0, c1, c2, c3, c4⟩ := h2 k hlt
        have hb1 := lt_of_cell c0
        have hsz := hB.size
        clear h1 h2 hB
        have i1 : (0 : Int) ≤ (k : Int) := by omega
        have i2 : (k : Int) < (n : Int) := by omega
        have HE := Lib.hid (show errOf (X k) = errOf (X k) from rfl)
        conv at HE => arg 1; rhs; unfold errOf
        have FA := Lib.hid fun (z : Int) (h : errOf (X k) = z) (h2 : z ≠ 0) => (show firstErr X n = z from (firstErr_at hlt HF.out (by rw [h]; exact h2)).trans h)
        have FN := Lib.hid fun (h : errOf (X k) = 0) => firstErr_next HF.out h
        generalize errOf (X k) = E at *
        generalize (X k).t = x0 at *
        generalize (X k).c = x1 at *
        generalize (X k).f = x2 at *
        generalize (X k).g = x3 at *
        generalize (X k).n = x4 at *
        rcases btw_or x0 0 3 with b0 | b0
        · rw [b0] at HE
          go_wp2_with (go_at_call 18; refine (between18 _ _ _ _).mono ?_; rintro e w' ⟨rfl, rfl⟩)
          go_ret
          exact ⟨ret_int (FA.out 64 (HE.out.trans (by simp)) (by decide)).symm, HB.out.alloc hsz _⟩
        rcases btw_or x1 0 2 with b1 | b1
        · rw [b0, b1] at HE
          go_wp2_with (go_at_call 18; refine (between18 _ _ _ _).mono ?_; rintro e w' ⟨rfl, rfl⟩)
          go_ret
          exact ⟨ret_int (FA.out 63 (HE.out.trans (by simp)) (by decide)).symm, HB.out.alloc hsz _⟩
        rcases btw_or x2 0 1048576 with b2 | b2
        · rw [b0, b1, b2] at HE
          go_wp2_with (go_at_call 18; refine (between18 _ _ _ _).mono ?_; rintro e w' ⟨rfl, rfl⟩)
          go_ret
          exact ⟨ret_int (FA.out 3 (HE.out.trans (by simp)) (by decide)).symm, HB.out.alloc hsz _⟩
        rcases btw_or x3 0 127 with b3 | b3
        · rw [b0, b1, b2, b3] at HE
          go_wp2_with (go_at_call 18; refine (between18 _ _ _ _).mono ?_; rintro e w' ⟨rfl, rfl⟩)
          go_ret
          exact ⟨ret_int (FA.out 3 (HE.out.trans (by simp)) (by decide)).symm, HB.out.alloc hsz _⟩
        rcases btw_or x4 0 1000 with b4 | b4
        · rw [b0, b1, b2, b3, b4] at HE
          go_wp2_with (go_at_call 18; refine (between18 _ _ _ _).mono ?_; rintro e w' ⟨rfl, rfl⟩)
          go_ret
          exact ⟨ret_int (FA.out 3 (HE.out.trans (by simp)) (by decide)).symm, HB.out.alloc hsz _⟩
        rw [b0, b1, b2, b3, b4] at HE
        go_wp2_with (go_at_call 18; refine (between18 _ _ _ _).mono ?_; rintro e w' ⟨rfl, rfl⟩)
        exact ⟨⟨k + 1, by omega, by go_num, FN.out (HE.out.trans (by simp)), HB.out.alloc hsz _⟩, by simp only [intOf]; omega⟩
      · obtain rfl : k = n := by omega
        clear hB
        go_wp2
        go_ret
        exact ⟨ret_int HF.out.symm, HB.out⟩
end Go.Proofs.Ytfkbcjpiijcbfaa
