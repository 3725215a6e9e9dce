/- Layer 31: the reference's check. -/
import Derived.Test.YtfkbcjpiijcbfaaC9
namespace Go.Proofs.Ytfkbcjpiijcbfaa
set_option linter.unusedVariables false
set_option linter.unusedSimpArgs false
open Go.RowKit Go.Sort
attribute [local go_sem] gcell
theorem btw_f {n l h : Int} (hb : n < l ∨ h < n) : btw n l h = false := decide_eq_false (by omega)
theorem errOf_64 {x : Fd} (h : x.t < 0 ∨ 3 < x.t) : errOf x = 64 := by unfold errOf; rw [btw_f h, if_pos rfl]
theorem errOf_63 {x : Fd} (h : 0 ≤ x.t ∧ x.t ≤ 3) (h1 : x.c < 0 ∨ 2 < x.c) : errOf x = 63 := by unfold errOf; rw [btw_t h, btw_f h1]; rfl
theorem errOf_3 {x : Fd} (h : 0 ≤ x.t ∧ x.t ≤ 3) (h1 : 0 ≤ x.c ∧ x.c ≤ 2) (h2 : x.f < 0 ∨ 1048576 < x.f ∨ x.g < 0 ∨ 127 < x.g ∨ x.n < 0 ∨ 1000 < x.n) : errOf x = 3 := by
  unfold errOf
  rw [btw_t h, btw_t h1]
  have : (btw x.f 0 1048576 && btw x.g 0 127 && btw x.n 0 1000) = false := by
    unfold btw
    rw [← Bool.not_eq_true]
    simp only [Bool.and_eq_true, decide_eq_true_eq]
    omega
  rw [this]; rfl
theorem errOf_0 {x : Fd} (h : 0 ≤ x.t ∧ x.t ≤ 3) (h1 : 0 ≤ x.c ∧ x.c ≤ 2) (h2 : 0 ≤ x.f ∧ x.f ≤ 1048576) (h3 : 0 ≤ x.g ∧ x.g ≤ 127) (h4 : 0 ≤ x.n ∧ x.n ≤ 1000) : errOf x = 0 := by
  unfold errOf
  rw [btw_t h, btw_t h1, btw_t h2, btw_t h3, btw_t h4]; rfl
set_option maxRecDepth 100000 in
set_option maxHeartbeats 8000000 in
theorem check26 (a : Option Addr) (n cp : Nat) (X : Nat → Fd) (w : World) (H : R5 w a n X) (hn : n ≤ maxLen) :
    Calls Try.prog 26 #[.slice a n cp] w fun e w' => e = .returned (.int .i64 (chk n X)) ∧ Below w.heap.size w w' := by
  have HH := Lib.hid H
  clear H
  have hn2 := hn
  unfold maxLen at hn2
  by_cases h4 : 400 < n
  · go_enter Try.func26, Try.ntmps26
    go_wp2
    go_ret
    exact ⟨ret_int (show (2 : Int) = chk n X by unfold chk; rw [if_pos h4]), Below.refl _ _⟩
  · have hc : chk n X = firstErr X n := by unfold chk; rw [if_neg h4]
    rw [hc]
    clear hc
    go_enter Try.func26, Try.ntmps26
    go_wp2
    go_loopw [3] (fun i wr => ∃ k : Nat, k ≤ n ∧ i = .int .i64 k ∧ firstErr X k = 0 ∧ Below w.heap.size w wr) (fun i _ => n - (intOf i).toNat)
    case atStart => exact ⟨0, Nat.zero_le _, rfl, rfl, Below.refl _ _⟩
    case round =>
      obtain ⟨k, hk, rfl, hf, hB⟩ := hrel
      have HB := Lib.hid hB
      have HF := Lib.hid hf
      clear hf
      by_cases hlt : k < n
      · obtain ⟨b, m, h1, h2⟩ := HH.out.mono hB
        obtain rfl := h1 (by omega)
        obtain ⟨c0, c1, c2, c3, c4⟩ := h2 k hlt
        have hb1 := lt_of_cell c0
        have hsz := hB.size
        clear h1 h2 hB
        have i1 : (0 : Int) ≤ (k : Int) := by omega
        have i2 : (k : Int) < (n : Int) := by omega
        have FA := Lib.hid fun (z : Int) (h : errOf (X k) = z) (h2 : z ≠ 0) => (show firstErr X n = z from (firstErr_at hlt HF.out (by rw [h]; exact h2)).trans h)
        have FN := Lib.hid fun (h : errOf (X k) = 0) => firstErr_next HF.out h
        have E64 := Lib.hid fun h => errOf_64 (x := X k) h
        have E63 := Lib.hid fun h h1 => errOf_63 (x := X k) h h1
        have E3 := Lib.hid fun h h1 h2 => errOf_3 (x := X k) h h1 h2
        have E0 := Lib.hid fun h h1 h2 h3 h4 => errOf_0 (x := X k) h h1 h2 h3 h4
        generalize errOf (X k) = E at *
        generalize (X k).t = x0 at *
        generalize (X k).c = x1 at *
        generalize (X k).f = x2 at *
        generalize (X k).g = x3 at *
        generalize (X k).n = x4 at *
        rcases (show x0 < 0 ∨ 0 ≤ x0 by omega) with d00 | d00
        · go_wp2
          go_ret
          exact ⟨ret_int (FA.out 64 (E64.out (by omega)) (by decide)).symm, HB.out.alloc hsz _⟩
        rcases (show 4 ≤ x0 ∨ x0 < 4 by omega) with d01 | d01
        · go_wp2
          go_ret
          exact ⟨ret_int (FA.out 64 (E64.out (by omega)) (by decide)).symm, HB.out.alloc hsz _⟩
        rcases (show x1 < 0 ∨ 0 ≤ x1 by omega) with d10 | d10
        · go_wp2
          go_ret
          exact ⟨ret_int (FA.out 63 (E63.out (by omega) (by omega)) (by decide)).symm, HB.out.alloc hsz _⟩
        rcases (show 3 ≤ x1 ∨ x1 < 3 by omega) with d11 | d11
        · go_wp2
          go_ret
          exact ⟨ret_int (FA.out 63 (E63.out (by omega) (by omega)) (by decide)).symm, HB.out.alloc hsz _⟩
        rcases (show x2 < 0 ∨ 0 ≤ x2 by omega) with d20 | d20
        · go_wp2
          go_ret
          exact ⟨ret_int (FA.out 3 (E3.out (by omega) (by omega) (by omega)) (by decide)).symm, HB.out.alloc hsz _⟩
        rcases (show 1048576 < x2 ∨ x2 ≤ 1048576 by omega) with d21 | d21
        · go_wp2
          go_ret
          exact ⟨ret_int (FA.out 3 (E3.out (by omega) (by omega) (by omega)) (by decide)).symm, HB.out.alloc hsz _⟩
        rcases (show x3 < 0 ∨ 0 ≤ x3 by omega) with d30 | d30
        · go_wp2
          go_ret
          exact ⟨ret_int (FA.out 3 (E3.out (by omega) (by omega) (by omega)) (by decide)).symm, HB.out.alloc hsz _⟩
        rcases (show 127 < x3 ∨ x3 ≤ 127 by omega) with d31 | d31
        · go_wp2
          go_ret
          exact ⟨ret_int (FA.out 3 (E3.out (by omega) (by omega) (by omega)) (by decide)).symm, HB.out.alloc hsz _⟩
        rcases (show x4 < 0 ∨ 0 ≤ x4 by omega) with d40 | d40
        · go_wp2
          go_ret
          exact ⟨ret_int (FA.out 3 (E3.out (by omega) (by omega) (by omega)) (by decide)).symm, HB.out.alloc hsz _⟩
        rcases (show 1000 < x4 ∨ x4 ≤ 1000 by omega) with d41 | d41
        · go_wp2
          go_ret
          exact ⟨ret_int (FA.out 3 (E3.out (by omega) (by omega) (by omega)) (by decide)).symm, HB.out.alloc hsz _⟩
        go_wp2
        exact ⟨⟨k + 1, by omega, by go_num, FN.out (E0.out (by omega) (by omega) (by omega) (by omega) (by omega)), HB.out.alloc hsz _⟩, by simp only [intOf]; omega⟩
      · obtain rfl : k = n := by omega
        clear hB
        go_wp2
        go_ret
        exact ⟨ret_int HF.out.symm, HB.out⟩
end Go.Proofs.Ytfkbcjpiijcbfaa
