/- Layer 34: the check of the reference. -/
import Derived.Test.YtdcogbokcbpnnaaD8
namespace Go.Proofs.Ytdcogbokcbpnnaa
set_option linter.unusedVariables false
set_option linter.unusedSimpArgs false
open Go.RowKit Go.Sort
attribute [local go_sem] gcell
set_option maxRecDepth 100000 in
set_option maxHeartbeats 8000000 in
theorem check23 (a : Option Addr) (n cp : Nat) (L : Nat → Dm) (R : Int) (w : World) (H : RD w a n L) (hn : n ≤ maxLen) :
    Calls Try.prog 23 #[.slice a n cp, .int .i64 R] w fun e w' => e = .returned (.int .i64 (chkE n L R)) ∧ Below w.heap.size w w' := by
  have HH := Lib.hid H
  clear H
  have hn2 := hn
  unfold maxLen at hn2
  have HCE := Lib.hid (show chkE n L R = if R < 0 ∨ 12 < R then 3 else if 4 < n then 2 else if anyB (badD L) n = true then 3 else 0 from rfl)
  have HBY := Lib.hid fun k => @bad_yes L n k R
  generalize chkE n L R = CE at *
  rcases (show R < 0 ∨ 0 ≤ R by omega) with r0 | r0
  · skip
    go_enter Try.func23, Try.ntmps23
    go_wp2
    go_ret
    exact ⟨ret_int (by rw [HCE.out, if_pos (.inl r0)]), Below.refl _ _⟩
  rcases (show 12 < R ∨ R ≤ 12 by omega) with r1 | r1
  · skip
    go_enter Try.func23, Try.ntmps23
    go_wp2
    go_ret
    exact ⟨ret_int (by rw [HCE.out, if_pos (.inr r1)]), Below.refl _ _⟩
  skip
  by_cases h4 : 4 < n
  · go_enter Try.func23, Try.ntmps23
    go_wp2
    go_ret
    exact ⟨ret_int (by rw [HCE.out, if_neg (by omega), if_pos h4]), Below.refl _ _⟩
  · have HR := Lib.hid (show ¬ (R < 0 ∨ 12 < R) by omega)
    have H4 := Lib.hid h4
    go_enter Try.func23, Try.ntmps23
    go_wp2
    go_loopw [5] (fun i wr => ∃ k : Nat, k ≤ n ∧ i = .int .i64 k ∧ anyB (badD L) k = false ∧ Below w.heap.size w wr) (fun i _ => n - (intOf i).toNat)
    case atStart => exact ⟨0, Nat.zero_le _, rfl, rfl, Below.refl _ _⟩
    case round =>
      obtain ⟨k, hk, rfl, hf, hB⟩ := hrel
      have HB := Lib.hid hB
      have HF := Lib.hid hf
      clear hf
      by_cases hlt : k < n
      · obtain ⟨b, m, h1, h2⟩ := HH.out.mono hB
        obtain rfl := h1 (by omega)
        obtain ⟨c0, c1, c2, c3, c4, c5, c6⟩ := h2 k hlt
        have hb1 := lt_of_cell c0
        have hsz := hB.size
        clear h1 h2 hB
        have i1 : (0 : Int) ≤ (k : Int) := by omega
        have i2 : (k : Int) < (n : Int) := by omega
        have FA := Lib.hid (HBY.out k HR.out H4.out hlt)
        have FN := Lib.hid fun (h : dOk (L k) = true) => bad_next HF.out h
        have DF := Lib.hid (@dOk_false (L k))
        have DT := Lib.hid (@dOk_true (L k))
        generalize dOk (L k) = ok at *
        generalize (L k).q = x0 at *
        generalize (L k).ag = x1 at *
        generalize (L k).by' = x2 at *
        generalize (L k).mn = x3 at *
        generalize (L k).ow = x4 at *
        generalize (L k).dl = x5 at *
        generalize (L k).cl = x6 at *
        rcases (show x0 < 0 ∨ 0 ≤ x0 by omega) with d0 | d0
        · go_wp2
          go_ret
          exact ⟨ret_int (FA.out (DF.out (by omega))), HB.out.alloc hsz _⟩
        rcases (show 15 < x0 ∨ x0 ≤ 15 by omega) with e0 | e0
        · go_wp2
          go_ret
          exact ⟨ret_int (FA.out (DF.out (by omega))), HB.out.alloc hsz _⟩
        rcases (show x1 < 0 ∨ 0 ≤ x1 by omega) with d1 | d1
        · go_wp2
          go_ret
          exact ⟨ret_int (FA.out (DF.out (by omega))), HB.out.alloc hsz _⟩
        rcases (show 12 < x1 ∨ x1 ≤ 12 by omega) with e1 | e1
        · go_wp2
          go_ret
          exact ⟨ret_int (FA.out (DF.out (by omega))), HB.out.alloc hsz _⟩
        rcases (show x2 < 0 ∨ 0 ≤ x2 by omega) with d2 | d2
        · go_wp2
          go_ret
          exact ⟨ret_int (FA.out (DF.out (by omega))), HB.out.alloc hsz _⟩
        rcases (show 1048576 < x2 ∨ x2 ≤ 1048576 by omega) with e2 | e2
        · go_wp2
          go_ret
          exact ⟨ret_int (FA.out (DF.out (by omega))), HB.out.alloc hsz _⟩
        rcases (show x3 < 0 ∨ 0 ≤ x3 by omega) with d3 | d3
        · go_wp2
          go_ret
          exact ⟨ret_int (FA.out (DF.out (by omega))), HB.out.alloc hsz _⟩
        rcases (show 67108864 < x3 ∨ x3 ≤ 67108864 by omega) with e3 | e3
        · go_wp2
          go_ret
          exact ⟨ret_int (FA.out (DF.out (by omega))), HB.out.alloc hsz _⟩
        rcases (show x4 < 0 ∨ 0 ≤ x4 by omega) with d4 | d4
        · go_wp2
          go_ret
          exact ⟨ret_int (FA.out (DF.out (by omega))), HB.out.alloc hsz _⟩
        rcases (show 768 < x4 ∨ x4 ≤ 768 by omega) with e4 | e4
        · go_wp2
          go_ret
          exact ⟨ret_int (FA.out (DF.out (by omega))), HB.out.alloc hsz _⟩
        rcases (show x5 < 0 ∨ 0 ≤ x5 by omega) with d5 | d5
        · go_wp2
          go_ret
          exact ⟨ret_int (FA.out (DF.out (by omega))), HB.out.alloc hsz _⟩
        rcases (show 2097152 < x5 ∨ x5 ≤ 2097152 by omega) with e5 | e5
        · go_wp2
          go_ret
          exact ⟨ret_int (FA.out (DF.out (by omega))), HB.out.alloc hsz _⟩
        rcases (show x6 < 0 ∨ 0 ≤ x6 by omega) with d6 | d6
        · go_wp2
          go_ret
          exact ⟨ret_int (FA.out (DF.out (by omega))), HB.out.alloc hsz _⟩
        rcases (show 15 < x6 ∨ x6 ≤ 15 by omega) with e6 | e6
        · go_wp2
          go_ret
          exact ⟨ret_int (FA.out (DF.out (by omega))), HB.out.alloc hsz _⟩
        have HOK := Lib.hid (FN.out (DT.out.2 ⟨⟨d0, e0⟩, ⟨d1, e1⟩, ⟨d2, e2⟩, ⟨d3, e3⟩, ⟨d4, e4⟩, ⟨d5, e5⟩, ⟨d6, e6⟩⟩))
        go_wp2
        go_roundw
        case rel => exact ⟨k + 1, by omega, by go_num, HOK.out, HB.out.alloc hsz _⟩
        case measure => simp [intOf]; omega
      · obtain rfl : k = n := by omega
        go_wp2
        go_ret
        exact ⟨ret_int (by rw [HCE.out, if_neg HR.out, if_neg H4.out, HF.out]; rfl), HB.out⟩
end Go.Proofs.Ytdcogbokcbpnnaa
