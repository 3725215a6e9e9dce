/- Layer 34: the checks of demands. -/
import Derived.Test.YtdcogbokcbpnnaaD0
import Derived.Test.YtdcogbokcbpnnaaAny
namespace Go.Proofs.Ytdcogbokcbpnnaa
set_option linter.unusedVariables false
set_option linter.unusedSimpArgs false
open Go.RowKit Go.Sort
attribute [local go_sem] gcell
def bw (n m : Int) : Bool := decide (0 ≤ n ∧ n ≤ m)
theorem bw_or (n m : Int) : bw n m = false ∨ bw n m = true := by cases bw n m <;> simp
theorem between32 (n m : Int) (w : World) : Calls Try.prog 32 #[.int .i64 n, .int .i64 m] w fun e w' => e = .returned (.bool (bw n m)) ∧ w' = w := by
  rcases (show n < 0 ∨ (0 ≤ n ∧ m < n) ∨ (0 ≤ n ∧ n ≤ m) by omega) with h | ⟨h, h2⟩ | ⟨h, h2⟩
  all_goals
    go_enter Try.func32, Try.ntmps32
    go_wp2
    go_ret
    exact ⟨ret_bool (by unfold bw; first | (symm; apply decide_eq_false; omega) | (symm; apply decide_eq_true; omega) | (simp; omega)), rfl⟩
/-- Is a demand right? -/
def dOk (d : Dm) : Bool := bw d.q 15 && bw d.ag 12 && bw d.by' 1048576 && bw d.mn 67108864 && bw d.ow 768 && bw d.dl 2097152 && bw d.cl 15
theorem dOk_true {d : Dm} : dOk d = true ↔ (0 ≤ d.q ∧ d.q ≤ 15) ∧ (0 ≤ d.ag ∧ d.ag ≤ 12) ∧ (0 ≤ d.by' ∧ d.by' ≤ 1048576) ∧ (0 ≤ d.mn ∧ d.mn ≤ 67108864) ∧ (0 ≤ d.ow ∧ d.ow ≤ 768) ∧ (0 ≤ d.dl ∧ d.dl ≤ 2097152) ∧ (0 ≤ d.cl ∧ d.cl ≤ 15) := by
  unfold dOk bw
  simp only [Bool.and_eq_true, decide_eq_true_eq]
  constructor
  · rintro ⟨⟨⟨⟨⟨⟨h1, h2⟩, h3⟩, h4⟩, h5⟩, h6⟩, h7⟩
    exact ⟨h1, h2, h3, h4, h5, h6, h7⟩
  · rintro ⟨h1, h2, h3, h4, h5, h6, h7⟩
    exact ⟨⟨⟨⟨⟨⟨h1, h2⟩, h3⟩, h4⟩, h5⟩, h6⟩, h7⟩
theorem dOk_false {d : Dm} (h : ¬ ((0 ≤ d.q ∧ d.q ≤ 15) ∧ (0 ≤ d.ag ∧ d.ag ≤ 12) ∧ (0 ≤ d.by' ∧ d.by' ≤ 1048576) ∧ (0 ≤ d.mn ∧ d.mn ≤ 67108864) ∧ (0 ≤ d.ow ∧ d.ow ≤ 768) ∧ (0 ≤ d.dl ∧ d.dl ≤ 2097152) ∧ (0 ≤ d.cl ∧ d.cl ≤ 15))) : dOk d = false := by
  cases e : dOk d
  · rfl
  · exact absurd (dOk_true.1 e) h
def badD (L : Nat → Dm) (k : Nat) : Bool := !dOk (L k)
def chkE (n : Nat) (L : Nat → Dm) (R : Int) : Int := if R < 0 ∨ 12 < R then 3 else if 4 < n then 2 else if anyB (badD L) n = true then 3 else 0
theorem bad_yes {L : Nat → Dm} {n k : Nat} {R : Int} (h0 : ¬ (R < 0 ∨ 12 < R)) (h1 : ¬ 4 < n) (hk : k < n) (h : dOk (L k) = false) : 3 = chkE n L R := by
  unfold chkE
  rw [if_neg h0, if_neg h1, if_pos (anyB_true hk (by unfold badD; rw [h]; rfl))]
theorem bad_next {L : Nat → Dm} {k : Nat} (hf : anyB (badD L) k = false) (h : dOk (L k) = true) : anyB (badD L) (k + 1) = false := by
  unfold anyB
  rw [hf]
  unfold badD
  rw [h]
  rfl
set_option maxRecDepth 100000 in
set_option maxHeartbeats 8000000 in
theorem check22 (a : Option Addr) (n cp : Nat) (L : Nat → Dm) (R : Int) (w : World) (H : RD w a n L) (hn : n ≤ maxLen) :
    Calls Try.prog 22 #[.slice a n cp, .int .i64 R] w fun e w' => e = .returned (.int .i64 (chkE n L R)) ∧ Below w.heap.size w w' := by
  have HH := Lib.hid H
  clear H
  have hn2 := hn
  unfold maxLen at hn2
  have HCE := Lib.hid (show chkE n L R = if R < 0 ∨ 12 < R then 3 else if 4 < n then 2 else if anyB (badD L) n = true then 3 else 0 from rfl)
  have HBY := Lib.hid fun k => @bad_yes L n k R
  generalize chkE n L R = CE at *
  rcases (show R < 0 ∨ 0 ≤ R by omega) with r0 | r0
  · have b0 : bw R 12 = false := by unfold bw; apply decide_eq_false; omega
    go_enter Try.func22, Try.ntmps22
    go_wp2_with (go_at_call 32; refine (between32 _ _ _).mono ?_; rintro e w' ⟨rfl, hw⟩; obtain rfl := hw.symm)
    go_ret
    exact ⟨ret_int (by rw [HCE.out, if_pos (.inl r0)]), Below.refl _ _⟩
  rcases (show 12 < R ∨ R ≤ 12 by omega) with r1 | r1
  · have b0 : bw R 12 = false := by unfold bw; apply decide_eq_false; omega
    go_enter Try.func22, Try.ntmps22
    go_wp2_with (go_at_call 32; refine (between32 _ _ _).mono ?_; rintro e w' ⟨rfl, hw⟩; obtain rfl := hw.symm)
    go_ret
    exact ⟨ret_int (by rw [HCE.out, if_pos (.inr r1)]), Below.refl _ _⟩
  have b0 : bw R 12 = true := by unfold bw; apply decide_eq_true; omega
  by_cases h4 : 4 < n
  · go_enter Try.func22, Try.ntmps22
    go_wp2_with (go_at_call 32; refine (between32 _ _ _).mono ?_; rintro e w' ⟨rfl, hw⟩; obtain rfl := hw.symm)
    go_ret
    exact ⟨ret_int (by rw [HCE.out, if_neg (by omega), if_pos h4]), Below.refl _ _⟩
  · have HR := Lib.hid (show ¬ (R < 0 ∨ 12 < R) by omega)
    have H4 := Lib.hid h4
    go_enter Try.func22, Try.ntmps22
    go_wp2_with (go_at_call 32; refine (between32 _ _ _).mono ?_; rintro e w' ⟨rfl, hw⟩; obtain rfl := hw.symm)
    go_loopw [15] (fun i wr => ∃ k : Nat, k ≤ n ∧ i = .int .i64 k ∧ anyB (badD L) k = false ∧ Below w.heap.size w wr) (fun i _ => n - (intOf i).toNat)
    case atStart => exact ⟨0, Nat.zero_le _, rfl, rfl, Below.refl _ _⟩
    case round =>
      obtain ⟨k, hk, rfl, hf, hB⟩ := hrel
      have HB := Lib.hid hB
      have HF := Lib.hid hf
      clear hf
      by_cases hlt : k < n
      · obtain ⟨b, m, h1, h2⟩ := HH.out.mono hB
        obtain rfl := h1 (by omega)
        obtain ⟨c0, c1, c2, c3, c4, c5, c6⟩ := h2 k hlt
        have hb1 := lt_of_cell c0
        have hsz := hB.size
        clear h1 h2 hB
        have i1 : (0 : Int) ≤ (k : Int) := by omega
        have i2 : (k : Int) < (n : Int) := by omega
        have FA := Lib.hid (HBY.out k HR.out H4.out hlt)
        have FN := Lib.hid fun (h : dOk (L k) = true) => bad_next HF.out h
        have DF := Lib.hid (@dOk_false (L k))
        have DT := Lib.hid (@dOk_true (L k))
        generalize dOk (L k) = ok at *
        generalize (L k).q = x0 at *
        generalize (L k).ag = x1 at *
        generalize (L k).by' = x2 at *
        generalize (L k).mn = x3 at *
        generalize (L k).ow = x4 at *
        generalize (L k).dl = x5 at *
        generalize (L k).cl = x6 at *
        rcases bw_or x0 15 with d0 | d0
        · have HD := Lib.hid (of_decide_eq_false d0)
          go_wp2_with (go_at_call 32; refine (between32 _ _ _).mono ?_; rintro e w' ⟨rfl, hw⟩; obtain rfl := hw.symm)
          go_ret
          exact ⟨ret_int (FA.out (DF.out (by have := HD.out; omega))), HB.out.alloc hsz _⟩
        have e0 := Lib.hid (of_decide_eq_true d0)
        rcases bw_or x1 12 with d1 | d1
        · have HD := Lib.hid (of_decide_eq_false d1)
          go_wp2_with (go_at_call 32; refine (between32 _ _ _).mono ?_; rintro e w' ⟨rfl, hw⟩; obtain rfl := hw.symm)
          go_ret
          exact ⟨ret_int (FA.out (DF.out (by have := HD.out; omega))), HB.out.alloc hsz _⟩
        have e1 := Lib.hid (of_decide_eq_true d1)
        rcases bw_or x2 1048576 with d2 | d2
        · have HD := Lib.hid (of_decide_eq_false d2)
          go_wp2_with (go_at_call 32; refine (between32 _ _ _).mono ?_; rintro e w' ⟨rfl, hw⟩; obtain rfl := hw.symm)
          go_ret
          exact ⟨ret_int (FA.out (DF.out (by have := HD.out; omega))), HB.out.alloc hsz _⟩
        have e2 := Lib.hid (of_decide_eq_true d2)
        rcases bw_or x3 67108864 with d3 | d3
        · have HD := Lib.hid (of_decide_eq_false d3)
          go_wp2_with (go_at_call 32; refine (between32 _ _ _).mono ?_; rintro e w' ⟨rfl, hw⟩; obtain rfl := hw.symm)
          go_ret
          exact ⟨ret_int (FA.out (DF.out (by have := HD.out; omega))), HB.out.alloc hsz _⟩
        have e3 := Lib.hid (of_decide_eq_true d3)
        rcases bw_or x4 768 with d4 | d4
        · have HD := Lib.hid (of_decide_eq_false d4)
          go_wp2_with (go_at_call 32; refine (between32 _ _ _).mono ?_; rintro e w' ⟨rfl, hw⟩; obtain rfl := hw.symm)
          go_ret
          exact ⟨ret_int (FA.out (DF.out (by have := HD.out; omega))), HB.out.alloc hsz _⟩
        have e4 := Lib.hid (of_decide_eq_true d4)
        rcases bw_or x5 2097152 with d5 | d5
        · have HD := Lib.hid (of_decide_eq_false d5)
          go_wp2_with (go_at_call 32; refine (between32 _ _ _).mono ?_; rintro e w' ⟨rfl, hw⟩; obtain rfl := hw.symm)
          go_ret
          exact ⟨ret_int (FA.out (DF.out (by have := HD.out; omega))), HB.out.alloc hsz _⟩
        have e5 := Lib.hid (of_decide_eq_true d5)
        rcases bw_or x6 15 with d6 | d6
        · have HD := Lib.hid (of_decide_eq_false d6)
          go_wp2_with (go_at_call 32; refine (between32 _ _ _).mono ?_; rintro e w' ⟨rfl, hw⟩; obtain rfl := hw.symm)
          go_ret
          exact ⟨ret_int (FA.out (DF.out (by have := HD.out; omega))), HB.out.alloc hsz _⟩
        have e6 := Lib.hid (of_decide_eq_true d6)
        have HOK := Lib.hid (FN.out (DT.out.2 ⟨e0.out, e1.out, e2.out, e3.out, e4.out, e5.out, e6.out⟩))
        go_wp2_with (go_at_call 32; refine (between32 _ _ _).mono ?_; rintro e w' ⟨rfl, hw⟩; obtain rfl := hw.symm)
        go_roundw
        case rel => exact ⟨k + 1, by omega, by go_num, HOK.out, HB.out.alloc hsz _⟩
        case measure => simp [intOf]; omega
      · obtain rfl : k = n := by omega
        go_wp2_with (go_at_call 32; refine (between32 _ _ _).mono ?_; rintro e w' ⟨rfl, hw⟩; obtain rfl := hw.symm)
        go_ret
        exact ⟨ret_int (by rw [HCE.out, if_neg HR.out, if_neg H4.out, HF.out]; rfl), HB.out⟩
end Go.Proofs.Ytdcogbokcbpnnaa
