/- Layer 34: counts, and a check of the senses. -/
import Derived.Test.YtdcogbokcbpnnaaD9
namespace Go.Proofs.Ytdcogbokcbpnnaa
set_option linter.unusedVariables false
set_option linter.unusedSimpArgs false
open Go.RowKit Go.Sort
attribute [local go_sem] gcell
/-- Whether two rows are the same. -/
def same (n m : Nat) (xs ys : Nat → Int) : Bool := decide (n = m) && !anyB (fun k => decide (xs k ≠ ys k)) n
theorem same_true {n m : Nat} {xs ys : Nat → Int} (h : n = m) (h2 : ∀ k, k < n → xs k = ys k) : same n m xs ys = true := by
  unfold same
  rw [anyB_false.2 (fun k hk => by simp [h2 k hk])]
  simp [h]


theorem same12 (a d : Option Addr) (n c m l : Nat) (xs ys : Nat → Int) (w : World) (R : Row w a n xs) (S : Row w d m ys) (hn : n ≤ maxLen) (hm : m ≤ maxLen) :
    Calls Try.prog 12 #[.slice a n c, .slice d m l] w fun e w' => e = .returned (.bool (same n m xs ys)) ∧ Below w.heap.size w w' := by
  obtain ⟨b, o, ha, hx⟩ := R
  obtain ⟨b2, o2, hd, hy⟩ := S
  have HA := Lib.hid ha
  have HX := Lib.hid hx
  have HD := Lib.hid hd
  have HY := Lib.hid hy
  clear ha hx hd hy
  have hn2 := hn
  unfold maxLen at hn2
  have hm2 := hm
  unfold maxLen at hm2
  by_cases hnm : n = m
  · subst hnm
    go_enter Try.func12, Try.ntmps12
    go_wp2
    go_loopw [5] (fun i wr => ∃ k : Nat, k ≤ n ∧ i = .int .i64 k ∧ anyB (fun k => decide (xs k ≠ ys k)) k = false ∧ Below w.heap.size w wr) (fun i _ => n - (intOf i).toNat)
    case atStart => exact ⟨0, Nat.zero_le _, rfl, rfl, Below.refl _ _⟩
    case round =>
      obtain ⟨k, hk, rfl, hf, hB⟩ := hrel
      have HB := Lib.hid hB
      have HF := Lib.hid hf
      clear hf
      by_cases hlt : k < n
      · have hxk := HX.out k hlt
        have hxw := up hB hxk
        have hyk := HY.out k hlt
        have hyw := up hB hyk
        have hak := HA.out (by omega)
        have hdk := HD.out (by omega)
        subst hak hdk
        by_cases h1 : xs k = ys k
        · have hq : (xs k == ys k) = true := by simp [h1]
          have hq2 : (xs k != ys k) = false := by simp [h1]
          go_wp2_with fail
          go_quiet (fail)
          go_wp2
          go_roundw
          case rel => exact ⟨k + 1, by omega, by go_num, by unfold anyB; rw [HF.out]; simp [h1], ⟨HB.out.os, HB.out.tape, HB.out.output, HB.out.size, HB.out.block⟩⟩
          case measure => simp [intOf]; omega
        · have hq : (xs k == ys k) = false := by simp [h1]
          have hq2 : (xs k != ys k) = true := by simp [h1]
          go_wp2_with fail
          go_quiet (fail)
          go_wp2
          go_ret
          refine ⟨ret_bool ?_, ⟨HB.out.os, HB.out.tape, HB.out.output, HB.out.size, HB.out.block⟩⟩
          unfold same
          rw [anyB_true hlt (by simp [h1])]
          simp
      · have : k = n := by omega
        subst this
        go_wp2
        go_ret
        refine ⟨ret_bool ?_, HB.out⟩
        unfold same
        rw [HF.out]
        simp
  · have h1 : ((n : Int) == (m : Int)) = false := beq_eq_false_iff_ne.2 (by omega)
    have h2 : ((n : Int) != (m : Int)) = true := by rw [bne_iff_ne]; omega
    go_enter Try.func12, Try.ntmps12
    go_wp2
    go_ret
    refine ⟨ret_bool ?_, Below.refl _ _⟩
    unfold same
    simp [hnm]




def cnt (xs : Nat → Int) (k : Int) : Nat → Int
  | 0 => 0
  | m + 1 => cnt xs k m + if xs m = k then 1 else 0
theorem cnt_bd (xs : Nat → Int) (k : Int) : ∀ m : Nat, 0 ≤ cnt xs k m ∧ cnt xs k m ≤ m
  | 0 => ⟨Int.le_refl _, Int.le_refl _⟩
  | m + 1 => by
    have := cnt_bd xs k m
    unfold cnt
    split <;> omega
def cntN (n : Int) : Nat := if 0 ≤ n ∧ n ≤ 4 then n.toNat else 0
def CntR (m : Nat) (xs : Nat → Int) (n : Int) (w : World) (e : Ending) (w' : World) : Prop :=
  ∃ a, e = .returned (.slice a (cntN n) (cntN n)) ∧ Row w' a (cntN n) (fun k => cnt xs k m) ∧ Below w.heap.size w w'
set_option maxRecDepth 100000 in
set_option maxHeartbeats 4000000 in
theorem counts13 (a : Option Addr) (m c : Nat) (xs : Nat → Int) (n : Int) (w : World) (H : Row w a m xs) (hm : m ≤ 1000) :
    Calls Try.prog 13 #[.slice a m c, .int .i64 n] w (CntR m xs n w) := by
  have HH := Lib.hid H
  clear H
  rcases (show n < 0 ∨ (0 ≤ n ∧ 4 < n) ∨ (0 ≤ n ∧ n ≤ 4) by omega) with h | ⟨h, h2⟩ | ⟨h, h2⟩
  · go_enter Try.func13, Try.ntmps13
    go_wp2
    go_ret
    have e : cntN n = 0 := by unfold cntN; rw [if_neg (by omega)]
    exact ⟨none, by rw [e]; rfl, by rw [e]; exact Row.zero _ _ _, Below.refl _ _⟩
  · go_enter Try.func13, Try.ntmps13
    go_wp2
    go_ret
    have e : cntN n = 0 := by unfold cntN; rw [if_neg (by omega)]
    exact ⟨none, by rw [e]; rfl, by rw [e]; exact Row.zero _ _ _, Below.refl _ _⟩
  · obtain ⟨N, rfl⟩ := Int.eq_ofNat_of_zero_le h
    have HN := Lib.hid (show cntN (N : Int) = N by unfold cntN; rw [if_pos ⟨h, h2⟩]; omega)
    obtain ⟨i0, hi, hz0, hz1, hz2⟩ := info_split intInfo
    go_enter Try.func13, Try.ntmps13
    go_wp2_with (refine wpList_make_full _ rfl (.tmp 14) (.tmp 14) 23 rfl w.heap.size 3 i0 (.int .i64 0) 1 Try.underlying23 hi hz0 hz1 .i64 .i64 (N : Int) (N : Int) N rfl rfl rfl rfl ?c1 ?c2 (Nat.le_refl _) ?_)
    case c1 => first | omega | (rw [hz2]; omega)
    case c2 => unfold maxLen; omega
    intro w1 hown hgrow
    have HV := Lib.hid ((VAt.made hown).congr fun k _ => show iv (fun k => cnt xs k 0) k = Value.int .i64 0 from rfl)
    have HB := Lib.hid (below_of_grown hgrow)
    clear hown hgrow hz1 hz2 hz0 hi
    generalize hG : w.heap.size = G at *
    have HG := Lib.hid hG
    clear hG
    go_wp2_with fail
    go_loopw [7, 18] (fun s7 s18 wr => ∃ q : Nat, s18 = .int .i64 q ∧ q ≤ m ∧ Below G w wr ∧ VAt wr G N (iv fun k => cnt xs k q)) (fun _ s18 _ => m - (intOf s18).toNat)
    case atStart => exact ⟨0, rfl, Nat.zero_le _, HB.out, HV.out⟩
    case round =>
      clear HB HV
      obtain ⟨q, rfl, hq, hB, hV⟩ := hrel
      have HB := Lib.hid hB
      have HV := Lib.hid hV
      by_cases hlt : q < m
      · obtain ⟨b, o, h1, h3⟩ := HH.out
        have hx := (hB.cell (p := ⟨b, o + q, none⟩) (by rw [← HG.out]; exact lt_of_cell (h3 q hlt))).trans (h3 q hlt)
        obtain rfl := h1 (by omega)
        clear h1 h3
        have hlt' : (q : Int) < (m : Int) := by omega
        have q0 : (0 : Int) ≤ (q : Int) := by omega
        have HS := Lib.hid fun k : Int => show cnt xs k (q + 1) = cnt xs k q + if xs q = k then 1 else 0 from rfl
        generalize xs q = x at *
        rcases (show x < 0 ∨ (0 ≤ x ∧ (N : Int) ≤ x) ∨ (0 ≤ x ∧ x < N) by omega) with hx0 | ⟨hx0, hx1⟩ | ⟨hx0, hx1⟩
        · have HV2 := Lib.hid (hV.congr fun k hk => show iv (fun k => cnt xs k (q + 1)) k = iv _ k from congrArg (Value.int .i64) (show cnt xs (k : Int) (q + 1) = cnt xs (k : Int) q by rw [HS.out, if_neg (by omega)]; simp))
          clear hB hV
          go_wp2
          go_roundw
          case rel => exact ⟨q + 1, by go_num, by omega, HB.out, HV2.out⟩
          case measure => simp [intOf]; omega
        · have HV2 := Lib.hid (hV.congr fun k hk => show iv (fun k => cnt xs k (q + 1)) k = iv _ k from congrArg (Value.int .i64) (show cnt xs (k : Int) (q + 1) = cnt xs (k : Int) q by rw [HS.out, if_neg (by omega)]; simp))
          clear hB hV
          go_wp2
          go_roundw
          case rel => exact ⟨q + 1, by go_num, by omega, HB.out, HV2.out⟩
          case measure => simp [intOf]; omega
        · obtain ⟨k, rfl⟩ := Int.eq_ofNat_of_zero_le hx0
          have hk : k < N := by omega
          have d0 := hV.c k hk
          have fd := hV.fr k
          unfold iv at d0
          simp only at d0
          have cb := cnt_bd xs k q
          have HV2 := Lib.hid ((hV.setI k (cnt xs k q + 1)).congr fun j hj => show iv (fun k => cnt xs k (q + 1)) j = iv _ j from congrArg (Value.int .i64) (show cnt xs (j : Int) (q + 1) = if j = k then cnt xs (k : Int) q + 1 else cnt xs (j : Int) q by
            rw [HS.out]
            by_cases e : j = k
            · subst e; rw [if_pos rfl, if_pos rfl]
            · rw [if_neg (by omega), if_neg e, Int.add_zero]))
          have HB2 := Lib.hid (hB.setCell (p := ⟨G, k, none⟩) (Nat.le_refl _) (.int .i64 (cnt xs k q + 1)))
          clear hB hV HB HV
          generalize cnt xs k q = cv at *
          go_wp2
          go_roundw
          case rel => exact ⟨q + 1, by go_num, by omega, HB2.out, HV2.out⟩
          case measure => simp [intOf]; omega
      · obtain rfl : q = m := by omega
        clear hB hV
        go_wp2
        go_ret
        exact ⟨some ⟨G, 0, none⟩, by rw [HN.out]; rfl, by rw [HN.out]; exact HV.out.row, by rw [HG.out]; exact HB.out⟩
set_option maxRecDepth 100000 in
set_option maxHeartbeats 4000000 in
theorem counts14 (a : Option Addr) (m c : Nat) (xs : Nat → Int) (n : Int) (w : World) (H : Row w a m xs) (hm : m ≤ 1000) :
    Calls Try.prog 14 #[.slice a m c, .int .i64 n] w (CntR m xs n w) := by
  have HH := Lib.hid H
  clear H
  rcases (show n < 0 ∨ (0 ≤ n ∧ 4 < n) ∨ (0 ≤ n ∧ n ≤ 4) by omega) with h | ⟨h, h2⟩ | ⟨h, h2⟩
  · go_enter Try.func14, Try.ntmps14
    go_wp2
    go_ret
    have e : cntN n = 0 := by unfold cntN; rw [if_neg (by omega)]
    exact ⟨none, by rw [e]; rfl, by rw [e]; exact Row.zero _ _ _, Below.refl _ _⟩
  · go_enter Try.func14, Try.ntmps14
    go_wp2
    go_ret
    have e : cntN n = 0 := by unfold cntN; rw [if_neg (by omega)]
    exact ⟨none, by rw [e]; rfl, by rw [e]; exact Row.zero _ _ _, Below.refl _ _⟩
  · obtain ⟨N, rfl⟩ := Int.eq_ofNat_of_zero_le h
    have HN := Lib.hid (show cntN (N : Int) = N by unfold cntN; rw [if_pos ⟨h, h2⟩]; omega)
    obtain ⟨i0, hi, hz0, hz1, hz2⟩ := info_split intInfo
    go_enter Try.func14, Try.ntmps14
    go_wp2_with (refine wpList_make_full _ rfl (.tmp 13) (.tmp 13) 23 rfl w.heap.size 3 i0 (.int .i64 0) 1 Try.underlying23 hi hz0 hz1 .i64 .i64 (N : Int) (N : Int) N rfl rfl rfl rfl ?c1 ?c2 (Nat.le_refl _) ?_)
    case c1 => first | omega | (rw [hz2]; omega)
    case c2 => unfold maxLen; omega
    intro w1 hown hgrow
    have HV := Lib.hid ((VAt.made hown).congr fun k _ => show iv (fun k => cnt xs k 0) k = Value.int .i64 0 from rfl)
    have HB := Lib.hid (below_of_grown hgrow)
    clear hown hgrow hz1 hz2 hz0 hi
    generalize hG : w.heap.size = G at *
    have HG := Lib.hid hG
    clear hG
    go_wp2_with fail
    go_loopw [6] (fun s6 wr => ∃ q : Nat, s6 = .int .i64 q ∧ q ≤ m ∧ Below G w wr ∧ VAt wr G N (iv fun k => cnt xs k q)) (fun s6 _ => m - (intOf s6).toNat)
    case atStart => exact ⟨0, rfl, Nat.zero_le _, HB.out, HV.out⟩
    case round =>
      clear HB HV
      obtain ⟨q, rfl, hq, hB, hV⟩ := hrel
      have HB := Lib.hid hB
      have HV := Lib.hid hV
      by_cases hlt : q < m
      · obtain ⟨b, o, h1, h3⟩ := HH.out
        have hx := (hB.cell (p := ⟨b, o + q, none⟩) (by rw [← HG.out]; exact lt_of_cell (h3 q hlt))).trans (h3 q hlt)
        obtain rfl := h1 (by omega)
        clear h1 h3
        have hlt' : (q : Int) < (m : Int) := by omega
        have q0 : (0 : Int) ≤ (q : Int) := by omega
        have HS := Lib.hid fun k : Int => show cnt xs k (q + 1) = cnt xs k q + if xs q = k then 1 else 0 from rfl
        generalize xs q = x at *
        rcases (show x < 0 ∨ (0 ≤ x ∧ (N : Int) ≤ x) ∨ (0 ≤ x ∧ x < N) by omega) with hx0 | ⟨hx0, hx1⟩ | ⟨hx0, hx1⟩
        · have HV2 := Lib.hid (hV.congr fun k hk => show iv (fun k => cnt xs k (q + 1)) k = iv _ k from congrArg (Value.int .i64) (show cnt xs (k : Int) (q + 1) = cnt xs (k : Int) q by rw [HS.out, if_neg (by omega)]; simp))
          clear hB hV
          go_wp2
          go_roundw
          case rel => exact ⟨q + 1, by go_num, by omega, HB.out, HV2.out⟩
          case measure => simp [intOf]; omega
        · have HV2 := Lib.hid (hV.congr fun k hk => show iv (fun k => cnt xs k (q + 1)) k = iv _ k from congrArg (Value.int .i64) (show cnt xs (k : Int) (q + 1) = cnt xs (k : Int) q by rw [HS.out, if_neg (by omega)]; simp))
          clear hB hV
          go_wp2
          go_roundw
          case rel => exact ⟨q + 1, by go_num, by omega, HB.out, HV2.out⟩
          case measure => simp [intOf]; omega
        · obtain ⟨k, rfl⟩ := Int.eq_ofNat_of_zero_le hx0
          have hk : k < N := by omega
          have d0 := hV.c k hk
          have fd := hV.fr k
          unfold iv at d0
          simp only at d0
          have cb := cnt_bd xs k q
          have HV2 := Lib.hid ((hV.setI k (cnt xs k q + 1)).congr fun j hj => show iv (fun k => cnt xs k (q + 1)) j = iv _ j from congrArg (Value.int .i64) (show cnt xs (j : Int) (q + 1) = if j = k then cnt xs (k : Int) q + 1 else cnt xs (j : Int) q by
            rw [HS.out]
            by_cases e : j = k
            · subst e; rw [if_pos rfl, if_pos rfl]
            · rw [if_neg (by omega), if_neg e, Int.add_zero]))
          have HB2 := Lib.hid (hB.setCell (p := ⟨G, k, none⟩) (Nat.le_refl _) (.int .i64 (cnt xs k q + 1)))
          clear hB hV HB HV
          generalize cnt xs k q = cv at *
          go_wp2
          go_roundw
          case rel => exact ⟨q + 1, by go_num, by omega, HB2.out, HV2.out⟩
          case measure => simp [intOf]; omega
      · obtain rfl : q = m := by omega
        clear hB hV
        go_wp2
        go_ret
        exact ⟨some ⟨G, 0, none⟩, by rw [HN.out]; rfl, by rw [HN.out]; exact HV.out.row, by rw [HG.out]; exact HB.out⟩
def awL (k : Nat) : Dm := if k = 0 then ⟨15, 0, 100, 9, 0, 0, 0⟩ else ⟨15, 0, 100, 0, 0, 0, 0⟩
theorem aw1 : chkE 2 awL 3 = 0 := by decide +kernel
theorem aw2 : ((asg 3 awL 2).ow 0, (asg 3 awL 2).ow 1, (asg 3 awL 2).ow 2) = (1, 1, 1) := by decide +kernel
theorem aw3 : (cnt (asg 3 awL 2).ow 0 3, cnt (asg 3 awL 2).ow 1 3) = (0, 3) := by decide +kernel
set_option maxRecDepth 100000 in
set_option maxHeartbeats 4000000 in
theorem awake10 (w : World) : Calls Try.prog 10 #[] w fun e w' => e = .returned (.bool true) ∧ Below w.heap.size w w' := by
  have K := Lib.hid fun (W : World) (b : Nat) (H : RD W (some ⟨b, 0, none⟩) 2 awL) => assign18 (some ⟨b, 0, none⟩) 2 2 awL 3 W H (by unfold maxLen; omega)
  have HE := Lib.hid aw1
  go_enter Try.func10, Try.ntmps10
  go_wp2_with fail
  have hb0 := blk w (.cells #[.int .i64 15, .int .i64 0, .int .i64 100, .int .i64 9, .int .i64 0, .int .i64 0, .int .i64 0, .int .i64 15, .int .i64 0, .int .i64 100, .int .i64 0, .int .i64 0, .int .i64 0, .int .i64 0] 41)
  have r0 : RD (w.alloc (.cells #[.int .i64 15, .int .i64 0, .int .i64 100, .int .i64 9, .int .i64 0, .int .i64 0, .int .i64 0, .int .i64 15, .int .i64 0, .int .i64 100, .int .i64 0, .int .i64 0, .int .i64 0, .int .i64 0] 41)) (some ⟨w.heap.size, 0, none⟩) 2 awL := ⟨w.heap.size, 0, fun _ => rfl, fun k hk => by
    rcases (show k = 0 ∨ k = 1 by omega) with rfl | rfl <;> simp [go_sem, awL]⟩
  have K1 := Lib.hid (K.out _ _ r0)
  have HB0 := Lib.hid hb0
  clear r0 hb0 K
  generalize w.alloc (.cells #[.int .i64 15, .int .i64 0, .int .i64 100, .int .i64 9, .int .i64 0, .int .i64 0, .int .i64 0, .int .i64 15, .int .i64 0, .int .i64 100, .int .i64 0, .int .i64 0, .int .i64 0, .int .i64 0] 41) = w1 at *
  refine K1.out.mono ?_
  rintro e w2 ⟨a, rfl, hrow, hb2⟩
  have HR := Lib.hid (hrow HE.out)
  have HB2 := Lib.hid (bthen' HB0.out hb2)
  rw [HE.out, if_pos rfl]
  clear hrow hb2 K1 HB0
  have e3 : (3 : Int).toNat = 3 := rfl
  rw [e3] at HR ⊢
  clear e3
  have hb3 := blk w2 (.cells #[.int .i64 1, .int .i64 1, .int .i64 1] 3)
  have s3 : Row (w2.alloc (.cells #[.int .i64 1, .int .i64 1, .int .i64 1] 3)) (some ⟨w2.heap.size, 0, none⟩) 3 (fun _ => 1) := ⟨w2.heap.size, 0, fun _ => rfl, fun k hk => by
    rcases (show k = 0 ∨ k = 1 ∨ k = 2 by omega) with rfl | rfl | rfl <;> simp [go_sem]⟩
  have K2 := Lib.hid (same12 a (some ⟨w2.heap.size, 0, none⟩) 3 3 3 3 _ _ _ (HR.out.mono hb3) s3 (by unfold maxLen; omega) (by unfold maxLen; omega))
  have w3e := aw2
  simp only [Prod.mk.injEq] at w3e
  obtain ⟨x0, x1, x2⟩ := w3e
  rw [same_true rfl (fun k hk => by rcases (show k = 0 ∨ k = 1 ∨ k = 2 by omega) with rfl | rfl | rfl <;> assumption)] at K2
  have HB3 := Lib.hid (bthen' HB2.out hb3)
  have HR3 := Lib.hid (HR.out.mono hb3)
  clear s3 hb3 x0 x1 x2
  go_wp2_with fail
  generalize (w2.alloc (.cells #[.int .i64 1, .int .i64 1, .int .i64 1] 3)) = w3 at *
  refine K2.out.mono ?_
  rintro e w4 ⟨rfl, hb4⟩
  have HB4 := Lib.hid (bthen' HB3.out hb4)
  have KC := Lib.hid (counts13 a 3 3 _ 2 w4 (HR3.out.mono hb4) (by omega))
  clear hb4 K2 HB3 HR3 HR HB2
  go_wp2_with fail
  refine KC.out.mono ?_
  rintro e w5 ⟨b, rfl, hrow, hb5⟩
  have HB5 := Lib.hid (bthen' HB4.out hb5)
  have e2 : cntN 2 = 2 := rfl
  rw [e2] at hrow ⊢
  have hb6 := blk w5 (.cells #[.int .i64 0, .int .i64 3] 3)
  have s6 : Row (w5.alloc (.cells #[.int .i64 0, .int .i64 3] 3)) (some ⟨w5.heap.size, 0, none⟩) 2 (fun k => if k = 0 then 0 else 3) := ⟨w5.heap.size, 0, fun _ => rfl, fun k hk => by
    rcases (show k = 0 ∨ k = 1 by omega) with rfl | rfl <;> simp [go_sem]⟩
  have K3 := Lib.hid (same12 b (some ⟨w5.heap.size, 0, none⟩) 2 2 2 2 _ _ _ (hrow.mono hb6) s6 (by unfold maxLen; omega) (by unfold maxLen; omega))
  have w4e := aw3
  simp only [Prod.mk.injEq] at w4e
  obtain ⟨x0, x1⟩ := w4e
  rw [same_true rfl (fun k hk => by rcases (show k = 0 ∨ k = 1 by omega) with rfl | rfl <;> assumption)] at K3
  have HB6 := Lib.hid (bthen' HB5.out hb6)
  clear s6 hb6 x0 x1 hrow hb5 e2 KC
  go_wp2_with fail
  generalize (w5.alloc (.cells #[.int .i64 0, .int .i64 3] 3)) = w6 at *
  refine K3.out.mono ?_
  rintro e w7 ⟨rfl, hb7⟩
  have HB7 := Lib.hid (bthen' HB6.out hb7)
  clear hb7
  go_wp2
  go_ret
  exact ⟨rfl, HB7.out⟩
end Go.Proofs.Ytdcogbokcbpnnaa
