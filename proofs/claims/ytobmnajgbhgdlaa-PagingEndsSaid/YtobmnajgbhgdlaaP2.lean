/- Layer 36: Check. -/
import Derived.Test.YtobmnajgbhgdlaaP1
import Derived.Deep.DeepCutAuto
namespace Go.Proofs.Ytobmnajgbhgdlaa
set_option linter.unusedVariables false
set_option linter.unusedSimpArgs false
open Go.RowKit Go.Sort
attribute [local go_sem] gcell

/-- A pager. -/
def gv (cy mo tr : Int) (a : Option Addr) (n c : Nat) : Value := .agg #[.int .i64 cy, .int .i64 mo, .int .i64 tr, .slice a n c]
def pok (cy mo tr : Int) : Bool := decide (1 ≤ cy ∧ cy ≤ 256 ∧ 1 ≤ mo ∧ mo ≤ 16 ∧ 1 ≤ tr ∧ tr ≤ 32)
def badP (tr : Int) (I S C : Nat → Int) (k : Nat) : Bool := decide (I k < 0 ∨ 65536 ≤ I k ∨ S k < 0 ∨ 1048576 < S k ∨ C k < 0 ∨ tr < C k) || hs I (I k) k
/-- The error of a pager. -/
def ckP (cy mo tr : Int) (n : Nat) (I S C : Nat → Int) : Int := if pok cy mo tr = false then 3 else if 16 < n then 2 else if anyB (badP tr I S C) n = true then 1 else 0
section
variable (cy mo tr : Int) (a : Option Addr) (n c : Nat) (I S C : Nat → Int)

set_option maxRecDepth 100000 in
set_option maxHeartbeats 8000000 in
theorem check21 (w : World) (H : R3 w a n I S C) (hc : n ≤ c) (hn : c ≤ 9223372036854775807) :
    Calls Try.prog 21 #[gv cy mo tr a n c] w fun e w' => e = .returned (.int .i64 (ckP cy mo tr n I S C)) ∧ Below w.heap.size w w' := by
  have hb0 : Below w.heap.size w (w.alloc (.cells #[.int .i64 cy, .int .i64 mo, .int .i64 tr, .slice a n c] 25)) := (Below.refl _ _).alloc (Nat.le_refl _) _
  have HB0 := Lib.hid hb0
  have HH := Lib.hid (H.mono hb0)
  clear H hb0
  unfold gv
  by_cases hp : 1 ≤ cy ∧ cy ≤ 256 ∧ 1 ≤ mo ∧ mo ≤ 16 ∧ 1 ≤ tr ∧ tr ≤ 32
  · have hpk : pok cy mo tr = true := decide_eq_true hp
    have HP := Lib.hid hpk
    clear hpk
    by_cases h16 : 16 < n
    · have HE := Lib.hid (show ckP cy mo tr n I S C = 2 by unfold ckP; rw [HP.out, if_neg (by simp), if_pos h16])
      go_enter Try.func21, Try.ntmps21
      go_wp2
      go_ret
      exact ⟨ret_int HE.out.symm, HB0.out⟩
    · have b0 : (w.alloc (.cells #[.int .i64 cy, .int .i64 mo, .int .i64 tr, .slice a n c] 25)).cell? ⟨w.heap.size, 2, none⟩ = some (.int .i64 tr) := by simp [go_sem]
      have b1 : (w.alloc (.cells #[.int .i64 cy, .int .i64 mo, .int .i64 tr, .slice a n c] 25)).cell? ⟨w.heap.size, 3, none⟩ = some (.slice a n c) := by simp [go_sem]
      have HX0 := Lib.hid b0
      have HX1 := Lib.hid b1
      have hs0 : (w.alloc (.cells #[.int .i64 cy, .int .i64 mo, .int .i64 tr, .slice a n c] 25)).heap.size = w.heap.size + 1 := by simp
      clear b0 b1
      go_enter Try.func21, Try.ntmps21
      go_upto_region 5 with fail
      generalize w.alloc (.cells #[.int .i64 cy, .int .i64 mo, .int .i64 tr, .slice a n c] 25) = w0 at *
      have b1 := HX1.out
      go_wp2_with fail
      clear b1
      go_loopw [42] (fun s wr => ∃ k : Nat, s = .int .i64 k ∧ k ≤ n ∧ Below w0.heap.size w0 wr ∧ anyB (badP tr I S C) k = false) (fun s _ => n - (intOf s).toNat)
      case atStart => exact ⟨0, rfl, Nat.zero_le _, Below.refl _ _, rfl⟩
      case round =>
        obtain ⟨k, rfl, hk, hB, hf⟩ := hrel
        have HF := Lib.hid hf
        have HB := Lib.hid hB
        have hsr := hB.size
        have b0 := up hB HX0.out
        have b1 := up hB HX1.out
        have HBW := Lib.hid (bthen HB0.out (show Below w0.heap.size w0 wr from hB) (by omega))
        clear hf
        by_cases hlt : k < n
        · obtain ⟨b, m, h1, h2⟩ := HH.out.mono hB
          obtain rfl := h1 (by omega)
          obtain ⟨c0, c1, c2⟩ := h2 k hlt
          have i1 : (0 : Int) ≤ (k : Int) := by omega
          have i2 : (k : Int) < (n : Int) := by omega
          have i3 : (k : Int) ≤ (c : Int) := by omega
          have HQ := Lib.hid fun (h : badP tr I S C k = true) => (show ckP cy mo tr n I S C = 1 by unfold ckP; rw [HP.out, if_neg (by simp), if_neg h16, anyB_true hlt h]; rfl)
          have HN := Lib.hid fun (h : badP tr I S C k = false) => (show anyB (badP tr I S C) (k + 1) = false by unfold anyB; rw [HF.out, h]; rfl)
          have HK := Lib.hid fun (W : World) (h : Below w0.heap.size w0 W) => find23 (some ⟨b, m, none⟩) k c I S C (I k) W ((HH.out.mono h).less hk) (by unfold maxLen; omega)
          have hbp : badP tr I S C k = (decide (I k < 0 ∨ 65536 ≤ I k ∨ S k < 0 ∨ 1048576 < S k ∨ C k < 0 ∨ tr < C k) || hs I (I k) k) := rfl
          rw [hbp] at HQ HN
          unfold hs at HQ HN
          clear h1 h2 hB hbp
          generalize hdup : fi I (I k) k = dup at *
          clear hdup
          generalize I k = ik at *
          generalize S k = sk at *
          generalize C k = ck at *
          go_upto_region 8 with fail
          have e0 : (wr.alloc (.cells #[.int .i64 ik, .int .i64 sk, .int .i64 ck] 54)).cell? ⟨wr.heap.size, 0, none⟩ = some (.int .i64 ik) := by simp [go_sem]
          have e1 : (wr.alloc (.cells #[.int .i64 ik, .int .i64 sk, .int .i64 ck] 54)).cell? ⟨wr.heap.size, 1, none⟩ = some (.int .i64 sk) := by simp [go_sem]
          have e2 : (wr.alloc (.cells #[.int .i64 ik, .int .i64 sk, .int .i64 ck] 54)).cell? ⟨wr.heap.size, 2, none⟩ = some (.int .i64 ck) := by simp [go_sem]
          have b0' := up (show Below wr.heap.size wr (wr.alloc (.cells #[.int .i64 ik, .int .i64 sk, .int .i64 ck] 54)) from (Below.refl _ _).alloc (Nat.le_refl _) _) b0
          have b1' := up (show Below wr.heap.size wr (wr.alloc (.cells #[.int .i64 ik, .int .i64 sk, .int .i64 ck] 54)) from (Below.refl _ _).alloc (Nat.le_refl _) _) b1
          have HB4 := Lib.hid (HB.out.alloc hsr (.cells #[.int .i64 ik, .int .i64 sk, .int .i64 ck] 54))
          have HBW4 := Lib.hid (bthen HB0.out HB4.out (by omega))
          have hs4 : wr.heap.size < (wr.alloc (.cells #[.int .i64 ik, .int .i64 sk, .int .i64 ck] 54)).heap.size := by simp
          clear b0 b1 c0 c1 c2 HB HBW
          generalize wr.alloc (.cells #[.int .i64 ik, .int .i64 sk, .int .i64 ck] 54) = w4 at *
          generalize wr.heap.size = B at *
          have l1 : w.heap.size < w4.heap.size := by omega
          have HK4 := Lib.hid fun (d : Nat) (os : Array Obj) => HK.out (grow (redrawn w4 d) os) (HB4.out.trans ((below_regrown w4 d os).mono (by omega)))
          clear HK
          by_cases g0 : ik < 0
          · have d0 : decide (ik < 0) = true := decide_eq_true g0
            go_wp2_with fail
            refine wp_region_quiet_below (by kernel_rfl) (by kernel_rfl) ?_
            repeat (go_big_quiet_step (first | (go_at_call 23; exact Calls.regrown_of (HK4.out _ _))))
            refine wpQuiet_nil ?_
            rintro _ ⟨p, rfl⟩
            have HE := Lib.hid (HQ.out (by simp; omega))
            have HBE := Lib.hid (bthen HBW4.out (below_regrown w4 p.d p.os) (by omega))
            go_wp2
            go_ret
            exact ⟨ret_int HE.out.symm, HBE.out⟩
          · have d0 : decide (ik < 0) = false := decide_eq_false g0
            by_cases g1 : 65536 ≤ ik
            · have d1 : decide (65536 ≤ ik) = true := decide_eq_true g1
              go_wp2_with fail
              refine wp_region_quiet_below (by kernel_rfl) (by kernel_rfl) ?_
              repeat (go_big_quiet_step (first | (go_at_call 23; exact Calls.regrown_of (HK4.out _ _))))
              refine wpQuiet_nil ?_
              rintro _ ⟨p, rfl⟩
              have HE := Lib.hid (HQ.out (by simp; omega))
              have HBE := Lib.hid (bthen HBW4.out (below_regrown w4 p.d p.os) (by omega))
              go_wp2
              go_ret
              exact ⟨ret_int HE.out.symm, HBE.out⟩
            · have d1 : decide (65536 ≤ ik) = false := decide_eq_false g1
              by_cases g2 : sk < 0
              · have d2 : decide (sk < 0) = true := decide_eq_true g2
                go_wp2_with fail
                refine wp_region_quiet_below (by kernel_rfl) (by kernel_rfl) ?_
                repeat (go_big_quiet_step (first | (go_at_call 23; exact Calls.regrown_of (HK4.out _ _))))
                refine wpQuiet_nil ?_
                rintro _ ⟨p, rfl⟩
                have HE := Lib.hid (HQ.out (by simp; omega))
                have HBE := Lib.hid (bthen HBW4.out (below_regrown w4 p.d p.os) (by omega))
                go_wp2
                go_ret
                exact ⟨ret_int HE.out.symm, HBE.out⟩
              · have d2 : decide (sk < 0) = false := decide_eq_false g2
                by_cases g3 : 1048576 < sk
                · have d3 : decide (1048576 < sk) = true := decide_eq_true g3
                  go_wp2_with fail
                  refine wp_region_quiet_below (by kernel_rfl) (by kernel_rfl) ?_
                  repeat (go_big_quiet_step (first | (go_at_call 23; exact Calls.regrown_of (HK4.out _ _))))
                  refine wpQuiet_nil ?_
                  rintro _ ⟨p, rfl⟩
                  have HE := Lib.hid (HQ.out (by simp; omega))
                  have HBE := Lib.hid (bthen HBW4.out (below_regrown w4 p.d p.os) (by omega))
                  go_wp2
                  go_ret
                  exact ⟨ret_int HE.out.symm, HBE.out⟩
                · have d3 : decide (1048576 < sk) = false := decide_eq_false g3
                  by_cases g4 : ck < 0
                  · have d4 : decide (ck < 0) = true := decide_eq_true g4
                    go_wp2_with fail
                    refine wp_region_quiet_below (by kernel_rfl) (by kernel_rfl) ?_
                    repeat (go_big_quiet_step (first | (go_at_call 23; exact Calls.regrown_of (HK4.out _ _))))
                    refine wpQuiet_nil ?_
                    rintro _ ⟨p, rfl⟩
                    have HE := Lib.hid (HQ.out (by simp; omega))
                    have HBE := Lib.hid (bthen HBW4.out (below_regrown w4 p.d p.os) (by omega))
                    go_wp2
                    go_ret
                    exact ⟨ret_int HE.out.symm, HBE.out⟩
                  · have d4 : decide (ck < 0) = false := decide_eq_false g4
                    by_cases g5 : tr < ck
                    · have d5 : decide (tr < ck) = true := decide_eq_true g5
                      go_wp2_with fail
                      refine wp_region_quiet_below (by kernel_rfl) (by kernel_rfl) ?_
                      repeat (go_big_quiet_step (first | (go_at_call 23; exact Calls.regrown_of (HK4.out _ _))))
                      refine wpQuiet_nil ?_
                      rintro _ ⟨p, rfl⟩
                      have HE := Lib.hid (HQ.out (by simp; omega))
                      have HBE := Lib.hid (bthen HBW4.out (below_regrown w4 p.d p.os) (by omega))
                      go_wp2
                      go_ret
                      exact ⟨ret_int HE.out.symm, HBE.out⟩
                    · have d5 : decide (tr < ck) = false := decide_eq_false g5
                      by_cases gd : 0 ≤ dup
                      · have dd : decide (0 ≤ dup) = true := decide_eq_true gd
                        go_wp2_with fail
                        refine wp_region_quiet_below (by kernel_rfl) (by kernel_rfl) ?_
                        repeat (go_big_quiet_step (first | (go_at_call 23; exact Calls.regrown_of (HK4.out _ _))))
                        refine wpQuiet_nil ?_
                        rintro _ ⟨p, rfl⟩
                        have HE := Lib.hid (HQ.out (by simp; omega))
                        have HBE := Lib.hid (bthen HBW4.out (below_regrown w4 p.d p.os) (by omega))
                        go_wp2
                        go_ret
                        exact ⟨ret_int HE.out.symm, HBE.out⟩
                      · have dd : decide (0 ≤ dup) = false := decide_eq_false gd
                        go_wp2_with fail
                        refine wp_region_quiet_below (by kernel_rfl) (by kernel_rfl) ?_
                        repeat (go_big_quiet_step (first | (go_at_call 23; exact Calls.regrown_of (HK4.out _ _))))
                        refine wpQuiet_nil ?_
                        rintro _ ⟨p, rfl⟩
                        have HE := Lib.hid (HN.out (by simp; omega))
                        have HBE := Lib.hid (bthen HB4.out (below_regrown w4 p.d p.os) (by omega))
                        go_wp2_with fail
                        go_roundw
                        case rel => exact ⟨k + 1, by go_num, by omega, HBE.out, HE.out⟩
                        case measure => simp [intOf]; omega
        · obtain rfl : k = n := by omega
          have HE := Lib.hid (show ckP cy mo tr k I S C = 0 by unfold ckP; rw [HP.out, if_neg (by simp), if_neg h16, HF.out]; rfl)
          clear hB
          go_wp2
          go_ret
          exact ⟨ret_int HE.out.symm, HBW.out⟩
  · have HE := Lib.hid (show ckP cy mo tr n I S C = 3 by unfold ckP; rw [if_pos (show pok cy mo tr = false from decide_eq_false hp)])
    go_enter Try.func21, Try.ntmps21
    go_wp2
    all_goals first
      | (go_ret; exact ⟨ret_int HE.out.symm, HB0.out⟩)
      | (exfalso; omega)

set_option maxRecDepth 100000 in
set_option maxHeartbeats 8000000 in
theorem check26 (w : World) (H : R3 w a n I S C) (hc : n ≤ c) (hn : c ≤ 9223372036854775807) :
    Calls Try.prog 26 #[gv cy mo tr a n c] w fun e w' => e = .returned (.int .i64 (ckP cy mo tr n I S C)) ∧ Below w.heap.size w w' := by
  have hb0 : Below w.heap.size w (w.alloc (.cells #[.int .i64 cy, .int .i64 mo, .int .i64 tr, .slice a n c] 25)) := (Below.refl _ _).alloc (Nat.le_refl _) _
  have HB0 := Lib.hid hb0
  have HH := Lib.hid (H.mono hb0)
  clear H hb0
  unfold gv
  by_cases hp : 1 ≤ cy ∧ cy ≤ 256 ∧ 1 ≤ mo ∧ mo ≤ 16 ∧ 1 ≤ tr ∧ tr ≤ 32
  · have hpk : pok cy mo tr = true := decide_eq_true hp
    have HP := Lib.hid hpk
    clear hpk
    by_cases h16 : 16 < n
    · have HE := Lib.hid (show ckP cy mo tr n I S C = 2 by unfold ckP; rw [HP.out, if_neg (by simp), if_pos h16])
      go_enter Try.func26, Try.ntmps26
      go_wp2
      go_ret
      exact ⟨ret_int HE.out.symm, HB0.out⟩
    · have b0 : (w.alloc (.cells #[.int .i64 cy, .int .i64 mo, .int .i64 tr, .slice a n c] 25)).cell? ⟨w.heap.size, 2, none⟩ = some (.int .i64 tr) := by simp [go_sem]
      have b1 : (w.alloc (.cells #[.int .i64 cy, .int .i64 mo, .int .i64 tr, .slice a n c] 25)).cell? ⟨w.heap.size, 3, none⟩ = some (.slice a n c) := by simp [go_sem]
      have HX0 := Lib.hid b0
      have HX1 := Lib.hid b1
      have hs0 : (w.alloc (.cells #[.int .i64 cy, .int .i64 mo, .int .i64 tr, .slice a n c] 25)).heap.size = w.heap.size + 1 := by simp
      clear b0 b1
      go_enter Try.func26, Try.ntmps26
      go_upto_region 5 with fail
      generalize w.alloc (.cells #[.int .i64 cy, .int .i64 mo, .int .i64 tr, .slice a n c] 25) = w0 at *
      have b1 := HX1.out
      go_wp2_with fail
      clear b1
      go_loopw [3] (fun s wr => ∃ k : Nat, s = .int .i64 k ∧ k ≤ n ∧ Below w0.heap.size w0 wr ∧ anyB (badP tr I S C) k = false) (fun s _ => n - (intOf s).toNat)
      case atStart => exact ⟨0, rfl, Nat.zero_le _, Below.refl _ _, rfl⟩
      case round =>
        obtain ⟨k, rfl, hk, hB, hf⟩ := hrel
        have HF := Lib.hid hf
        have HB := Lib.hid hB
        have hsr := hB.size
        have b0 := up hB HX0.out
        have b1 := up hB HX1.out
        have HBW := Lib.hid (bthen HB0.out (show Below w0.heap.size w0 wr from hB) (by omega))
        clear hf
        by_cases hlt : k < n
        · obtain ⟨b, m, h1, h2⟩ := HH.out.mono hB
          obtain rfl := h1 (by omega)
          obtain ⟨c0, c1, c2⟩ := h2 k hlt
          have i1 : (0 : Int) ≤ (k : Int) := by omega
          have i2 : (k : Int) < (n : Int) := by omega
          have i3 : (k : Int) ≤ (c : Int) := by omega
          have HQ := Lib.hid fun (h : badP tr I S C k = true) => (show ckP cy mo tr n I S C = 1 by unfold ckP; rw [HP.out, if_neg (by simp), if_neg h16, anyB_true hlt h]; rfl)
          have HN := Lib.hid fun (h : badP tr I S C k = false) => (show anyB (badP tr I S C) (k + 1) = false by unfold anyB; rw [HF.out, h]; rfl)
          have HK := Lib.hid fun (W : World) (h : Below w0.heap.size w0 W) => has29 (some ⟨b, m, none⟩) k c I S C (I k) W ((HH.out.mono h).less hk) (by unfold maxLen; omega)
          have hbp : badP tr I S C k = (decide (I k < 0 ∨ 65536 ≤ I k ∨ S k < 0 ∨ 1048576 < S k ∨ C k < 0 ∨ tr < C k) || hs I (I k) k) := rfl
          rw [hbp] at HQ HN
          skip
          clear h1 h2 hB hbp
          generalize hdup : hs I (I k) k = dup at *
          clear hdup
          generalize I k = ik at *
          generalize S k = sk at *
          generalize C k = ck at *
          go_upto_region 9 with fail
          have e0 : (wr.alloc (.cells #[.int .i64 ik, .int .i64 sk, .int .i64 ck] 54)).cell? ⟨wr.heap.size, 0, none⟩ = some (.int .i64 ik) := by simp [go_sem]
          have e1 : (wr.alloc (.cells #[.int .i64 ik, .int .i64 sk, .int .i64 ck] 54)).cell? ⟨wr.heap.size, 1, none⟩ = some (.int .i64 sk) := by simp [go_sem]
          have e2 : (wr.alloc (.cells #[.int .i64 ik, .int .i64 sk, .int .i64 ck] 54)).cell? ⟨wr.heap.size, 2, none⟩ = some (.int .i64 ck) := by simp [go_sem]
          have b0' := up (show Below wr.heap.size wr (wr.alloc (.cells #[.int .i64 ik, .int .i64 sk, .int .i64 ck] 54)) from (Below.refl _ _).alloc (Nat.le_refl _) _) b0
          have b1' := up (show Below wr.heap.size wr (wr.alloc (.cells #[.int .i64 ik, .int .i64 sk, .int .i64 ck] 54)) from (Below.refl _ _).alloc (Nat.le_refl _) _) b1
          have HB4 := Lib.hid (HB.out.alloc hsr (.cells #[.int .i64 ik, .int .i64 sk, .int .i64 ck] 54))
          have HBW4 := Lib.hid (bthen HB0.out HB4.out (by omega))
          have hs4 : wr.heap.size < (wr.alloc (.cells #[.int .i64 ik, .int .i64 sk, .int .i64 ck] 54)).heap.size := by simp
          clear b0 b1 c0 c1 c2 HB HBW
          generalize wr.alloc (.cells #[.int .i64 ik, .int .i64 sk, .int .i64 ck] 54) = w4 at *
          generalize wr.heap.size = B at *
          have l1 : w.heap.size < w4.heap.size := by omega
          have HK4 := Lib.hid fun (d : Nat) (os : Array Obj) => HK.out (grow (redrawn w4 d) os) (HB4.out.trans ((below_regrown w4 d os).mono (by omega)))
          clear HK
          by_cases g0 : ik < 0
          · have d0 : decide (ik < 0) = true := decide_eq_true g0
            go_wp2_with fail
            refine wp_region_quiet_below (by kernel_rfl) (by kernel_rfl) ?_
            repeat (go_big_quiet_step (first | (go_at_call 29; exact Calls.regrown_of (HK4.out _ _))))
            refine wpQuiet_nil ?_
            rintro _ ⟨p, rfl⟩
            have HE := Lib.hid (HQ.out (by simp; omega))
            have HBE := Lib.hid (bthen HBW4.out (below_regrown w4 p.d p.os) (by omega))
            go_wp2
            go_ret
            exact ⟨ret_int HE.out.symm, HBE.out⟩
          · have d0 : decide (ik < 0) = false := decide_eq_false g0
            by_cases g1 : 65536 ≤ ik
            · have d1 : decide (65536 ≤ ik) = true := decide_eq_true g1
              go_wp2_with fail
              refine wp_region_quiet_below (by kernel_rfl) (by kernel_rfl) ?_
              repeat (go_big_quiet_step (first | (go_at_call 29; exact Calls.regrown_of (HK4.out _ _))))
              refine wpQuiet_nil ?_
              rintro _ ⟨p, rfl⟩
              have HE := Lib.hid (HQ.out (by simp; omega))
              have HBE := Lib.hid (bthen HBW4.out (below_regrown w4 p.d p.os) (by omega))
              go_wp2
              go_ret
              exact ⟨ret_int HE.out.symm, HBE.out⟩
            · have d1 : decide (65536 ≤ ik) = false := decide_eq_false g1
              by_cases g2 : sk < 0
              · have d2 : decide (sk < 0) = true := decide_eq_true g2
                go_wp2_with fail
                refine wp_region_quiet_below (by kernel_rfl) (by kernel_rfl) ?_
                repeat (go_big_quiet_step (first | (go_at_call 29; exact Calls.regrown_of (HK4.out _ _))))
                refine wpQuiet_nil ?_
                rintro _ ⟨p, rfl⟩
                have HE := Lib.hid (HQ.out (by simp; omega))
                have HBE := Lib.hid (bthen HBW4.out (below_regrown w4 p.d p.os) (by omega))
                go_wp2
                go_ret
                exact ⟨ret_int HE.out.symm, HBE.out⟩
              · have d2 : decide (sk < 0) = false := decide_eq_false g2
                by_cases g3 : 1048576 < sk
                · have d3 : decide (1048576 < sk) = true := decide_eq_true g3
                  go_wp2_with fail
                  refine wp_region_quiet_below (by kernel_rfl) (by kernel_rfl) ?_
                  repeat (go_big_quiet_step (first | (go_at_call 29; exact Calls.regrown_of (HK4.out _ _))))
                  refine wpQuiet_nil ?_
                  rintro _ ⟨p, rfl⟩
                  have HE := Lib.hid (HQ.out (by simp; omega))
                  have HBE := Lib.hid (bthen HBW4.out (below_regrown w4 p.d p.os) (by omega))
                  go_wp2
                  go_ret
                  exact ⟨ret_int HE.out.symm, HBE.out⟩
                · have d3 : decide (1048576 < sk) = false := decide_eq_false g3
                  by_cases g4 : ck < 0
                  · have d4 : decide (ck < 0) = true := decide_eq_true g4
                    go_wp2_with fail
                    refine wp_region_quiet_below (by kernel_rfl) (by kernel_rfl) ?_
                    repeat (go_big_quiet_step (first | (go_at_call 29; exact Calls.regrown_of (HK4.out _ _))))
                    refine wpQuiet_nil ?_
                    rintro _ ⟨p, rfl⟩
                    have HE := Lib.hid (HQ.out (by simp; omega))
                    have HBE := Lib.hid (bthen HBW4.out (below_regrown w4 p.d p.os) (by omega))
                    go_wp2
                    go_ret
                    exact ⟨ret_int HE.out.symm, HBE.out⟩
                  · have d4 : decide (ck < 0) = false := decide_eq_false g4
                    by_cases g5 : tr < ck
                    · have d5 : decide (tr < ck) = true := decide_eq_true g5
                      go_wp2_with fail
                      refine wp_region_quiet_below (by kernel_rfl) (by kernel_rfl) ?_
                      repeat (go_big_quiet_step (first | (go_at_call 29; exact Calls.regrown_of (HK4.out _ _))))
                      refine wpQuiet_nil ?_
                      rintro _ ⟨p, rfl⟩
                      have HE := Lib.hid (HQ.out (by simp; omega))
                      have HBE := Lib.hid (bthen HBW4.out (below_regrown w4 p.d p.os) (by omega))
                      go_wp2
                      go_ret
                      exact ⟨ret_int HE.out.symm, HBE.out⟩
                    · have d5 : decide (tr < ck) = false := decide_eq_false g5
                      cases dup
                      rotate_left
                      · skip
                        go_wp2_with fail
                        refine wp_region_quiet_below (by kernel_rfl) (by kernel_rfl) ?_
                        repeat (go_big_quiet_step (first | (go_at_call 29; exact Calls.regrown_of (HK4.out _ _))))
                        refine wpQuiet_nil ?_
                        rintro _ ⟨p, rfl⟩
                        have HE := Lib.hid (HQ.out (by simp))
                        have HBE := Lib.hid (bthen HBW4.out (below_regrown w4 p.d p.os) (by omega))
                        go_wp2
                        go_ret
                        exact ⟨ret_int HE.out.symm, HBE.out⟩
                      · skip
                        go_wp2_with fail
                        refine wp_region_quiet_below (by kernel_rfl) (by kernel_rfl) ?_
                        repeat (go_big_quiet_step (first | (go_at_call 29; exact Calls.regrown_of (HK4.out _ _))))
                        refine wpQuiet_nil ?_
                        rintro _ ⟨p, rfl⟩
                        have HE := Lib.hid (HN.out (by simp; omega))
                        have HBE := Lib.hid (bthen HB4.out (below_regrown w4 p.d p.os) (by omega))
                        go_wp2_with fail
                        go_roundw
                        case rel => exact ⟨k + 1, by go_num, by omega, HBE.out, HE.out⟩
                        case measure => simp [intOf]; omega
        · obtain rfl : k = n := by omega
          have HE := Lib.hid (show ckP cy mo tr k I S C = 0 by unfold ckP; rw [HP.out, if_neg (by simp), if_neg h16, HF.out]; rfl)
          clear hB
          go_wp2
          go_ret
          exact ⟨ret_int HE.out.symm, HBW.out⟩
  · have HE := Lib.hid (show ckP cy mo tr n I S C = 3 by unfold ckP; rw [if_pos (show pok cy mo tr = false from decide_eq_false hp)])
    go_enter Try.func26, Try.ntmps26
    go_wp2
    all_goals first
      | (go_ret; exact ⟨ret_int HE.out.symm, HB0.out⟩)
      | (exfalso; omega)

end
end Go.Proofs.Ytobmnajgbhgdlaa
