/- Layer 31: the reference agrees. -/
import Derived.Test.YtfkbcjpiijcbfaaC14
import Derived.Test.YtfkbcjpiijcbfaaC6
namespace Go.Proofs.Ytfkbcjpiijcbfaa
set_option linter.unusedVariables false
set_option linter.unusedSimpArgs false
open Go.RowKit Go.Sort
attribute [local go_sem] gcell
def nzE (s te ce ti n m : Int) : Int := if nzOk s te ce ti n m = true then 0 else 3
def nzN (s te ce ti n m : Int) : Nat := if nzOk s te ce ti n m = true then n.toNat else 0
theorem NoiseR.q {s te ce ti n m : Int} {w w' : World} {e : Ending} (h : NoiseR s te ce ti n m w e w') : ∃ (a : Option Addr) (c : Nat), e = .returned (.tuple #[.slice a (nzN s te ce ti n m) c, .int .i64 (nzE s te ce ti n m)]) ∧ nzN s te ce ti n m ≤ maxLen ∧ Row w' a (nzN s te ce ti n m) (nzV (nz0 s te ce ti) m) ∧ Below w.heap.size w w' := by
  obtain ⟨a, l, c, rfl, hl, h1, h2, -, hr, hb⟩ := h
  obtain rfl : l = nzN s te ce ti n m := hl
  exact ⟨a, c, rfl, by unfold maxLen; omega, hr, hb⟩
set_option maxRecDepth 100000 in
set_option maxHeartbeats 8000000 in
theorem agree14 (a : Option Addr) (n cp : Nat) (X : Nat → Fd) (s te ce ti co mo : Int) (b : Option Addr) (nb cb : Nat) (bs : Nat → Int) (w : World) (H : R5 w a n X) (hn : n ≤ maxLen) (R : Row w b nb bs) (hnb : nb ≤ 1300) :
    Calls Try.prog 14 #[.slice a n cp, .int .i64 s, .int .i64 te, .int .i64 ce, .int .i64 ti, .int .i64 co, .int .i64 mo, .slice b nb cb] w fun e w' => e = .returned (.bool true) ∧ Below w.heap.size w w' := by
  have K1 := Lib.hid (at13 a n cp X te ce ti w H hn)
  have K2 := Lib.hid fun (W : World) (hB : Below w.heap.size w W) => at22 a n cp X te ce ti W (H.mono hB) hn
  have K3 := Lib.hid fun (W : World) => (noise8 s te ce ti co mo W).mono fun _ _ h => h.q
  have K4 := Lib.hid fun (W : World) => (noise23 s te ce ti co mo W).mono fun _ _ h => h.q
  have K5 := Lib.hid fun (W : World) (hB : Below w.heap.size w W) => recv15 a n cp X s te ce ti b nb cb bs W (H.mono hB) hn (R.mono hB) hnb
  have K6 := Lib.hid fun (W : World) (hB : Below w.heap.size w W) => recv24 a n cp X s te ce ti b nb cb bs W (H.mono hB) hn (R.mono hB) hnb
  have K7 := Lib.hid fun (W : World) (hB : Below w.heap.size w W) => check25 a n cp X W (H.mono hB) hn
  have K8 := Lib.hid fun (W : World) (hB : Below w.heap.size w W) => check26 a n cp X W (H.mono hB) hn
  have K9 := Lib.hid fun (W : World) (hB : Below w.heap.size w W) => qual20 a n cp X te ce ti W (H.mono hB) hn
  have K10 := Lib.hid fun (W : World) (hB : Below w.heap.size w W) => qual27 a n cp X te ce ti W (H.mono hB) hn
  have HRN : recN n X s te ce ti nb bs ≤ 1300 := by unfold recN; split <;> omega
  clear H R
  generalize qual (atF te ce ti X n).1 (atF te ce ti X n).2 = Q at *
  generalize (atF te ce ti X n).1 = g at *
  generalize (atF te ce ti X n).2 = m at *
  generalize chk n X = C at *
  generalize nzE s te ce ti co mo = E1 at *
  generalize nzN s te ce ti co mo = L1 at *
  go_enter Try.func14, Try.ntmps14
  go_wp2_with fail
  refine K1.out.mono ?_
  rintro e w1 ⟨rfl, hb1⟩
  have HB1 := Lib.hid hb1
  clear hb1
  go_wp2_with fail
  refine (K2.out w1 HB1.out).mono ?_
  rintro e w2 ⟨rfl, hb2⟩
  have hB2 := bthen' HB1.out hb2
  have HB2 := Lib.hid hB2
  clear hb2 hB2
  go_wp2_with fail
  refine (K3.out w2).mono ?_
  rintro e w3 ⟨a3, c3, rfl, hL1, hr3, hb3⟩
  have hB3 := bthen' HB2.out hb3
  have HB3 := Lib.hid hB3
  have HR3 := Lib.hid hr3
  clear hb3 hB3 HB2 hr3
  go_wp2_with fail
  refine (K4.out w3).mono ?_
  rintro e w4 ⟨a4, c4, rfl, -, hr4, hb4⟩
  have hB4 := bthen' HB3.out hb4
  have HB4 := Lib.hid hB4
  have HR4 := Lib.hid hr4
  have HR34 := Lib.hid (HR3.out.mono hb4)
  clear hb4 hB4 HB3 hr4 HR3
  go_wp2_with fail
  refine (K5.out w4 HB4.out).mono ?_
  rintro e w5 ⟨a5, c5, rfl, hr5, hb5⟩
  have hB5 := bthen' HB4.out hb5
  have HB5 := Lib.hid hB5
  have HR5 := Lib.hid hr5
  have HR35 := Lib.hid (HR34.out.mono hb5)
  have HR45 := Lib.hid (HR4.out.mono hb5)
  clear hb5 hB5 HB4 hr5 HR34 HR4
  go_wp2_with fail
  refine (K6.out w5 HB5.out).mono ?_
  rintro e w6 ⟨a6, c6, rfl, hr6, hb6⟩
  have hB6 := bthen' HB5.out hb6
  have HB6 := Lib.hid hB6
  have HR6 := Lib.hid hr6
  have HR36 := Lib.hid (HR35.out.mono hb6)
  have HR46 := Lib.hid (HR45.out.mono hb6)
  have HR56 := Lib.hid (HR5.out.mono hb6)
  have hsz := HB6.out.size
  clear hb6 hB6 HB5 hr6 HR35 HR45 HR5
  generalize recN n X s te ce ti nb bs = L at *
  generalize recE n X s te ce ti nb bs = E2 at *
  generalize recV n X s te ce ti nb bs = V at *
  have K11 := Lib.hid fun (W : World) (hB : Below w6.heap.size w6 W) => same16 a3 a4 L1 c3 L1 c4 _ _ W (HR36.out.mono hB) (HR46.out.mono hB) hL1 hL1
  have K12 := Lib.hid fun (W : World) (hB : Below w6.heap.size w6 W) => same16 a5 a6 L c5 L c6 _ _ W (HR56.out.mono hB) (HR6.out.mono hB) (by unfold maxLen; omega) (by unfold maxLen; omega)
  rw [same_true rfl (fun _ _ => rfl)] at K11 K12
  clear HR36 HR46 HR56 HR6 K1 K2 K3 K4 K5 K6
  go_wp2_with fail
  refine (K11.out w6 (Below.refl _ _)).mono ?_
  rintro e w7 ⟨rfl, hb7⟩
  have HB7 := Lib.hid hb7
  clear hb7
  go_wp2_with fail
  refine (K12.out w7 HB7.out).mono ?_
  rintro e w8 ⟨rfl, hb8⟩
  have HB8 := Lib.hid (bthen' (bthen' HB6.out HB7.out) hb8)
  clear hb8
  go_wp2_with fail
  refine (K7.out w8 HB8.out).mono ?_
  rintro e w9 ⟨rfl, hb9⟩
  have HB9 := Lib.hid (bthen' HB8.out hb9)
  clear hb9
  go_wp2_with fail
  refine (K8.out w9 HB9.out).mono ?_
  rintro e w10 ⟨rfl, hb10⟩
  have HB10 := Lib.hid (bthen' HB9.out hb10)
  clear hb10
  go_wp2_with fail
  refine (K9.out w10 HB10.out).mono ?_
  rintro e w11 ⟨rfl, hb11⟩
  have HB11 := Lib.hid (bthen' HB10.out hb11)
  clear hb11
  go_wp2_with fail
  refine (K10.out w11 HB11.out).mono ?_
  rintro e w12 ⟨rfl, hb12⟩
  have HB12 := Lib.hid (bthen' HB11.out hb12)
  clear hb12
  go_wp2
  go_ret
  exact ⟨rfl, HB12.out⟩
set_option maxRecDepth 100000 in
set_option maxHeartbeats 4000000 in
theorem raw5 (a : Option Addr) (n cp : Nat) (X : Nat → Fd) (s te ce ti co mo : Int) (b : Option Addr) (nb cb : Nat) (bs : Nat → Int) (w : World) (H : R5 w a n X) (hn : n ≤ maxLen) (R : Row w b nb bs) (hnb : nb ≤ maxLen) :
    Calls Try.prog 5 #[.slice a n cp, .int .i64 s, .int .i64 te, .int .i64 ce, .int .i64 ti, .int .i64 co, .int .i64 mo, .slice b nb cb] w fun e w' => e = .returned (.bool true) ∧ Below w.heap.size w w' := by
  have hn2 := hn
  unfold maxLen at hn2
  have hnb2 := hnb
  unfold maxLen at hnb2
  by_cases h1 : 450 < n
  · clear H R
    go_enter Try.func5, Try.ntmps5
    go_wp2_with fail
    refine (awake9 w).mono ?_
    rintro e w2 ⟨rfl, hb⟩
    have HB := Lib.hid hb
    clear hb
    go_wp2
    go_ret
    exact ⟨rfl, HB.out⟩
  · by_cases h2 : 1300 < nb
    · clear H R
      go_enter Try.func5, Try.ntmps5
      go_wp2_with fail
      refine (awake9 w).mono ?_
      rintro e w2 ⟨rfl, hb⟩
      have HB := Lib.hid hb
      clear hb
      go_wp2
      go_ret
      exact ⟨rfl, HB.out⟩
    · have K := Lib.hid (agree14 a n cp X s te ce ti co mo b nb cb bs w H hn R (by omega))
      clear H R
      go_enter Try.func5, Try.ntmps5
      go_wp2_with fail
      refine K.out.mono ?_
      rintro e w1 ⟨rfl, hb1⟩
      have HB1 := Lib.hid hb1
      clear hb1
      go_wp2_with fail
      refine (awake9 w1).mono ?_
      rintro e w2 ⟨rfl, hb⟩
      have HB := Lib.hid (bthen' HB1.out hb)
      clear hb
      go_wp2
      go_ret
      exact ⟨rfl, HB.out⟩
end Go.Proofs.Ytfkbcjpiijcbfaa
