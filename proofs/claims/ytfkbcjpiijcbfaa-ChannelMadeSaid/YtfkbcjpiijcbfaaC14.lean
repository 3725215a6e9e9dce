/- Layer 31: Receive, and the reference's. -/
import Derived.Test.YtfkbcjpiijcbfaaC13
import Derived.Test.YtfkbcjpiijcbfaaC11
import Derived.Test.YtfkbcjpiijcbfaaC10
import Derived.Test.YtfkbcjpiijcbfaaS4
namespace Go.Proofs.Ytfkbcjpiijcbfaa
set_option linter.unusedVariables false
set_option linter.unusedSimpArgs false
open Go.RowKit Go.Sort
attribute [local go_sem] gcell

/-- What Receive answers: the first error, or the soft bits. -/
def recE (n : Nat) (X : Nat → Fd) (s te ce ti : Int) (nb : Nat) (bs : Nat → Int) : Int :=
  if chk n X = 0 then (if nzOk s te ce ti nb (atF te ce ti X n).2 = true then ofE nb nb (atF te ce ti X n).1 bs (nzV (nz0 s te ce ti) (atF te ce ti X n).2) else 3) else chk n X
def recN (n : Nat) (X : Nat → Fd) (s te ce ti : Int) (nb : Nat) (bs : Nat → Int) : Nat := if recE n X s te ce ti nb bs = 0 then nb else 0
def recV (n : Nat) (X : Nat → Fd) (s te ce ti : Int) (nb : Nat) (bs : Nat → Int) : Nat → Int := ofV nb (atF te ce ti X n).1 bs (nzV (nz0 s te ce ti) (atF te ce ti X n).2)
def RecvR (n : Nat) (X : Nat → Fd) (s te ce ti : Int) (nb : Nat) (bs : Nat → Int) (w : World) (e : Ending) (w' : World) : Prop :=
  ∃ a c, e = .returned (.tuple #[.slice a (recN n X s te ce ti nb bs) c, .int .i64 (recE n X s te ce ti nb bs)]) ∧ Row w' a (recN n X s te ce ti nb bs) (recV n X s te ce ti nb bs) ∧ Below w.heap.size w w'
theorem RecvR.none {n : Nat} {X : Nat → Fd} {s te ce ti : Int} {nb : Nat} {bs : Nat → Int} {w w' : World} {E : Int} (h : recE n X s te ce ti nb bs = E) (h0 : E ≠ 0) (hb : Below w.heap.size w w') : RecvR n X s te ce ti nb bs w (.returned (.tuple #[.slice .none 0 0, .int .i64 E])) w' := by
  have hn : recN n X s te ce ti nb bs = 0 := by unfold recN; rw [if_neg (by omega)]
  exact ⟨.none, 0, by rw [hn, h], by rw [hn]; exact Row.zero _ _ _, hb⟩
theorem recE_def (n : Nat) (X : Nat → Fd) (s te ce ti : Int) (nb : Nat) (bs : Nat → Int) : recE n X s te ce ti nb bs = if chk n X = 0 then (if nzOk s te ce ti nb (atF te ce ti X n).2 = true then ofE nb nb (atF te ce ti X n).1 bs (nzV (nz0 s te ce ti) (atF te ce ti X n).2) else 3) else chk n X := rfl
theorem recV_def (n : Nat) (X : Nat → Fd) (s te ce ti : Int) (nb : Nat) (bs : Nat → Int) : recV n X s te ce ti nb bs = ofV nb (atF te ce ti X n).1 bs (nzV (nz0 s te ce ti) (atF te ce ti X n).2) := rfl
theorem recN_of {n : Nat} {X : Nat → Fd} {s te ce ti : Int} {nb : Nat} {bs : Nat → Int} (h1 : chk n X = 0) (h2 : nzOk s te ce ti nb (atF te ce ti X n).2 = true) : recE n X s te ce ti nb bs = ofE nb nb (atF te ce ti X n).1 bs (nzV (nz0 s te ce ti) (atF te ce ti X n).2) ∧ recN n X s te ce ti nb bs = ofN nb nb (atF te ce ti X n).1 bs (nzV (nz0 s te ce ti) (atF te ce ti X n).2) := by
  have e : recE n X s te ce ti nb bs = ofE nb nb (atF te ce ti X n).1 bs (nzV (nz0 s te ce ti) (atF te ce ti X n).2) := by unfold recE; rw [if_pos h1, if_pos h2]
  exact ⟨e, by unfold recN ofN; rw [e]⟩

set_option maxRecDepth 100000 in
set_option maxHeartbeats 4000000 in
theorem recv15 (a : Option Addr) (n cp : Nat) (X : Nat → Fd) (s te ce ti : Int) (b : Option Addr) (nb cb : Nat) (bs : Nat → Int) (w : World) (H : R5 w a n X) (hn : n ≤ maxLen) (R : Row w b nb bs) (hnb : nb ≤ 1300) :
    Calls Try.prog 15 #[.slice a n cp, .int .i64 s, .int .i64 te, .int .i64 ce, .int .i64 ti, .slice b nb cb] w (RecvR n X s te ce ti nb bs w) := by
  have K1 := Lib.hid (check25 a n cp X w H hn)
  have K2 := Lib.hid fun (W : World) (hB : Below w.heap.size w W) => at13 a n cp X te ce ti W (H.mono hB) hn
  have HR := Lib.hid R
  have HN := Lib.hid (@recN_of n X s te ce ti nb bs)
  have HE := Lib.hid (recE_def n X s te ce ti nb bs)
  have HV := Lib.hid (recV_def n X s te ce ti nb bs)
  have HNO := Lib.hid fun (W : World) (E : Int) => @RecvR.none n X s te ce ti nb bs w W E
  clear H R
  generalize hC : chk n X = C at *
  generalize hg : (atF te ce ti X n).1 = g at *
  generalize hm : (atF te ce ti X n).2 = m at *
  have K3 := Lib.hid fun (W : World) => noise8 s te ce ti nb m W
  clear hC hg hm
  go_enter Try.func15, Try.ntmps15
  go_wp2_with fail
  refine K1.out.mono ?_
  rintro e w1 ⟨rfl, hb1⟩
  have HB1 := Lib.hid hb1
  by_cases hC : C = 0
  · have q1 : (C != 0) = false := by simp [hC]
    have HC := Lib.hid hC
    clear hb1 hC
    go_wp2_with fail
    refine (K2.out w1 HB1.out).mono ?_
    rintro e w2 ⟨rfl, hb2⟩
    have hB2 := bthen' HB1.out hb2
    have HB2 := Lib.hid hB2
    clear hb2 hB2 HB1
    go_wp2_with fail
    refine (K3.out w2).mono ?_
    rintro e w3 ⟨a3, l3, c3, rfl, hl, -, -, -, hr3, hb3⟩
    have hB3 := bthen' HB2.out hb3
    have HB3 := Lib.hid hB3
    have HR3 := Lib.hid hr3
    clear hb3 hB3 HB2 hr3
    cases ho : nzOk s te ce ti nb m
    · have HO := Lib.hid ho
      clear hl
      rw [if_neg (by simp)]
      clear ho
      go_wp2
      go_ret2
      exact HNO.out _ _ (by rw [HE.out, if_pos HC.out, if_neg (by rw [HO.out]; simp)]) (by omega) HB3.out
    · have hl2 : l3 = nb := by rw [hl, if_pos ho]; omega
      subst hl2
      have HO := Lib.hid ho
      rw [if_pos rfl]
      clear ho hl
      go_wp2_with fail
      refine (of28 b a3 l3 cb l3 c3 g bs _ w3 (HR.out.mono HB3.out) HR3.out hnb hnb).mono ?_
      rintro e w4 ⟨a4, c4, rfl, -, hr4, hb4⟩
      have hB4 := bthen' HB3.out hb4
      have HB4 := Lib.hid hB4
      have HR4 := Lib.hid hr4
      clear hb4 hB4 HB3 hr4
      go_wp2
      go_ret2
      obtain ⟨e1, e2⟩ := HN.out HC.out HO.out
      exact ⟨a4, c4, by rw [e1, e2]; rfl, by rw [e2, HV.out]; exact HR4.out, HB4.out⟩
  · have q1 : (C != 0) = true := by simp [hC]
    have HC := Lib.hid hC
    clear hb1 hC
    go_wp2
    go_ret2
    exact HNO.out _ _ (by rw [HE.out, if_neg HC.out]) HC.out HB1.out

set_option maxRecDepth 100000 in
set_option maxHeartbeats 4000000 in
theorem recv24 (a : Option Addr) (n cp : Nat) (X : Nat → Fd) (s te ce ti : Int) (b : Option Addr) (nb cb : Nat) (bs : Nat → Int) (w : World) (H : R5 w a n X) (hn : n ≤ maxLen) (R : Row w b nb bs) (hnb : nb ≤ 1300) :
    Calls Try.prog 24 #[.slice a n cp, .int .i64 s, .int .i64 te, .int .i64 ce, .int .i64 ti, .slice b nb cb] w (RecvR n X s te ce ti nb bs w) := by
  have K1 := Lib.hid (check26 a n cp X w H hn)
  have K2 := Lib.hid fun (W : World) (hB : Below w.heap.size w W) => at22 a n cp X te ce ti W (H.mono hB) hn
  have HR := Lib.hid R
  have HN := Lib.hid (@recN_of n X s te ce ti nb bs)
  have HE := Lib.hid (recE_def n X s te ce ti nb bs)
  have HV := Lib.hid (recV_def n X s te ce ti nb bs)
  have HNO := Lib.hid fun (W : World) (E : Int) => @RecvR.none n X s te ce ti nb bs w W E
  clear H R
  generalize hC : chk n X = C at *
  generalize hg : (atF te ce ti X n).1 = g at *
  generalize hm : (atF te ce ti X n).2 = m at *
  have K3 := Lib.hid fun (W : World) => noise23 s te ce ti nb m W
  clear hC hg hm
  go_enter Try.func24, Try.ntmps24
  go_wp2_with fail
  refine K1.out.mono ?_
  rintro e w1 ⟨rfl, hb1⟩
  have HB1 := Lib.hid hb1
  by_cases hC : C = 0
  · have q1 : (C != 0) = false := by simp [hC]
    have HC := Lib.hid hC
    clear hb1 hC
    go_wp2_with fail
    refine (K2.out w1 HB1.out).mono ?_
    rintro e w2 ⟨rfl, hb2⟩
    have hB2 := bthen' HB1.out hb2
    have HB2 := Lib.hid hB2
    clear hb2 hB2 HB1
    go_wp2_with fail
    refine (K3.out w2).mono ?_
    rintro e w3 ⟨a3, l3, c3, rfl, hl, -, -, -, hr3, hb3⟩
    have hB3 := bthen' HB2.out hb3
    have HB3 := Lib.hid hB3
    have HR3 := Lib.hid hr3
    clear hb3 hB3 HB2 hr3
    cases ho : nzOk s te ce ti nb m
    · have HO := Lib.hid ho
      clear hl
      rw [if_neg (by simp)]
      clear ho
      go_wp2
      go_ret2
      exact HNO.out _ _ (by rw [HE.out, if_pos HC.out, if_neg (by rw [HO.out]; simp)]) (by omega) HB3.out
    · have hl2 : l3 = nb := by rw [hl, if_pos ho]; omega
      subst hl2
      have HO := Lib.hid ho
      rw [if_pos rfl]
      clear ho hl
      go_wp2_with fail
      refine (of31 b a3 l3 cb l3 c3 g bs _ w3 (HR.out.mono HB3.out) HR3.out hnb hnb).mono ?_
      rintro e w4 ⟨a4, c4, rfl, -, hr4, hb4⟩
      have hB4 := bthen' HB3.out hb4
      have HB4 := Lib.hid hB4
      have HR4 := Lib.hid hr4
      clear hb4 hB4 HB3 hr4
      go_wp2
      go_ret2
      obtain ⟨e1, e2⟩ := HN.out HC.out HO.out
      exact ⟨a4, c4, by rw [e1, e2]; rfl, by rw [e2, HV.out]; exact HR4.out, HB4.out⟩
  · have q1 : (C != 0) = true := by simp [hC]
    have HC := Lib.hid hC
    clear hb1 hC
    go_wp2
    go_ret2
    exact HNO.out _ _ (by rw [HE.out, if_neg HC.out]) HC.out HB1.out
end Go.Proofs.Ytfkbcjpiijcbfaa
