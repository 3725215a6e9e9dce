/- Layer 36: the walk of PagingRaw. -/
import Derived.Test.YtobmnajgbhgdlaaP15
namespace Go.Proofs.Ytobmnajgbhgdlaa
set_option linter.unusedVariables false
set_option linter.unusedSimpArgs false
open Go.RowKit Go.Sort
attribute [local go_sem] gcell

set_option maxRecDepth 100000 in
set_option maxHeartbeats 4000000 in
theorem raw4 (cy mo tr id t : Int) (a : Option Addr) (n c : Nat) (I S C : Nat → Int) (w : World) (H : R3 w a n I S C) (hc : n ≤ c) (hn : c ≤ 9223372036854775807) (h0 : a = none → n = 0) :
    Calls Try.prog 4 #[gv cy mo tr a n c, .int .i64 id, .int .i64 t] w fun e w' => e = .returned (.bool true) ∧ Below w.heap.size w w' := by
  have hbA := blA w (.cells #[.int .i64 cy, .int .i64 mo, .int .i64 tr, .slice a n c] 25)
  have HB0 := Lib.hid hbA
  by_cases h : 60 < n
  · have hd : decide (60 < n) = true := decide_eq_true h
    clear H
    unfold gv
    go_enter Try.func4, Try.ntmps4
    go_wp2_with (go_at_call 9; refine (awake9 _).mono ?_; rintro e w' ⟨rfl, hb⟩)
    go_ret
    exact ⟨rfl, bthen HB0.out hb HB0.out.size⟩
  · have hd : decide (60 < n) = false := decide_eq_false h
    have K := Lib.hid (agree10 cy mo tr id t a n c I S C _ (H.mono hbA) hc hn h0 (by omega))
    clear H h0
    unfold gv at *
    go_enter Try.func4, Try.ntmps4
    go_wp2_with fail
    refine K.out.mono ?_
    rintro e w1 ⟨rfl, hb⟩
    have HB := Lib.hid (bthen HB0.out hb HB0.out.size)
    clear hb
    go_wp2_with fail
    refine (awake9 _).mono ?_
    rintro e w2 ⟨rfl, hb⟩
    have HB2 := Lib.hid (bthen HB.out hb HB.out.size)
    clear hb
    go_wp2
    go_ret
    exact ⟨rfl, HB2.out⟩
end Go.Proofs.Ytobmnajgbhgdlaa
