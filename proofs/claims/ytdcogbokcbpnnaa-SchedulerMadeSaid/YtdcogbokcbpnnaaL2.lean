/- Layer 34: SchedulerMade. -/
import Derived.Test.YtdcogbokcbpnnaaL1
import Derived.Test.YtdcogbokcbpnnaaDm1
namespace Go.Proofs.Ytdcogbokcbpnnaa
set_option linter.unusedVariables false
set_option linter.unusedSimpArgs false
open Go.RowKit Go.Sort
attribute [local go_sem] gcell
set_option maxRecDepth 100000 in
set_option maxHeartbeats 4000000 in
theorem made4 (a : Option Addr) (b o n0 cp : Nat) (xs : Nat → Int) (r : Int) (w : World) (hc : n0 ≤ cp) (h0 : a = none → cp = 0) (ha : 0 < cp → a = some ⟨b, o, none⟩) (hx : ∀ i, i < n0 → w.cell? ⟨b, o + i, none⟩ = some (.int .i64 (xs i))) (hn : n0 ≤ 140737488351232) (hr : 0 ≤ r ∧ r ≤ 255) :
    Calls Try.prog 4 #[.slice a n0 cp, .int .u8 r] w fun e w' => e = .returned (.bool true) ∧ Below w.heap.size w w' := by
  have KL := Lib.hid (light_any a n0 cp w)
  by_cases h300 : n0 ≤ 300
  · have q1 : decide (n0 ≤ 300) = true := by simp [h300]
    rw [q1] at KL
    clear q1
    have KR := Lib.hid (roll_any w a b o n0 cp xs h300 hc h0 ha hx)
    obtain ⟨rr, hrr⟩ : ∃ rr, r.tmod 13 = rr := ⟨_, rfl⟩
    clear ha hx
    go_enter Try.func4, Try.ntmps4
    go_wp2_with fail
    refine KL.out.mono ?_
    rintro e w1 ⟨rfl, hw1⟩; obtain rfl := hw1.symm
    go_wp2_with fail
    refine KR.out.mono ?_
    rintro e w1 ⟨p, g, aa, cap, rfl, hD, hpw, hb1⟩
    have KD := Lib.hid (demands16 p g aa cap n0 xs w1 h300 hD)
    have HB1 := Lib.hid hb1
    clear hD hb1 KR KL
    go_wp2_with fail
    refine KD.out.mono ?_
    rintro e w2 ⟨da, dc, k, X, rfl, hk, hrk, hO, -⟩
    have HB2 := Lib.hid (HB1.out.trans (only_below hO hpw HB1.out.size))
    have KA := Lib.hid (agree11 da k dc X rr 4 w2 hrk.rd (by unfold maxLen; omega))
    clear hrk hO KD
    go_wp2_with fail
    refine KA.out.mono ?_
    rintro e w3 ⟨rfl, hb⟩
    have HB3 := Lib.hid (bthen' HB2.out hb)
    clear hb KA
    go_wp2_with fail
    refine (awake10 w3).mono ?_
    rintro e w4 ⟨rfl, hb⟩
    have HB4 := Lib.hid (bthen' HB3.out hb)
    clear hb
    go_wp2
    go_ret
    exact ⟨rfl, HB4.out⟩
  · have q1 : decide (n0 ≤ 300) = false := by simp; omega
    rw [q1] at KL
    clear ha hx q1
    go_enter Try.func4, Try.ntmps4
    go_wp2_with fail
    refine KL.out.mono ?_
    rintro e w1 ⟨rfl, hw1⟩; obtain rfl := hw1.symm
    go_wp2_with fail
    refine (awake10 _).mono ?_
    rintro e w2 ⟨rfl, hb⟩
    have HB := Lib.hid hb
    clear hb
    go_wp2
    go_ret
    exact ⟨rfl, HB.out⟩
end Go.Proofs.Ytdcogbokcbpnnaa
