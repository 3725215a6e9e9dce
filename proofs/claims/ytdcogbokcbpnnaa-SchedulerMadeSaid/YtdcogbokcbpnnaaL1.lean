/- Layer 34: the reference agrees; SchedulerRaw. -/
import Derived.Test.YtdcogbokcbpnnaaR4
namespace Go.Proofs.Ytdcogbokcbpnnaa
set_option linter.unusedVariables false
set_option linter.unusedSimpArgs false
open Go.RowKit Go.Sort
attribute [local go_sem] gcell
def asgN (n : Nat) (L : Nat → Dm) (R : Int) : Nat := if chkE n L R = 0 then R.toNat else 0
theorem asgN_le (n : Nat) (L : Nat → Dm) (R : Int) : asgN n L R ≤ 12 := by
  unfold asgN
  split
  · rename_i h
    unfold chkE at h
    split at h
    · cases h
    · omega
  · omega
theorem AsgR.row {n : Nat} {L : Nat → Dm} {R : Int} {w w' : World} {e : Ending} (h : AsgR n L R w e w') : ∃ a, e = .returned (.tuple #[.slice a (asgN n L R) (asgN n L R), .int .i64 (chkE n L R)]) ∧ Row w' a (asgN n L R) (asg R.toNat L n).ow ∧ Below w.heap.size w w' := by
  obtain ⟨a, rfl, hr, hb⟩ := h
  refine ⟨a, rfl, ?_, hb⟩
  unfold asgN
  split
  · rename_i h0; exact hr h0
  · exact Row.zero _ _ _
theorem AsgR2.row {n : Nat} {L : Nat → Dm} {R : Int} {w w' : World} {e : Ending} (h : AsgR2 n L R w e w') : ∃ a c, e = .returned (.tuple #[.slice a (asgN n L R) c, .int .i64 (chkE n L R)]) ∧ Row w' a (asgN n L R) (asg R.toNat L n).ow ∧ Below w.heap.size w w' := by
  obtain ⟨a, c, rfl, hr, hb⟩ := h
  refine ⟨a, c, rfl, ?_, hb⟩
  unfold asgN
  split
  · rename_i h0; exact hr h0
  · exact Row.zero _ _ _
theorem cntN_le (n : Int) : cntN n ≤ 4 := by unfold cntN; split <;> omega
set_option maxRecDepth 100000 in
set_option maxHeartbeats 4000000 in
theorem agree11 (la : Option Addr) (n lc : Nat) (L : Nat → Dm) (R q : Int) (w : World) (H : RD w la n L) (hn : n ≤ maxLen) :
    Calls Try.prog 11 #[.slice la n lc, .int .i64 R, .int .i64 q] w fun e w' => e = .returned (.bool true) ∧ Below w.heap.size w w' := by
  have K1 := Lib.hid ((assign18 la n lc L R w H hn).mono fun _ _ h => h.row)
  have K2 := Lib.hid fun (W : World) (hB : Below w.heap.size w W) => (rassign21 la n lc L R W (H.mono hB) hn).mono fun _ _ h => h.row
  have K3 := Lib.hid fun (W : World) (hB : Below w.heap.size w W) => check22 la n lc L R W (H.mono hB) hn
  have K4 := Lib.hid fun (W : World) (hB : Below w.heap.size w W) => check23 la n lc L R W (H.mono hB) hn
  have hNle := asgN_le n L R
  have hCle := cntN_le q
  clear H
  generalize asgN n L R = m at *
  generalize chkE n L R = E at *
  generalize (asg R.toNat L n).ow = V at *
  go_enter Try.func11, Try.ntmps11
  go_wp2_with fail
  refine K1.out.mono ?_
  rintro e w1 ⟨a1, rfl, hr1, hb1⟩
  have HB1 := Lib.hid hb1
  have HR1 := Lib.hid hr1
  clear hr1 hb1
  go_wp2_with fail
  refine (K2.out w1 HB1.out).mono ?_
  rintro e w2 ⟨a2, c2, rfl, hr2, hb2⟩
  have HB2 := Lib.hid (bthen' HB1.out hb2)
  have HR2 := Lib.hid hr2
  have HR12 := Lib.hid (HR1.out.mono hb2)
  have K5 := Lib.hid (same12 a1 a2 m m m c2 V V w2 HR12.out hr2 (by unfold maxLen; omega) (by unfold maxLen; omega))
  rw [same_true rfl fun _ _ => rfl] at K5
  clear hr2 hb2 HR1 HR12
  go_wp2_with fail
  refine K5.out.mono ?_
  rintro e w3 ⟨rfl, hb3⟩
  have HB3 := Lib.hid (bthen' HB2.out hb3)
  have HR3 := Lib.hid (HR2.out.mono hb3)
  clear hb3 HR2 K5
  go_wp2_with fail
  refine (K3.out w3 HB3.out).mono ?_
  rintro e w4 ⟨rfl, hb4⟩
  have HB4 := Lib.hid (bthen' HB3.out hb4)
  have HR4 := Lib.hid (HR3.out.mono hb4)
  clear hb4 HR3
  go_wp2_with fail
  refine (K4.out w4 HB4.out).mono ?_
  rintro e w5 ⟨rfl, hb5⟩
  have HB5 := Lib.hid (bthen' HB4.out hb5)
  have HR5 := Lib.hid (HR4.out.mono hb5)
  clear hb5 HR4
  go_wp2_with fail
  refine (counts13 a2 m c2 V q w5 HR5.out (by omega)).mono ?_
  rintro e w6 ⟨a6, rfl, hr6, hb6⟩
  have HB6 := Lib.hid (bthen' HB5.out hb6)
  have HR6 := Lib.hid (HR5.out.mono hb6)
  have HC6 := Lib.hid hr6
  clear hb6 HR5 hr6
  go_wp2_with fail
  refine (counts14 a2 m c2 V q w6 HR6.out (by omega)).mono ?_
  rintro e w7 ⟨a7, rfl, hr7, hb7⟩
  have HB7 := Lib.hid (bthen' HB6.out hb7)
  have K8 := Lib.hid (same12 a6 a7 (cntN q) (cntN q) (cntN q) (cntN q) _ _ w7 (HC6.out.mono hb7) hr7 (by unfold maxLen; omega) (by unfold maxLen; omega))
  rw [same_true rfl fun _ _ => rfl] at K8
  clear hb7 HR6 hr7 HC6
  go_wp2_with fail
  refine K8.out.mono ?_
  rintro e w8 ⟨rfl, hb8⟩
  have HB8 := Lib.hid (bthen' HB7.out hb8)
  clear hb8 K8
  go_wp2
  go_ret
  exact ⟨rfl, HB8.out⟩
set_option maxRecDepth 100000 in
set_option maxHeartbeats 4000000 in
theorem raw3 (la : Option Addr) (n lc : Nat) (L : Nat → Dm) (R q : Int) (oa : Option Addr) (m oc : Nat) (xs : Nat → Int) (w : World) (H : RD w la n L) (O : Row w oa m xs) (hn : n ≤ 140737488351232) (hm : m ≤ 140737488351232) :
    Calls Try.prog 3 #[.slice la n lc, .int .i64 R, .int .i64 q, .slice oa m oc] w fun e w' => e = .returned (.bool true) ∧ Below w.heap.size w w' := by
  by_cases h60 : 60 < n + m
  · have q1 : (60 : Int) < (n : Int) + (m : Int) := by omega
    clear H O
    go_enter Try.func3, Try.ntmps3
    go_wp2_with fail
    refine (awake10 w).mono ?_
    rintro e w2 ⟨rfl, hb⟩
    have HB := Lib.hid hb
    clear hb
    go_wp2
    go_ret
    exact ⟨rfl, HB.out⟩
  · have q1 : ¬ (60 : Int) < (n : Int) + (m : Int) := by omega
    have K1 := Lib.hid (agree11 la n lc L R q w H (by unfold maxLen; omega))
    have HO := Lib.hid O
    have hCle := cntN_le q
    clear H O
    go_enter Try.func3, Try.ntmps3
    go_wp2_with fail
    refine K1.out.mono ?_
    rintro e w1 ⟨rfl, hb1⟩
    have HB1 := Lib.hid hb1
    have HO1 := Lib.hid (HO.out.mono hb1)
    clear hb1
    go_wp2_with fail
    refine (counts13 oa m oc xs q w1 HO1.out (by omega)).mono ?_
    rintro e w6 ⟨a6, rfl, hr6, hb6⟩
    have HB6 := Lib.hid (bthen' HB1.out hb6)
    have HR6 := Lib.hid (HO1.out.mono hb6)
    have HC6 := Lib.hid hr6
    clear hb6 hr6
    go_wp2_with fail
    refine (counts14 oa m oc xs q w6 HR6.out (by omega)).mono ?_
    rintro e w7 ⟨a7, rfl, hr7, hb7⟩
    have HB7 := Lib.hid (bthen' HB6.out hb7)
    have K8 := Lib.hid (same12 a6 a7 (cntN q) (cntN q) (cntN q) (cntN q) _ _ w7 (HC6.out.mono hb7) hr7 (by unfold maxLen; omega) (by unfold maxLen; omega))
    rw [same_true rfl fun _ _ => rfl] at K8
    clear hb7 HR6 hr7 HC6
    go_wp2_with fail
    refine K8.out.mono ?_
    rintro e w8 ⟨rfl, hb8⟩
    have HB8 := Lib.hid (bthen' HB7.out hb8)
    clear hb8 K8
    go_wp2_with fail
    refine (awake10 w8).mono ?_
    rintro e w9 ⟨rfl, hb⟩
    have HB9 := Lib.hid (bthen' HB8.out hb)
    clear hb
    go_wp2
    go_ret
    exact ⟨rfl, HB9.out⟩
end Go.Proofs.Ytdcogbokcbpnnaa
