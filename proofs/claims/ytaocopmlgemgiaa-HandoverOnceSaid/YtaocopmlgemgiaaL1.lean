/- Layer 42: the walk of HandoverWaits. -/
import Derived.Test.YtaocopmlgemgiaaH9
namespace Go.Proofs.Ytaocopmlgemgiaa
set_option linter.unusedVariables false
set_option linter.unusedSimpArgs false
open Go.RowKit Go.Sort

theorem run_ne25 (x1 x2 x3 : Int) (w : World) : (Go.binOp .neq 25 (.agg #[.int .i64 x1, .int .i64 x2, .int .i64 x3]) (.agg #[.int .i64 x1, .int .i64 x2, .int .i64 x3])).run Try.prog w = .ok (.bool false) w := by
  have u3 := Try.underlying3
  have hS : Try.prog.underlying 25 = some (.struct (Try.prog.fieldsOf 25)) := by kernel_rfl
  have hp : Try.prog.stoodInHeld 25 = false := by kernel_rfl
  rw [run_neq_struct, show (10000 : Nat) = 9999 + 1 from rfl, run_equalIn_agg w 9999 25 _ _ hS hp]
  simp only [Program.fieldsOf, Try.underlying25]
  go_simp
attribute [local go_sem] gcell run_ne25 guard25 beq_self_eq_true
theorem look_yes {a o r si ti : Int} (h1 : 1 ≤ a ∧ a ≤ 1000 ∧ 1 ≤ o ∧ o ≤ 1000) (h2 : 1 ≤ r ∧ r ≤ 1000) (h3 : 0 ≤ ti ∧ ti ≤ 1048576 ∧ 0 ≤ si ∧ si ≤ ti) : lookB a o r si ti = true := by
  unfold lookB goodP good
  simp
  omega

set_option maxRecDepth 100000 in
set_option maxHeartbeats 8000000 in
theorem waits7 (x0 x1 x3 : Int) (b : Bool) (b0 : 0 ≤ x0 ∧ x0 ≤ 255) (b1 : 0 ≤ x1 ∧ x1 ≤ 255) (b3 : 0 ≤ x3 ∧ x3 ≤ 65535) (w : World) :
    Calls Try.prog 7 #[.int .u8 x0, .int .u8 x1, .bool b, .int .u16 x3] w fun e w' => e = .returned (.bool true) ∧ Below w.heap.size w w' := by
  have K1 := Lib.hid fun w => stationQ (a := 1 + x0) (o := 1 + x1) (r := 1) (ph := 0) (ot := 0) (si := 0) (ev := 1) (ar := 2) (ti := x3) (x := 1) (y := 2) (z := x3) (d := 1) (by unfold stS; rw [if_pos (look_yes (by omega) (by omega) (by omega)), if_pos (by omega)]) (by decide) (by decide) w
  have K2 := Lib.hid fun w => stationQ (a := 1 + x0) (o := 1 + x1) (r := 1) (ph := 1) (ot := 2) (si := x3) (ev := 2) (ar := x3) (ti := x3) (x := 2) (y := 2) (z := x3) (d := 2) (by unfold stS; rw [if_pos (look_yes (by omega) (by omega) (by omega)), if_neg (by omega), if_pos (by omega)]) (by decide) (by decide) w
  have P0 := Lib.hid (Box3.new w (1 + x0) (1 + x1) 1 23 w.heap.size rfl)
  have HB0 := Lib.hid (below_alloc w (.cells #[.int .i64 (1 + x0), .int .i64 (1 + x1), .int .i64 1] 23))
  cases b
  · go_enter Try.func7, Try.ntmps7
    go_wp2_with (go_at_call 8; refine (K1.out _).mono ?_)
    rintro e w1 ⟨rfl, hb⟩
    have hA := below_alloc w1 (.cells #[.int .i64 1, .int .i64 2, .int .i64 x3] 25)
    have hP := P0.out.mono hb
    have PF := Lib.hid (hP.mono hA)
    have QF := Lib.hid (Box3.new w1 1 2 x3 25 w1.heap.size rfl)
    have hB1 := bthen HB0.out hb HB0.out.size
    have HF := Lib.hid (bthen hB1 hA hB1.size)
    obtain ⟨a0, a1, a2, _, _, _⟩ := hP
    have l0 := lt_of_cell a0
    clear hb hA hB1 P0 HB0
    have HLS := Lib.hid (show ∀ T : Int, x3 ≤ T → T < x3 + (1 + x0) → stS (1 + x0) (1 + x1) 1 1 2 x3 7 0 T = (1, 2, x3, 0) from fun T h1 h2 => by
      unfold stS
      rw [if_pos (look_yes (by omega) (by omega) (by omega)), if_neg (by omega), if_neg (by omega), if_neg (by omega), if_neg (by omega), if_neg (by omega), if_neg (by omega), if_neg (by omega), if_neg (by omega)])
    have HLE := Lib.hid (show stS (1 + x0) (1 + x1) 1 1 2 x3 7 0 (x3 + (1 + x0)) = (0, 2, x3, 4) by
      unfold stS
      rw [if_pos (look_yes (by omega) (by omega) (by omega))]
      first | rw [if_neg (by omega), if_neg (by omega), if_neg (by omega), if_pos (by omega)] | rw [if_neg (by omega), if_neg (by omega), if_neg (by omega), if_neg (by omega), if_neg (by omega), if_pos (by omega)])
    go_wp2_with fail
    go_loopw [14] (fun t wr => ∃ T : Int, t = .int .i64 T ∧ x3 ≤ T ∧ T ≤ x3 + (1 + x0) ∧ Box3 wr w.heap.size (1 + x0) (1 + x1) 1 ∧ Box3 wr w1.heap.size 1 2 x3 ∧ Below w.heap.size w wr) (fun t _ => (x3 + 300 - intOf t).toNat)
    case atStart => exact ⟨x3, rfl, by omega, by omega, PF.out, QF.out, HF.out⟩
    case round =>
      clear PF QF HF
      obtain ⟨T, rfl, hT1, hT2, hP, hQ, hB⟩ := hrel
      have P := Lib.hid hP
      have Q := Lib.hid hQ
      have HB := Lib.hid hB
      obtain ⟨a0, a1, a2, _, _, _⟩ := hP
      obtain ⟨q0, q1, q2, _, _, _⟩ := hQ
      have l0 := lt_of_cell a0
      have l1 := lt_of_cell q0
      clear hB
      by_cases hlt : T < x3 + (1 + x0)
      · have K := Lib.hid fun w => stationQ (HLS.out T hT1 hlt) (by decide) (by decide) w
        go_wp2_with (go_at_call 8; refine (K.out _).mono ?_; rintro e w5 ⟨rfl, hb⟩; have hP5 := P.out.mono hb; have hQ5 := Q.out.mono hb; have hB5 := bthen HB.out hb HB.out.size; have P5 := Lib.hid (hP5.mono (below_alloc w5 (.cells #[.int .i64 1, .int .i64 2, .int .i64 x3] 25))); have Q5 := Lib.hid (hQ5.mono (below_alloc w5 (.cells #[.int .i64 1, .int .i64 2, .int .i64 x3] 25))); have HB5 := Lib.hid (hB5.alloc hB5.size (.cells #[.int .i64 1, .int .i64 2, .int .i64 x3] 25)); clear a0 a1 a2 q0 q1 q2 l0 l1; obtain ⟨q0, q1, q2, _, _, _⟩ := hQ5; have l1 := lt_of_cell q0; clear hb hB5 hP5)
        go_roundw
        case rel => exact ⟨T + 1, by go_num, by omega, by omega, P5.out, Q5.out, HB5.out⟩
        case measure => simp [intOf] <;> omega
      · obtain rfl : T = x3 + (1 + x0) := by omega
        have K := Lib.hid fun w => stationQ HLE.out (by decide) (by decide) w
        go_wp2_with (go_at_call 8; refine (K.out _).mono ?_; rintro e w5 ⟨rfl, hb⟩; have hB5 := bthen HB.out hb HB.out.size; have HB5 := Lib.hid (hB5.alloc hB5.size (.cells #[.int .i64 0, .int .i64 2, .int .i64 x3] 25)); clear a0 a1 a2 q0 q1 q2 l0 l1 hb hB5)
        go_wp2_with (go_at_call 14; refine (awake14 _).mono ?_; rintro e w6 ⟨rfl, hb⟩; have HB6 := Lib.hid (bthen HB5.out hb HB5.out.size); clear hb)
        go_wp2
        go_ret
        exact ⟨rfl, HB6.out⟩
  · go_enter Try.func7, Try.ntmps7
    go_wp2_with (go_at_call 8; refine (K1.out _).mono ?_)
    rintro e w1 ⟨rfl, hb⟩
    have hA := below_alloc w1 (.cells #[.int .i64 1, .int .i64 2, .int .i64 x3] 25)
    have hP := P0.out.mono hb
    have P1 := Lib.hid (hP.mono hA)
    have Q1 := Lib.hid (Box3.new w1 1 2 x3 25 w1.heap.size rfl)
    have hB1 := bthen HB0.out hb HB0.out.size
    have z1 := hB1.size
    have HB1 := Lib.hid (bthen hB1 hA hB1.size)
    obtain ⟨a0, a1, a2, _, _, _⟩ := hP
    have l0 := lt_of_cell a0
    have n1 : w1.heap.size ≠ w.heap.size := by omega
    have n2 : w.heap.size ≠ w1.heap.size := by omega
    clear hb hA hB1 P0 HB0
    go_wp2_with (go_at_call 8; refine (K2.out _).mono ?_)
    rintro e w2 ⟨rfl, hb⟩
    have hQ := Q1.out.mono hb
    have hP := P1.out.mono hb
    have QF := Lib.hid (hQ.set 2 2 x3)
    have PF := Lib.hid (hP.far (q := w1.heap.size) (by omega) 2 2 x3)
    have HF := Lib.hid (below_set3 (q := w1.heap.size) (bthen HB1.out hb HB1.out.size) z1 2 2 x3)
    clear a0 a1 a2 l0
    obtain ⟨a0, a1, a2, _, _, _⟩ := hP
    obtain ⟨q0, q1, q2, f0, f1, f2⟩ := hQ
    have l0 := lt_of_cell a0
    have l1 := lt_of_cell q0
    clear hb P1 Q1 HB1
    have HLS := Lib.hid (show ∀ T : Int, x3 ≤ T → T < x3 + (1 + x1) → stS (1 + x0) (1 + x1) 1 2 2 x3 7 0 T = (2, 2, x3, 0) from fun T h1 h2 => by
      unfold stS
      rw [if_pos (look_yes (by omega) (by omega) (by omega)), if_neg (by omega), if_neg (by omega), if_neg (by omega), if_neg (by omega), if_neg (by omega), if_neg (by omega), if_neg (by omega), if_neg (by omega)])
    have HLE := Lib.hid (show stS (1 + x0) (1 + x1) 1 2 2 x3 7 0 (x3 + (1 + x1)) = (0, 2, x3, 4) by
      unfold stS
      rw [if_pos (look_yes (by omega) (by omega) (by omega))]
      first | rw [if_neg (by omega), if_neg (by omega), if_neg (by omega), if_pos (by omega)] | rw [if_neg (by omega), if_neg (by omega), if_neg (by omega), if_neg (by omega), if_neg (by omega), if_pos (by omega)])
    go_wp2_with fail
    go_loopw [14] (fun t wr => ∃ T : Int, t = .int .i64 T ∧ x3 ≤ T ∧ T ≤ x3 + (1 + x1) ∧ Box3 wr w.heap.size (1 + x0) (1 + x1) 1 ∧ Box3 wr w1.heap.size 2 2 x3 ∧ Below w.heap.size w wr) (fun t _ => (x3 + 300 - intOf t).toNat)
    case atStart => exact ⟨x3, rfl, by omega, by omega, PF.out, QF.out, HF.out⟩
    case round =>
      clear PF QF HF
      obtain ⟨T, rfl, hT1, hT2, hP, hQ, hB⟩ := hrel
      have P := Lib.hid hP
      have Q := Lib.hid hQ
      have HB := Lib.hid hB
      obtain ⟨a0, a1, a2, _, _, _⟩ := hP
      obtain ⟨q0, q1, q2, _, _, _⟩ := hQ
      have l0 := lt_of_cell a0
      have l1 := lt_of_cell q0
      clear hB
      by_cases hlt : T < x3 + (1 + x1)
      · have K := Lib.hid fun w => stationQ (HLS.out T hT1 hlt) (by decide) (by decide) w
        go_wp2_with (go_at_call 8; refine (K.out _).mono ?_; rintro e w5 ⟨rfl, hb⟩; have hP5 := P.out.mono hb; have hQ5 := Q.out.mono hb; have hB5 := bthen HB.out hb HB.out.size; have P5 := Lib.hid (hP5.mono (below_alloc w5 (.cells #[.int .i64 2, .int .i64 2, .int .i64 x3] 25))); have Q5 := Lib.hid (hQ5.mono (below_alloc w5 (.cells #[.int .i64 2, .int .i64 2, .int .i64 x3] 25))); have HB5 := Lib.hid (hB5.alloc hB5.size (.cells #[.int .i64 2, .int .i64 2, .int .i64 x3] 25)); clear a0 a1 a2 q0 q1 q2 l0 l1; obtain ⟨q0, q1, q2, _, _, _⟩ := hQ5; have l1 := lt_of_cell q0; clear hb hB5 hP5)
        go_roundw
        case rel => exact ⟨T + 1, by go_num, by omega, by omega, P5.out, Q5.out, HB5.out⟩
        case measure => simp [intOf] <;> omega
      · obtain rfl : T = x3 + (1 + x1) := by omega
        have K := Lib.hid fun w => stationQ HLE.out (by decide) (by decide) w
        go_wp2_with (go_at_call 8; refine (K.out _).mono ?_; rintro e w5 ⟨rfl, hb⟩; have hB5 := bthen HB.out hb HB.out.size; have HB5 := Lib.hid (hB5.alloc hB5.size (.cells #[.int .i64 0, .int .i64 2, .int .i64 x3] 25)); clear a0 a1 a2 q0 q1 q2 l0 l1 hb hB5)
        go_wp2_with (go_at_call 14; refine (awake14 _).mono ?_; rintro e w6 ⟨rfl, hb⟩; have HB6 := Lib.hid (bthen HB5.out hb HB5.out.size); clear hb)
        go_wp2
        go_ret
        exact ⟨rfl, HB6.out⟩
end Go.Proofs.Ytaocopmlgemgiaa
