/- Layer 42: the walk of HandoverExact. -/
import Derived.Test.YtaocopmlgemgiaaH8
import Derived.Test.YtaocopmlgemgiaaH3
import Derived.Test.YtaocopmlgemgiaaH4
namespace Go.Proofs.Ytaocopmlgemgiaa
set_option linter.unusedVariables false
set_option linter.unusedSimpArgs false
open Go.RowKit Go.Sort

theorem run_eq25 (x1 x2 x3 : Int) (w : World) : (Go.binOp .eql 25 (.agg #[.int .i64 x1, .int .i64 x2, .int .i64 x3]) (.agg #[.int .i64 x1, .int .i64 x2, .int .i64 x3])).run Try.prog w = .ok (.bool true) w := by
  have u3 := Try.underlying3
  have hS : Try.prog.underlying 25 = some (.struct (Try.prog.fieldsOf 25)) := by kernel_rfl
  have hp : Try.prog.stoodInHeld 25 = false := by kernel_rfl
  rw [run_eql_struct, show (10000 : Nat) = 9999 + 1 from rfl, run_equalIn_agg w 9999 25 _ _ hS hp]
  simp only [Program.fieldsOf, Try.underlying25]
  go_simp
theorem guard25 : Try.prog.eqGuardType Try.prog.depth 25 = false := by kernel_rfl
theorem run_eq27 (x1 x2 x3 x4 : Int) (w : World) : (Go.binOp .eql 27 (.agg #[.int .i64 x1, .int .i64 x2, .int .i64 x3, .int .i64 x4]) (.agg #[.int .i64 x1, .int .i64 x2, .int .i64 x3, .int .i64 x4])).run Try.prog w = .ok (.bool true) w := by
  have u3 := Try.underlying3
  have hS : Try.prog.underlying 27 = some (.struct (Try.prog.fieldsOf 27)) := by kernel_rfl
  have hp : Try.prog.stoodInHeld 27 = false := by kernel_rfl
  rw [run_eql_struct, show (10000 : Nat) = 9999 + 1 from rfl, run_equalIn_agg w 9999 27 _ _ hS hp]
  simp only [Program.fieldsOf, Try.underlying27]
  go_simp
theorem guard27 : Try.prog.eqGuardType Try.prog.depth 27 = false := by kernel_rfl
attribute [local go_sem] gcell run_eq25 guard25 run_eq27 guard27 beq_self_eq_true

theorem station9Q {a o r ph ot si ev ar ti x y z d : Int} (h : stS a o r ph ot si ev ar ti = (x, y, z, d)) (w : World) :
    Calls Try.prog 9 #[.agg #[.int .i64 a, .int .i64 o, .int .i64 r], .agg #[.int .i64 ph, .int .i64 ot, .int .i64 si], .int .i64 ev, .int .i64 ar, .int .i64 ti] w fun e w' => e = .returned (.tuple #[.agg #[.int .i64 x, .int .i64 y, .int .i64 z], .int .i64 d]) ∧ Below w.heap.size w w' := by
  have k := station9 a o r ph ot si ev ar ti w
  rw [h] at k
  exact k
theorem terminal11Q {a o r ph ce ta si ev ar ti x y z u d : Int} (h : teS a o r ph ce ta si ev ar ti = (x, y, z, u, d)) (w : World) :
    Calls Try.prog 11 #[.agg #[.int .i64 a, .int .i64 o, .int .i64 r], .agg #[.int .i64 ph, .int .i64 ce, .int .i64 ta, .int .i64 si], .int .i64 ev, .int .i64 ar, .int .i64 ti] w fun e w' => e = .returned (.tuple #[.agg #[.int .i64 x, .int .i64 y, .int .i64 z, .int .i64 u], .int .i64 d]) ∧ Below w.heap.size w w' := by
  have k := terminal11 a o r ph ce ta si ev ar ti w
  rw [h] at k
  exact k

set_option maxRecDepth 100000 in
set_option maxHeartbeats 4000000 in
theorem exact3 (a o r ph ot si ph' ce ta si' ev ar ti : Int) (hp : (Lit.int .i64 ph).wf = true) (hp' : (Lit.int .i64 ph').wf = true) (he : (Lit.int .i64 ev).wf = true) (w : World) :
    Calls Try.prog 3 #[pv a o r, mv ph ot si, xv ph' ce ta si', .int .i64 ev, .int .i64 ar, .int .i64 ti] w fun e w' => e = .returned (.bool true) ∧ Below w.heap.size w w' := by
  obtain ⟨⟨x1, x2, x3, x4⟩, hX⟩ : ∃ X, stS a o r ph ot si ev ar ti = X := ⟨_, rfl⟩
  obtain ⟨⟨y1, y2, y3, y4, y5⟩, hY⟩ : ∃ Y, teS a o r ph' ce ta si' ev ar ti = Y := ⟨_, rfl⟩
  obtain ⟨C, hC⟩ : ∃ C, chkP a o r = C := ⟨_, rfl⟩
  have K1 := Lib.hid fun w => stationQ hX hp he w
  have K2 := Lib.hid fun w => station9Q hX w
  have K3 := Lib.hid fun w => terminalQ hY hp' he w
  have K4 := Lib.hid fun w => terminal11Q hY w
  have k5 := fun w => check12 a o r w
  have k6 := fun w => check13 a o r w
  rw [hC] at k5 k6
  unfold pv at k5 k6
  have K5 := Lib.hid k5
  have K6 := Lib.hid k6
  clear hX hY hC hp hp' he k5 k6
  have hA := below_alloc w (.cells #[.int .i64 a, .int .i64 o, .int .i64 r] 23)
  have hA2 := below_alloc (w.alloc (.cells #[.int .i64 a, .int .i64 o, .int .i64 r] 23)) (.cells #[.int .i64 ph, .int .i64 ot, .int .i64 si] 25)
  have hA3 := below_alloc ((w.alloc (.cells #[.int .i64 a, .int .i64 o, .int .i64 r] 23)).alloc (.cells #[.int .i64 ph, .int .i64 ot, .int .i64 si] 25)) (.cells #[.int .i64 ph', .int .i64 ce, .int .i64 ta, .int .i64 si'] 27)
  have P0 := Lib.hid (((Box3.new w a o r 23 w.heap.size rfl).mono hA2).mono hA3)
  have M0 := Lib.hid ((Box3.new (w.alloc (.cells #[.int .i64 a, .int .i64 o, .int .i64 r] 23)) ph ot si 25 (w.heap.size + 1) (by simp)).mono hA3)
  have X0 := Lib.hid (Box4.new ((w.alloc (.cells #[.int .i64 a, .int .i64 o, .int .i64 r] 23)).alloc (.cells #[.int .i64 ph, .int .i64 ot, .int .i64 si] 25)) ph' ce ta si' 27 (w.heap.size + 1 + 1) (by simp))
  have HB0 := Lib.hid ((hA.alloc hA.size (.cells #[.int .i64 ph, .int .i64 ot, .int .i64 si] 25)).alloc (by simp; omega) (.cells #[.int .i64 ph', .int .i64 ce, .int .i64 ta, .int .i64 si'] 27))
  clear hA hA2 hA3
  unfold pv mv xv
  go_enter Try.func3, Try.ntmps3
  go_wp2_with (go_at_call 8; refine (K1.out _).mono ?_)
  rintro e w1 ⟨rfl, hb⟩
  have hA := below_alloc w1 (.cells #[.int .i64 x1, .int .i64 x2, .int .i64 x3] 25)
  have hP := P0.out.mono hb
  have hM := M0.out.mono hb
  have P1 := Lib.hid (hP.mono hA)
  have M1 := Lib.hid (hM.mono hA)
  have X1 := Lib.hid ((X0.out.mono hb).mono hA)
  have A1 := Lib.hid (Box3.new w1 x1 x2 x3 25 w1.heap.size rfl)
  have hB1 := bthen HB0.out hb HB0.out.size
  have HB1 := Lib.hid (bthen hB1 hA hB1.size)
  obtain ⟨p0, p1, p2, _, _, _⟩ := hP
  obtain ⟨m0, m1, m2, _, _, _⟩ := hM
  have l0 := lt_of_cell p0
  have l1 := lt_of_cell m0
  clear hb hA hB1 P0 M0 X0 HB0
  go_wp2_with (go_at_call 9; refine (K2.out _).mono ?_)
  rintro e w2 ⟨rfl, hb⟩
  have hA := below_alloc w2 (.cells #[.int .i64 x1, .int .i64 x2, .int .i64 x3] 25)
  have hP := P1.out.mono hb
  have hX := X1.out.mono hb
  have P2 := Lib.hid (hP.mono hA)
  have X2 := Lib.hid (hX.mono hA)
  have A2 := Lib.hid ((A1.out.mono hb).mono hA)
  have B2 := Lib.hid (Box3.new w2 x1 x2 x3 25 w2.heap.size rfl)
  have hB1 := bthen HB1.out hb HB1.out.size
  have HB2 := Lib.hid (bthen hB1 hA hB1.size)
  clear p0 p1 p2 m0 m1 m2 l0 l1
  obtain ⟨p0, p1, p2, _, _, _⟩ := hP
  obtain ⟨m0, m1, m2, m3, _, _, _, _⟩ := hX
  have l0 := lt_of_cell p0
  have l1 := lt_of_cell m0
  clear hb hA hB1 P1 M1 X1 HB1 A1
  go_wp2_with (go_at_call 10; refine (K3.out _).mono ?_)
  rintro e w3 ⟨rfl, hb⟩
  have hA := below_alloc w3 (.cells #[.int .i64 y1, .int .i64 y2, .int .i64 y3, .int .i64 y4] 27)
  have hP := P2.out.mono hb
  have hX := X2.out.mono hb
  have P3 := Lib.hid (hP.mono hA)
  have A3 := Lib.hid ((A2.out.mono hb).mono hA)
  have B3' := Lib.hid ((B2.out.mono hb).mono hA)
  have C3 := Lib.hid (Box4.new w3 y1 y2 y3 y4 27 w3.heap.size rfl)
  have hB1 := bthen HB2.out hb HB2.out.size
  have HB3 := Lib.hid (bthen hB1 hA hB1.size)
  clear p0 p1 p2 m0 m1 m2 m3 l0 l1
  obtain ⟨p0, p1, p2, _, _, _⟩ := hP
  obtain ⟨m0, m1, m2, m3, _, _, _, _⟩ := hX
  have l0 := lt_of_cell p0
  have l1 := lt_of_cell m0
  clear hb hA hB1 P2 X2 HB2 A2 B2
  go_wp2_with (go_at_call 11; refine (K4.out _).mono ?_)
  rintro e w4 ⟨rfl, hb⟩
  have hA := below_alloc w4 (.cells #[.int .i64 y1, .int .i64 y2, .int .i64 y3, .int .i64 y4] 27)
  have P4 := (P3.out.mono hb).mono hA
  have A4 := (A3.out.mono hb).mono hA
  have B4' := (B3'.out.mono hb).mono hA
  have C4 := (C3.out.mono hb).mono hA
  have D4 := Box4.new w4 y1 y2 y3 y4 27 w4.heap.size rfl
  have hB1 := bthen HB3.out hb HB3.out.size
  have HB4 := Lib.hid (bthen hB1 hA hB1.size)
  clear p0 p1 p2 m0 m1 m2 m3 l0 l1 hb hA hB1 P3 HB3 A3 B3' C3
  go_upto_region 5 with fail
  generalize hW : w4.alloc (.cells #[.int .i64 y1, .int .i64 y2, .int .i64 y3, .int .i64 y4] 27) = W at *
  clear hW
  obtain ⟨p0, p1, p2, _, _, _⟩ := P4
  obtain ⟨a0, a1, a2, _, _, _⟩ := A4
  obtain ⟨b0, b1, b2, _, _, _⟩ := B4'
  obtain ⟨c0, c1, c2, c3, _, _, _, _⟩ := C4
  obtain ⟨d0, d1, d2, d3, _, _, _, _⟩ := D4
  have l0 := lt_of_cell p0
  have l1 := lt_of_cell a0
  have l2 := lt_of_cell b0
  have l3 := lt_of_cell c0
  have l4 := lt_of_cell d0
  refine wp_region_quiet_below (by kernel_rfl) (by kernel_rfl) ?_
  repeat (go_big_quiet_step (first | (go_at_call 12; exact Calls.regrown_of (K5.out _)) | (go_at_call 13; exact Calls.regrown_of (K6.out _)) | (go_at_call 14; exact Calls.regrown_of (awake14 _))))
  refine wpQuiet_nil ?_
  intro w5 hw5
  have HB5 := Lib.hid (bthen HB4.out (below_of_regrown hw5) HB4.out.size)
  clear hw5
  go_wp2
  go_ret
  exact ⟨rfl, HB5.out⟩
end Go.Proofs.Ytaocopmlgemgiaa
