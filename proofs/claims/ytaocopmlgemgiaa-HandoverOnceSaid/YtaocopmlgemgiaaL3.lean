/- Layer 42: the walk of HandoverRuns. -/
import Derived.Test.YtaocopmlgemgiaaR1
import Derived.Test.YtaocopmlgemgiaaL1
import Derived.RegionTactic
import Derived.Deep.DeepCutAuto
namespace Go.Proofs.Ytaocopmlgemgiaa
set_option linter.unusedVariables false
set_option linter.unusedSimpArgs false
open Go.RowKit Go.Sort
theorem run_ne27 (x1 x2 x3 x4 : Int) (w : World) : (Go.binOp .neq 27 (.agg #[.int .i64 x1, .int .i64 x2, .int .i64 x3, .int .i64 x4]) (.agg #[.int .i64 x1, .int .i64 x2, .int .i64 x3, .int .i64 x4])).run Try.prog w = .ok (.bool false) w := by
  have u3 := Try.underlying3
  have hS : Try.prog.underlying 27 = some (.struct (Try.prog.fieldsOf 27)) := by kernel_rfl
  have hp : Try.prog.stoodInHeld 27 = false := by kernel_rfl
  rw [run_neq_struct, show (10000 : Nat) = 9999 + 1 from rfl, run_equalIn_agg w 9999 27 _ _ hS hp]
  simp only [Program.fieldsOf, Try.underlying27]
  go_simp
attribute [local go_sem] gcell run_ne25 guard25 run_ne27 guard27

theorem wf64 {n : Int} (h : -1000000000 ≤ n ∧ n ≤ 1000000000) : (Lit.int .i64 n).wf = true := by
  simp only [Lit.wf, Bool.and_eq_true, decide_eq_true_eq]
  exact ⟨by show (-9223372036854775808 : Int) ≤ n; omega, by show n ≤ (9223372036854775807 : Int); omega⟩
structure ListIn (w : World) (a : Option Addr) (b m n c : Nat) (xs : Nat → Int) : Prop where
  hc : n ≤ c
  h0 : a = none → c = 0
  ha : 0 < c → a = some ⟨b, m, none⟩
  hx : ∀ i, i < n → w.cell? ⟨b, m + i, none⟩ = some (.int .i64 (xs i))

set_option maxRecDepth 100000 in
set_option maxHeartbeats 4000000 in
theorem runs4 (a : Option Addr) (b m n c : Nat) (xs : Nat → Int) (w : World) (L : ListIn w a b m n c xs) (hn : n ≤ 140737488351232) :
    Calls Try.prog 4 #[.slice a n c] w fun e w' => e = .returned (.bool true) ∧ Below w.heap.size w w' := by
  have HL := Lib.hid L
  clear L
  by_cases h300 : n ≤ 300
  · have hd : decide (n ≤ 300) = true := by simpa using h300
    go_enter Try.func4, Try.ntmps4
    go_wp2_with fail
    refine (light_any a n c _).mono ?_
    rw [hd]
    rintro e w' ⟨rfl, rfl⟩
    go_wp2_with fail
    refine (roll_any _ a b m n c xs h300 HL.out.hc HL.out.h0 HL.out.ha HL.out.hx).mono ?_
    rintro e w1 ⟨p, g, aa, cap, rfl, hD, hp, hB⟩
    have HB := Lib.hid hB
    have HD := Lib.hid hD
    clear hB hD
    go_wp2_with fail
    refine (dice_next p g aa cap n xs 0 9 _ (by omega) h300 HD.out).mono ?_
    have bv1 := dval_bd xs n 0 9 (by omega)
    generalize dval xs n 0 9 = v1 at *
    obtain ⟨k1, hk1⟩ : ∃ k1, dnext n 0 = k1 := ⟨_, rfl⟩
    have lk1 : k1 ≤ n := hk1 ▸ dnext_le (Nat.zero_le n)
    rw [hk1]
    clear hk1
    rintro e w2 ⟨rfl, hD, hO⟩
    have HB2 := Lib.hid (HB.out.trans (only_below hO hp HB.out.size))
    have HD2 := Lib.hid hD
    clear hD hO HB HD
    go_wp2_with fail
    refine (dice_next p g aa cap n xs k1 9 _ (by omega) h300 HD2.out).mono ?_
    have bv2 := dval_bd xs n k1 9 (by omega)
    generalize dval xs n k1 9 = v2 at *
    obtain ⟨k2, hk2⟩ : ∃ k2, dnext n k1 = k2 := ⟨_, rfl⟩
    have lk2 : k2 ≤ n := hk2 ▸ dnext_le lk1
    rw [hk2]
    clear hk2
    rintro e w3 ⟨rfl, hD, hO⟩
    have HB3 := Lib.hid (HB2.out.trans (only_below hO hp HB2.out.size))
    have HD3 := Lib.hid hD
    clear hD hO HB2 HD2
    go_wp2_with fail
    refine (dice_next p g aa cap n xs k2 9 _ (by omega) h300 HD3.out).mono ?_
    have bv3 := dval_bd xs n k2 9 (by omega)
    generalize dval xs n k2 9 = v3 at *
    obtain ⟨k3, hk3⟩ : ∃ k3, dnext n k2 = k3 := ⟨_, rfl⟩
    have lk3 : k3 ≤ n := hk3 ▸ dnext_le lk2
    rw [hk3]
    clear hk3
    rintro e w4 ⟨rfl, hD, hO⟩
    have HB4 := Lib.hid ((HB3.out.trans (only_below hO hp HB3.out.size)).alloc (by have := (HB3.out.trans (only_below hO hp HB3.out.size)).size; omega) (.cells #[.int .i64 (1 + v1), .int .i64 (1 + v2), .int .i64 (1 + v3)] 23))
    have HD4 := Lib.hid (hD.alloc (.cells #[.int .i64 (1 + v1), .int .i64 (1 + v2), .int .i64 (1 + v3)] 23))
    have P4 := Lib.hid (Box3.new w4 (1 + v1) (1 + v2) (1 + v3) 23 w4.heap.size rfl)
    have lp := lt_of_cell hD.c0
    clear hD hO HB3 HD3
    go_wp2_with fail
    refine (dice_next p g aa cap n xs k3 3 _ (by omega) h300 HD4.out).mono ?_
    have bv4 := dval_bd xs n k3 3 (by omega)
    generalize dval xs n k3 3 = v4 at *
    obtain ⟨k4, hk4⟩ : ∃ k4, dnext n k3 = k4 := ⟨_, rfl⟩
    have lk4 : k4 ≤ n := hk4 ▸ dnext_le lk3
    rw [hk4]
    clear hk4
    rintro e w5 ⟨rfl, hD, hO⟩
    have hB5 := HB4.out.trans (only_below hO hp HB4.out.size)
    have hP5 := P4.out.only hO (by omega)
    have lg := hD.gl
    have npz := hP5.lt
    go_wp2_with fail
    have z5 := hB5.size
    have hA := (below_alloc w5 (.cells #[.int .i64 0, .int .i64 0, .int .i64 0] 25))
    have hA2 := below_alloc (w5.alloc (.cells #[.int .i64 0, .int .i64 0, .int .i64 0] 25)) (.cells #[.int .i64 0, .int .i64 v4, .int .i64 0, .int .i64 0] 27)
    have hRS : RS w' ((w5.alloc (.cells #[.int .i64 0, .int .i64 0, .int .i64 0] 25)).alloc (.cells #[.int .i64 0, .int .i64 v4, .int .i64 0, .int .i64 0] 27)) p g aa cap n xs k4 w4.heap.size w5.heap.size (w5.heap.size + 1) (1 + v1) (1 + v2) (1 + v3) 0 0 0 0 v4 0 0 :=
      ⟨(hD.alloc _).alloc _, (hP5.mono hA).mono hA2, (Box3.new w5 0 0 0 25 w5.heap.size rfl).mono hA2, Box4.new _ 0 v4 0 0 27 (w5.heap.size + 1) (by simp), (hB5.alloc z5 _).alloc (by simp; omega) _, ⟨hp, z5, by omega⟩, by have := lt_of_cell hD.c0; omega⟩
    have HRS := Lib.hid hRS
    clear hD hO hB5 hP5 hA hA2 hRS HB4 HD4 P4
    go_loopw [7] (fun t wr => ∃ (k : Nat) (tk ph ot si ph' ce ta si' : Int), t = .int .i64 tk ∧ k ≤ n ∧ 0 ≤ tk ∧ tk ≤ 4 * k ∧ RS w' wr p g aa cap n xs k w4.heap.size w5.heap.size (w5.heap.size + 1) (1 + v1) (1 + v2) (1 + v3) ph ot si ph' ce ta si' ∧ (0 ≤ ph ∧ ph ≤ 3) ∧ (0 ≤ ph' ∧ ph' ≤ 2)) (fun _ wr => n - (intOf ((wr.cell? ⟨p, 1, none⟩).getD .nilIface)).toNat)
    case atStart => exact ⟨k4, 0, 0, 0, 0, 0, v4, 0, 0, rfl, lk4, by omega, by omega, HRS.out, ⟨by omega, by omega⟩, ⟨by omega, by omega⟩⟩
    case round =>
      clear HRS
      obtain ⟨k, tk, ph, ot, si, ph', ce, ta, si', rfl, hk, ht0, ht1, hS, hph, hph'⟩ := hrel
      have HS := Lib.hid hS
      have HM := Lib.hid (show (intOf ((wr.cell? ⟨p, 1, none⟩).getD .nilIface)).toNat = k by rw [hS.d.c1]; simp [intOf])
      clear hS
      by_cases hlt : k < n
      · have hgt : (0 : Int) < (n : Int) - k := by omega
        go_wp2_with fail
        refine (dice_rest p g aa cap n xs k _ hk h300 HS.out.d).mono ?_
        rintro e w6 ⟨rfl, q, rfl⟩
        have HS1 := Lib.hid (HS.out.mono (below_drewN (Below.refl _ _) q))
        go_wp2_with fail
        refine (dice_next p g aa cap n xs k 4 _ (by omega) h300 HS1.out.d).mono ?_
        have bc1 := dval_bd xs n k 4 (by omega)
        generalize dval xs n k 4 = c1 at *
        obtain ⟨j1, hj1⟩ : ∃ j, dnext n k = j := ⟨_, rfl⟩
        have lj1 : k ≤ j1 ∧ j1 ≤ n := by rw [← hj1]; unfold dnext; split <;> omega
        have lj0 : j1 = k + 1 := by rw [← hj1]; unfold dnext; rw [if_pos hlt]
        rw [hj1]
        clear hj1
        rintro e w7 ⟨rfl, hD, hO⟩
        have HS2 := Lib.hid (HS1.out.only hD hO)
        clear hD hO HS1
        go_wp2_with fail
        refine (dice_next p g aa cap n xs j1 4 _ (by omega) h300 HS2.out.d).mono ?_
        have bc2 := dval_bd xs n j1 4 (by omega)
        generalize dval xs n j1 4 = c2 at *
        obtain ⟨j2, hj2⟩ : ∃ j, dnext n j1 = j := ⟨_, rfl⟩
        have lj2 : j1 ≤ j2 ∧ j2 ≤ n := by rw [← hj2]; unfold dnext; split <;> omega
        rw [hj2]
        clear hj2
        rintro e w8 ⟨rfl, hD, hO⟩
        have HS3 := Lib.hid (HS2.out.only hD hO)
        clear hD hO HS2
        go_wp2_with fail
        refine (dice_next p g aa cap n xs j2 2 _ (by omega) h300 HS3.out.d).mono ?_
        have bc3 := dval_bd xs n j2 2 (by omega)
        generalize dval xs n j2 2 = c3 at *
        obtain ⟨j3, hj3⟩ : ∃ j, dnext n j2 = j := ⟨_, rfl⟩
        have lj3 : j2 ≤ j3 ∧ j3 ≤ n := by rw [← hj3]; unfold dnext; split <;> omega
        rw [hj3]
        clear hj3
        rintro e w9 ⟨rfl, hD, hO⟩
        have HS4 := Lib.hid (HS3.out.only hD hO)
        clear hD hO HS3
        go_upto_if 50 with fail
        go_cut [8] (fun s8 wx => ∃ ar : Int, s8 = .int .i64 ar ∧ wx = w9)
        case first =>
          have hM := HS4.out.M
          obtain ⟨m0, m1, m2, _, _, _⟩ := hM
          have l0 := lt_of_cell m0
          by_cases hz : c3 = 0
          · subst hz
            go_wp2_with fail
            go_meet
            exact ⟨_, rfl, rfl⟩
          · have hz' : (c3 == 0) = false := by simpa using hz
            go_wp2_with fail
            go_meet
            exact ⟨_, rfl, rfl⟩
        case rest =>
          obtain ⟨ar, rfl, hw⟩ := hcut
          subst hw
          go_wp2_with fail
          refine (dice_next p g aa cap n xs j3 7 _ (by omega) h300 HS4.out.d).mono ?_
          have bc4 := dval_bd xs n j3 7 (by omega)
          generalize dval xs n j3 7 = c4 at *
          obtain ⟨j4, hj4⟩ : ∃ j, dnext n j3 = j := ⟨_, rfl⟩
          have lj4 : j3 ≤ j4 ∧ j4 ≤ n := by rw [← hj4]; unfold dnext; split <;> omega
          rw [hj4]
          clear hj4
          rintro e w10 ⟨rfl, hD, hO⟩
          have HS5 := Lib.hid (HS4.out.only hD hO)
          clear hD hO HS4
          go_wp2_with fail
          refine (dice_next p g aa cap n xs j4 3 _ (by omega) h300 HS5.out.d).mono ?_
          have bc5 := dval_bd xs n j4 3 (by omega)
          generalize dval xs n j4 3 = c5 at *
          obtain ⟨j5, hj5⟩ : ∃ j, dnext n j4 = j := ⟨_, rfl⟩
          have lj5 : j4 ≤ j5 ∧ j5 ≤ n := by rw [← hj5]; unfold dnext; split <;> omega
          rw [hj5]
          clear hj5
          rintro e w11 ⟨rfl, hD, hO⟩
          have HS6 := Lib.hid (HS5.out.only hD hO)
          have hS := HS5.out.only hD hO
          clear hD hO HS5
          obtain ⟨⟨x1, x2, x3, x4⟩, hX⟩ : ∃ X, stS (1 + v1) (1 + v2) (1 + v3) ph ot si (1 + c4) ar (tk + c1) = X := ⟨_, rfl⟩
          obtain ⟨⟨y1, y2, y3, y4, y5⟩, hY⟩ : ∃ Y, teS (1 + v1) (1 + v2) (1 + v3) ph' ce ta si' (1 + (1 + c4) % 4) c5 (tk + c1) = Y := ⟨_, rfl⟩
          have bx := stS_ph (1 + v1) (1 + v2) (1 + v3) ph ot si (1 + c4) ar (tk + c1) hph
          have by' := teS_ph (1 + v1) (1 + v2) (1 + v3) ph' ce ta si' (1 + (1 + c4) % 4) c5 (tk + c1) hph'
          rw [hX] at bx
          rw [hY] at by'
          have K1 := Lib.hid fun w => stationQ hX (wf64 (by omega)) (wf64 (by omega)) w
          have K2 := Lib.hid fun w => station9Q hX w
          have K3 := Lib.hid fun w => terminalQ hY (wf64 (by omega)) (wf64 (by omega)) w
          have K4 := Lib.hid fun w => terminal11Q hY w
          have BX := Lib.hid bx
          have BY := Lib.hid by'
          clear hX hY bx by'
          obtain ⟨p0, p1, p2, _, _, _⟩ := hS.P
          obtain ⟨m0, m1, m2, _, _, _⟩ := hS.M
          have l0 := lt_of_cell p0
          have l1 := lt_of_cell m0
          clear hS
          go_wp2_with (go_at_call 8; refine (K1.out _).mono ?_)
          rintro e w12 ⟨rfl, hb⟩
          have hA := below_alloc w12 (.cells #[.int .i64 x1, .int .i64 x2, .int .i64 x3] 25)
          have hS2 := HS6.out.mono hb
          have HS7 := Lib.hid (hS2.mono hA)
          have A1 := Lib.hid (Box3.new w12 x1 x2 x3 25 w12.heap.size rfl)
          clear p0 p1 p2 m0 m1 m2 l0 l1
          obtain ⟨p0, p1, p2, _, _, _⟩ := hS2.P
          obtain ⟨m0, m1, m2, _, _, _⟩ := hS2.M
          have l0 := lt_of_cell p0
          have l1 := lt_of_cell m0
          clear hS2 hb hA HS6
          go_wp2_with (go_at_call 9; refine (K2.out _).mono ?_)
          rintro e w13 ⟨rfl, hb⟩
          have hA := below_alloc w13 (.cells #[.int .i64 x1, .int .i64 x2, .int .i64 x3] 25)
          have hS2 := HS7.out.mono hb
          have HS8 := Lib.hid (hS2.mono hA)
          have A2 := Lib.hid ((A1.out.mono hb).mono hA)
          have B2 := Lib.hid (Box3.new w13 x1 x2 x3 25 w13.heap.size rfl)
          clear p0 p1 p2 m0 m1 m2 l0 l1
          obtain ⟨p0, p1, p2, _, _, _⟩ := hS2.P
          obtain ⟨m0, m1, m2, m3, _, _, _, _⟩ := hS2.X
          have l0 := lt_of_cell p0
          have l1 := lt_of_cell m0
          have s1 := lt_of_cell m0
          clear hS2 hb hA HS7 A1
          go_wp2_with (go_at_call 10; refine (K3.out _).mono ?_)
          rintro e w14 ⟨rfl, hb⟩
          have hA := below_alloc w14 (.cells #[.int .i64 y1, .int .i64 y2, .int .i64 y3, .int .i64 y4] 27)
          have hS2 := HS8.out.mono hb
          have HS9 := Lib.hid (hS2.mono hA)
          have A3 := Lib.hid ((A2.out.mono hb).mono hA)
          have B3 := Lib.hid ((B2.out.mono hb).mono hA)
          have C3 := Lib.hid (Box4.new w14 y1 y2 y3 y4 27 w14.heap.size rfl)
          clear p0 p1 p2 m0 m1 m2 m3 l0 l1
          obtain ⟨p0, p1, p2, _, _, _⟩ := hS2.P
          obtain ⟨m0, m1, m2, m3, _, _, _, _⟩ := hS2.X
          have l0 := lt_of_cell p0
          have l1 := lt_of_cell m0
          clear hS2 hb hA HS8 A2 B2
          go_wp2_with (go_at_call 11; refine (K4.out _).mono ?_)
          rintro e w15 ⟨rfl, hb⟩
          have hA := below_alloc w15 (.cells #[.int .i64 y1, .int .i64 y2, .int .i64 y3, .int .i64 y4] 27)
          have hS2 := HS9.out.mono hb
          have s2 := lt_of_cell hS2.X.c0
          have HS10 := Lib.hid (hS2.mono hA)
          clear hS2
          have A4 := (A3.out.mono hb).mono hA
          have B4 := (B3.out.mono hb).mono hA
          have C4 := (C3.out.mono hb).mono hA
          have D4 := Box4.new w15 y1 y2 y3 y4 27 w15.heap.size rfl
          clear p0 p1 p2 m0 m1 m2 m3 l0 l1 hb hA HS9 A3 B3 C3
          go_upto_region 17 with fail
          generalize hW : w15.alloc (.cells #[.int .i64 y1, .int .i64 y2, .int .i64 y3, .int .i64 y4] 27) = W at *
          clear hW
          obtain ⟨a0, a1, a2, _, _, _⟩ := A4
          obtain ⟨b0, b1, b2, _, _, _⟩ := B4
          obtain ⟨c0, c1', c2', c3', _, _, _, _⟩ := C4
          obtain ⟨d0, d1, d2, d3, _, _, _, _⟩ := D4
          have l1 := lt_of_cell a0
          have l2 := lt_of_cell b0
          have l3 := lt_of_cell c0
          have l4 := lt_of_cell d0
          go_wp2_with fail
          have hSW := HS10.out
          have l5 := lt_of_cell hSW.M.c0
          have l6 := lt_of_cell hSW.X.c0
          obtain ⟨_, _, _, f0, f1, f2⟩ := hSW.M
          obtain ⟨_, _, _, _, f4, f5, f6, f7⟩ := hSW.X
          have mm0 := hSW.M.c0
          have mm1 := hSW.M.c1
          have mm2 := hSW.M.c2
          have xx0 := hSW.X.c0
          have xx1 := hSW.X.c1
          have xx2 := hSW.X.c2
          have xx3 := hSW.X.c3
          have ne1 := hSW.ne.2.2.2.2.2.2.2
          have n1 : w5.heap.size ≠ w13.heap.size := by omega
          have n2 : w5.heap.size + 1 ≠ w13.heap.size := by omega
          have n3 : w5.heap.size ≠ w15.heap.size := by omega
          have n4 : w5.heap.size + 1 ≠ w15.heap.size := by omega
          have n5 := Ne.symm n1
          have n6 := Ne.symm n2
          have n7 := Ne.symm n3
          have n8 := Ne.symm n4
          clear hSW
          go_region
          all_goals
            go_wp2_with fail
            have hR1 := ((HS10.out.setM x1 x2 x3).setX y1 y2 y3 y4).mono (Below.refl _ _).drew
            have hR2 := ((HS10.out.setX y1 y2 y3 y4).setM x1 x2 x3).mono (Below.refl _ _).drew
            have e1 := hR1.d.c1
            have e2 := hR2.d.c1
            unfold set4 set3 at e1 e2
            first
              | exact ⟨⟨j5, tk + c1, x1, x2, x3, y1, y2, y3, y4, rfl, by omega, by omega, by omega, hR1, BX.out, BY.out⟩, by rw [e1, HM.out]; simp [intOf]; omega⟩
              | exact ⟨⟨j5, tk + c1, x1, x2, x3, y1, y2, y3, y4, rfl, by omega, by omega, by omega, hR2, BX.out, BY.out⟩, by rw [e2, HM.out]; simp [intOf]; omega⟩
      · have hgt : ¬ (0 : Int) < (n : Int) - k := by omega
        go_wp2_with fail
        refine (dice_rest p g aa cap n xs k _ hk h300 HS.out.d).mono ?_
        rintro e w6 ⟨rfl, q, rfl⟩
        have HB := Lib.hid (below_drewN HS.out.bel q)
        go_wp2_with fail
        refine (awake14 _).mono ?_
        rintro e w7 ⟨rfl, hb⟩
        have HB2 := Lib.hid (bthen HB.out hb HB.out.size)
        clear hb
        go_wp2
        go_ret
        exact ⟨rfl, HB2.out⟩
  · have hd : decide (n ≤ 300) = false := by simpa using h300
    go_enter Try.func4, Try.ntmps4
    go_wp2_with (first
      | (go_at_call 15; refine (light_any a n c _).mono ?_; rw [hd]; rintro e w' ⟨rfl, rfl⟩)
      | (go_at_call 14; refine (awake14 _).mono ?_; rintro e w' ⟨rfl, hb⟩))
    go_ret
    exact ⟨rfl, hb⟩
end Go.Proofs.Ytaocopmlgemgiaa
