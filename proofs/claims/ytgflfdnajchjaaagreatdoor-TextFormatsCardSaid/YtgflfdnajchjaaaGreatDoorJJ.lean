import Derived.Test.YtgflfdnajchjaaaGreatDoorJI
import Derived.Test.YtgflfdnajchjaaaGreatDoorJF
import Derived.Test.YtgflfdnajchjaaaGreatDoorJH
/- Layer 45: the checks of a network. -/
namespace Go.Proofs.YtgflfdnajchjaaaGreatDoor.Tm
set_option linter.unusedVariables false
set_option linter.unusedSimpArgs false
open Go.RowKit Go.Sort
open Go.Proofs.YtgflfdnajchjaaaGreatDoor.Be (blw beC lkB bev)
open Go.Proofs.YtgflfdnajchjaaaGreatDoor.Ch (btw)
attribute [local go_sem] gcell
set_option maxRecDepth 100000 in
set_option maxHeartbeats 16000000 in
theorem bad50 (c : Cf) (X : Nat → Ch.Fd) (T : Nat → Te) (w : World) (H : CfIn w c X T) (hbad : ¬ (btw (c.h 1) 1 3 = true ∧ btw c.tn 1 4 = true ∧ rngC c = true)) :
    Calls Tryz.prog 50 #[cfv c] w fun e w' => e = .returned (.int .i64 (netC c X T)) ∧ Below w.heap.size w w' := by
  have hb0 : Below w.heap.size w (w.alloc (.cells (cfs c).toArray 37)) := (Below.refl _ _).alloc (Nat.le_refl _) _
  have hv0 := vat_list w (cfs c) 37 20 (ccell c) (cc_at c)
  have hlt : w.heap.size < (w.alloc (.cells (cfs c).toArray 37)).heap.size := by simp
  have hT := H.mono hb0
  have e20 : (cfs c).toArray = #[.int .i64 (c.h 0), .int .i64 (c.h 1), .int .i64 (c.h 2), .int .i64 (c.h 3), .int .i64 (c.h 4), .int .i64 (c.h 5), .int .i64 (c.h 6), .int .i64 (c.h 7), .int .i64 (c.h 8), .int .i64 (c.h 9), .int .i64 (c.h 10), .int .i64 (c.h 11), .int .i64 (c.h 12), .int .i64 (c.h 13), .int .i64 (c.h 14), .int .i64 (c.h 15), .int .i64 (c.h 16), .int .i64 (c.h 17), .slice c.fa c.fn c.fc, .slice c.ta c.tn c.tc] := rfl
  unfold cfv
  rw [e20] at hb0 hv0 hlt hT ⊢
  clear e20 H
  have HB := Lib.hid hb0
  have HV := Lib.hid hv0
  have HT := Lib.hid hT
  have K75 := Lib.hid between75
  clear hb0 hv0 hT
  go_enter Tryz.func50, Tryz.ntmps50
  go_upto_region 1 with fail
  generalize (w.alloc (.cells #[.int .i64 (c.h 0), .int .i64 (c.h 1), .int .i64 (c.h 2), .int .i64 (c.h 3), .int .i64 (c.h 4), .int .i64 (c.h 5), .int .i64 (c.h 6), .int .i64 (c.h 7), .int .i64 (c.h 8), .int .i64 (c.h 9), .int .i64 (c.h 10), .int .i64 (c.h 11), .int .i64 (c.h 12), .int .i64 (c.h 13), .int .i64 (c.h 14), .int .i64 (c.h 15), .int .i64 (c.h 16), .int .i64 (c.h 17), .slice c.fa c.fn c.fc, .slice c.ta c.tn c.tc] 37)) = w1 at *
  have y1 : w1.cell? ⟨w.heap.size, 1, none⟩ = some (.int .i64 (c.h 1)) := HV.out.c 1 (by omega)
  cases hA : btw (c.h 1) 1 3
  · go_wp2_with (go_at_call 75; refine (K75.out _ _ _ _).mono ?_; (first | rw [hA]); rintro e w' ⟨rfl, hw⟩; obtain rfl := hw.symm)
    go_ret
    exact ⟨ret_int (by unfold netC; rw [if_pos hA]), HB.out⟩
  · go_upto_region 3 with (go_at_call 75; refine (K75.out _ _ _ _).mono ?_; (first | rw [hA]); rintro e w' ⟨rfl, hw⟩; obtain rfl := hw.symm)
    have hAH := Lib.hid hA
    clear hA y1
    have x13 : w1.cell? ⟨w.heap.size, 19, none⟩ = some (.slice c.ta c.tn c.tc) := HV.out.c 19 (by omega)
    have HTL := Lib.hid HT.out.tl
    have HFL := Lib.hid HT.out.fl
    cases hT : btw c.tn 1 4
    · go_wp2_with (go_at_call 75; refine (K75.out _ _ _ _).mono ?_; (first | rw [hT]); rintro e w' ⟨rfl, hw⟩; obtain rfl := hw.symm)
      go_ret
      exact ⟨ret_int (by unfold netC; rw [if_neg (by rw [hAH.out]; simp), if_pos hT]), HB.out⟩
    · go_upto_region 5 with (go_at_call 75; refine (K75.out _ _ _ _).mono ?_; (first | rw [hT]); rintro e w' ⟨rfl, hw⟩; obtain rfl := hw.symm)
      have hTH := Lib.hid hT
      clear hT x13
      have y0 : w1.cell? ⟨w.heap.size, 0, none⟩ = some (.int .i64 (c.h 0)) := HV.out.c 0 (by omega)
      have y2 : w1.cell? ⟨w.heap.size, 2, none⟩ = some (.int .i64 (c.h 2)) := HV.out.c 2 (by omega)
      have y3 : w1.cell? ⟨w.heap.size, 3, none⟩ = some (.int .i64 (c.h 3)) := HV.out.c 3 (by omega)
      have y4 : w1.cell? ⟨w.heap.size, 4, none⟩ = some (.int .i64 (c.h 4)) := HV.out.c 4 (by omega)
      have y5 : w1.cell? ⟨w.heap.size, 5, none⟩ = some (.int .i64 (c.h 5)) := HV.out.c 5 (by omega)
      cases g0 : btw (c.h 0) 0 1048576
      · go_wp2_with (go_at_call 75; refine (K75.out _ _ _ _).mono ?_; (first | rw [g0]); rintro e w' ⟨rfl, hw⟩; obtain rfl := hw.symm)
        go_ret
        exact ⟨ret_int (by unfold netC; rw [if_neg (by rw [hAH.out]; simp), if_neg (by rw [hTH.out]; simp), if_pos (by unfold rngC; rw [g0]; simp)]), HB.out⟩
      · cases g2 : btw (c.h 2) 1 12
        · go_wp2_with (go_at_call 75; refine (K75.out _ _ _ _).mono ?_; (first | rw [g0] | rw [g2]); rintro e w' ⟨rfl, hw⟩; obtain rfl := hw.symm)
          go_ret
          exact ⟨ret_int (by unfold netC; rw [if_neg (by rw [hAH.out]; simp), if_neg (by rw [hTH.out]; simp), if_pos (by unfold rngC; rw [g2]; simp)]), HB.out⟩
        · cases g3 : btw (c.h 3) 1 1000
          · go_wp2_with (go_at_call 75; refine (K75.out _ _ _ _).mono ?_; (first | rw [g0] | rw [g2] | rw [g3]); rintro e w' ⟨rfl, hw⟩; obtain rfl := hw.symm)
            go_ret
            exact ⟨ret_int (by unfold netC; rw [if_neg (by rw [hAH.out]; simp), if_neg (by rw [hTH.out]; simp), if_pos (by unfold rngC; rw [g3]; simp)]), HB.out⟩
          · cases g4 : btw (c.h 4) 1 1000
            · go_wp2_with (go_at_call 75; refine (K75.out _ _ _ _).mono ?_; (first | rw [g0] | rw [g2] | rw [g3] | rw [g4]); rintro e w' ⟨rfl, hw⟩; obtain rfl := hw.symm)
              go_ret
              exact ⟨ret_int (by unfold netC; rw [if_neg (by rw [hAH.out]; simp), if_neg (by rw [hTH.out]; simp), if_pos (by unfold rngC; rw [g4]; simp)]), HB.out⟩
            · cases g5 : btw (c.h 5) 1 32
              · go_wp2_with (go_at_call 75; refine (K75.out _ _ _ _).mono ?_; (first | rw [g0] | rw [g2] | rw [g3] | rw [g4] | rw [g5]); rintro e w' ⟨rfl, hw⟩; obtain rfl := hw.symm)
                go_ret
                exact ⟨ret_int (by unfold netC; rw [if_neg (by rw [hAH.out]; simp), if_neg (by rw [hTH.out]; simp), if_pos (by unfold rngC; rw [g5]; simp)]), HB.out⟩
              · have hRH := Lib.hid (show rngC c = true from by unfold rngC; rw [g0, g2, g3, g4, g5]; rfl)
                exact absurd ⟨hAH.out, hTH.out, hRH.out⟩ hbad
end Go.Proofs.YtgflfdnajchjaaaGreatDoor.Tm
/- Layer 45: the checks of a network. -/
namespace Go.Proofs.YtgflfdnajchjaaaGreatDoor.Tm
set_option linter.unusedVariables false
set_option linter.unusedSimpArgs false
open Go.RowKit Go.Sort
open Go.Proofs.YtgflfdnajchjaaaGreatDoor.Be (blw beC lkB bev)
open Go.Proofs.YtgflfdnajchjaaaGreatDoor.Ch (btw)
attribute [local go_sem] gcell
set_option maxRecDepth 100000 in
set_option maxHeartbeats 16000000 in
theorem sub50 (c : Cf) (X : Nat → Ch.Fd) (T : Nat → Te) (w : World) (H : CfIn w c X T) (hA : btw (c.h 1) 1 3 = true) (hT : btw c.tn 1 4 = true) (g0 : btw (c.h 0) 0 1048576 = true) (g2 : btw (c.h 2) 1 12 = true) (g3 : btw (c.h 3) 1 1000 = true) (g4 : btw (c.h 4) 1 1000 = true) (g5 : btw (c.h 5) 1 32 = true) (hs : ¬ subC c) :
    Calls Tryz.prog 50 #[cfv c] w fun e w' => e = .returned (.int .i64 (netC c X T)) ∧ Below w.heap.size w w' := by
  have hb0 : Below w.heap.size w (w.alloc (.cells (cfs c).toArray 37)) := (Below.refl _ _).alloc (Nat.le_refl _) _
  have hv0 := vat_list w (cfs c) 37 20 (ccell c) (cc_at c)
  have hlt : w.heap.size < (w.alloc (.cells (cfs c).toArray 37)).heap.size := by simp
  have hT := H.mono hb0
  have e20 : (cfs c).toArray = #[.int .i64 (c.h 0), .int .i64 (c.h 1), .int .i64 (c.h 2), .int .i64 (c.h 3), .int .i64 (c.h 4), .int .i64 (c.h 5), .int .i64 (c.h 6), .int .i64 (c.h 7), .int .i64 (c.h 8), .int .i64 (c.h 9), .int .i64 (c.h 10), .int .i64 (c.h 11), .int .i64 (c.h 12), .int .i64 (c.h 13), .int .i64 (c.h 14), .int .i64 (c.h 15), .int .i64 (c.h 16), .int .i64 (c.h 17), .slice c.fa c.fn c.fc, .slice c.ta c.tn c.tc] := rfl
  unfold cfv
  rw [e20] at hb0 hv0 hlt hT ⊢
  clear e20 H
  have HB := Lib.hid hb0
  have HV := Lib.hid hv0
  have HT := Lib.hid hT
  have K75 := Lib.hid between75
  clear hb0 hv0 hT
  go_enter Tryz.func50, Tryz.ntmps50
  go_upto_region 1 with fail
  generalize (w.alloc (.cells #[.int .i64 (c.h 0), .int .i64 (c.h 1), .int .i64 (c.h 2), .int .i64 (c.h 3), .int .i64 (c.h 4), .int .i64 (c.h 5), .int .i64 (c.h 6), .int .i64 (c.h 7), .int .i64 (c.h 8), .int .i64 (c.h 9), .int .i64 (c.h 10), .int .i64 (c.h 11), .int .i64 (c.h 12), .int .i64 (c.h 13), .int .i64 (c.h 14), .int .i64 (c.h 15), .int .i64 (c.h 16), .int .i64 (c.h 17), .slice c.fa c.fn c.fc, .slice c.ta c.tn c.tc] 37)) = w1 at *
  have y0 : w1.cell? ⟨w.heap.size, 0, none⟩ = some (.int .i64 (c.h 0)) := HV.out.c 0 (by omega)
  have y1 : w1.cell? ⟨w.heap.size, 1, none⟩ = some (.int .i64 (c.h 1)) := HV.out.c 1 (by omega)
  have y2 : w1.cell? ⟨w.heap.size, 2, none⟩ = some (.int .i64 (c.h 2)) := HV.out.c 2 (by omega)
  have y3 : w1.cell? ⟨w.heap.size, 3, none⟩ = some (.int .i64 (c.h 3)) := HV.out.c 3 (by omega)
  have y4 : w1.cell? ⟨w.heap.size, 4, none⟩ = some (.int .i64 (c.h 4)) := HV.out.c 4 (by omega)
  have y5 : w1.cell? ⟨w.heap.size, 5, none⟩ = some (.int .i64 (c.h 5)) := HV.out.c 5 (by omega)
  have x13 : w1.cell? ⟨w.heap.size, 19, none⟩ = some (.slice c.ta c.tn c.tc) := HV.out.c 19 (by omega)
  have hAH := Lib.hid hA
  have hTH := Lib.hid hT
  have HTL := Lib.hid HT.out.tl
  have HFL := Lib.hid HT.out.fl
  have hRH := Lib.hid (show rngC c = true from by unfold rngC; rw [g0, g2, g3, g4, g5]; rfl)
  go_wp2_with (go_at_call 75; refine (K75.out _ _ _ _).mono ?_; (first | rw [hA] | rw [hT] | rw [g0] | rw [g2] | rw [g3] | rw [g4] | rw [g5]); rintro e w' ⟨rfl, hw⟩; obtain rfl := hw.symm)
  clear hA hT g0 g2 g3 g4 g5 y0 y1 y2 y3 y4 y5 x13
  have KN := Lib.hid (Ne.new76 w1)
  refine KN.out.mono ?_
  rintro e w2 ⟨p, q, rfl, rp, rq, hb2⟩
  have hb3 : Below w2.heap.size w2 (w2.alloc (.cells #[.slice (some ⟨p, 0, none⟩) 1 1, .slice (some ⟨q, 0, none⟩) 1 1] 146)) := (Below.refl _ _).alloc (Nat.le_refl _) _
  have HB3 := Lib.hid (hb2.trans (hb3.mono hb2.size))
  have RP := Lib.hid (rp.mono hb3)
  have RQ := Lib.hid (rq.mono hb3)
  have sc0 : (w2.alloc (.cells #[.slice (some ⟨p, 0, none⟩) 1 1, .slice (some ⟨q, 0, none⟩) 1 1] 146)).cell? ⟨w2.heap.size, 0, none⟩ = some (.slice (some ⟨p, 0, none⟩) 1 1) := by simp [go_sem]
  have sc1 : (w2.alloc (.cells #[.slice (some ⟨p, 0, none⟩) 1 1, .slice (some ⟨q, 0, none⟩) 1 1] 146)).cell? ⟨w2.heap.size, 1, none⟩ = some (.slice (some ⟨q, 0, none⟩) 1 1) := by simp [go_sem]
  have SC0 := Lib.hid sc0
  have SC1 := Lib.hid sc1
  clear rp rq hb2 hb3 KN sc0 sc1
  go_upto_region 8 with fail
  generalize (w2.alloc (.cells #[.slice (some ⟨p, 0, none⟩) 1 1, .slice (some ⟨q, 0, none⟩) 1 1] 146)) = w3 at *
  generalize w2.heap.size = S at *
  have N3 := Lib.hid (show ¬ subC c → netC c X T = 3 from fun hs => by unfold netC; rw [if_neg (by rw [hAH.out]; simp), if_neg (by rw [hTH.out]; simp), if_neg (by rw [hRH.out]; simp), if_pos hs])
  have HR := Lib.hid (range_cf (HV.out.mono HB3.out))
  have l3 := Nat.lt_of_lt_of_le hlt HB3.out.size
  go_wp2_with (refine wpList_load_mid rfl 37 (.tmp 1) rfl w.heap.size 0 rfl (cfs c) _ HR.out Tryz.underlying37 rfl (by kernel_rfl) ?_; rw [cfs_arr])
  refine (entry78 c _).mono ?_
  rintro e w4 ⟨rfl, hb4⟩
  have HB4 := Lib.hid (HB3.out.trans (hb4.mono HB3.out.size))
  have RP4 := Lib.hid (RP.out.mono hb4)
  have RQ4 := Lib.hid (RQ.out.mono hb4)
  have SD0 := Lib.hid (up hb4 SC0.out)
  have SD1 := Lib.hid (up hb4 SC1.out)
  clear hb4 HR l3 RP RQ SC0 SC1
  go_wp2_with fail
  refine (Ac.check77 _ _ _ _).mono ?_
  rintro e w5 ⟨rfl, hb5⟩
  have HB5 := Lib.hid (HB4.out.trans (hb5.mono HB4.out.size))
  have RP5 := Lib.hid (RP4.out.mono hb5)
  have RQ5 := Lib.hid (RQ4.out.mono hb5)
  have SE0 := Lib.hid (up hb5 SD0.out)
  have SE1 := Lib.hid (up hb5 SD1.out)
  clear hb5 RP4 RQ4 SD0 SD1
  generalize hz : Ac.acC (c.h 6) (c.h 7) (c.h 8) = za at *
  have HZA := Lib.hid hz
  clear hz
  by_cases a0 : za = 0
  · have qa : (za != 0) = false := by simp [a0]
    have HA0 := Lib.hid a0
    clear a0
    have y9 : w5.cell? ⟨w.heap.size, 9, none⟩ = some (.int .i64 (c.h 9)) := (HV.out.mono HB5.out).c 9 (by omega)
    have y10 : w5.cell? ⟨w.heap.size, 10, none⟩ = some (.int .i64 (c.h 10)) := (HV.out.mono HB5.out).c 10 (by omega)
    have y11 : w5.cell? ⟨w.heap.size, 11, none⟩ = some (.int .i64 (c.h 11)) := (HV.out.mono HB5.out).c 11 (by omega)
    have l5 := Nat.lt_of_lt_of_le hlt HB5.out.size
    have KH := Lib.hid (Ho.check12 (c.h 9) (c.h 10) (c.h 11))
    unfold Ho.pv at KH
    generalize hz : Ho.chkP (c.h 9) (c.h 10) (c.h 11) = zh at *
    have HZH := Lib.hid hz
    clear hz
    go_wp2_with fail
    refine (KH.out _).mono ?_
    rintro e w6 ⟨rfl, hb6⟩
    have HB6 := Lib.hid (HB5.out.trans (hb6.mono HB5.out.size))
    have RP6 := Lib.hid (RP5.out.mono hb6)
    have RQ6 := Lib.hid (RQ5.out.mono hb6)
    have sf0 := up hb6 SE0.out
    have sf1 := up hb6 SE1.out
    clear hb6 RP5 RQ5 SE0 SE1 y9 y10 y11 l5 KH
    by_cases h0 : zh = 0
    · have qh : (zh != 0) = false := by simp [h0]
      have HH0 := Lib.hid h0
      clear h0
      have y12 : w6.cell? ⟨w.heap.size, 12, none⟩ = some (.int .i64 (c.h 12)) := (HV.out.mono HB6.out).c 12 (by omega)
      have y13 : w6.cell? ⟨w.heap.size, 13, none⟩ = some (.int .i64 (c.h 13)) := (HV.out.mono HB6.out).c 13 (by omega)
      have y14 : w6.cell? ⟨w.heap.size, 14, none⟩ = some (.int .i64 (c.h 14)) := (HV.out.mono HB6.out).c 14 (by omega)
      have l6 := Nat.lt_of_lt_of_le hlt HB6.out.size
      have lS := lt_of_cell sf0
      have km := Me.check22 (c.h 12) (c.h 13) (c.h 14) (some ⟨p, 0, none⟩) (some ⟨q, 0, none⟩) 1 1 1 1 (fun _ => 0) (fun _ => 0) w6 RP6.out RQ6.out (by omega) (by omega)
      rw [me_one] at km
      unfold Me.rv Me.sv at km
      have KM := Lib.hid km
      clear km
      cases hm : Me.rok (c.h 12) (c.h 13) (c.h 14)
      · have HM := Lib.hid hm
        rw [hm] at KM
        clear hm
        go_wp2_with fail
        refine KM.out.mono ?_
        rintro e w7 ⟨rfl, hb7⟩
        have HB7 := Lib.hid (HB6.out.trans (hb7.mono HB6.out.size))
        clear hb7 sf0 sf1 y12 y13 y14 KM
        go_wp2
        go_ret
        exact ⟨ret_int (N3.out (fun h => by have := h.2.2.1; rw [HM.out] at this; cases this)).symm, bthen' HB.out HB7.out⟩
      · have HM := Lib.hid hm
        rw [hm] at KM
        clear hm
        go_wp2_with fail
        refine KM.out.mono ?_
        rintro e w7 ⟨rfl, hb7⟩
        have HB7 := Lib.hid (HB6.out.trans (hb7.mono HB6.out.size))
        clear hb7 sf0 sf1 y12 y13 y14 KM l6 lS
        have y15 : w7.cell? ⟨w.heap.size, 15, none⟩ = some (.int .i64 (c.h 15)) := (HV.out.mono HB7.out).c 15 (by omega)
        have y16 : w7.cell? ⟨w.heap.size, 16, none⟩ = some (.int .i64 (c.h 16)) := (HV.out.mono HB7.out).c 16 (by omega)
        have y17 : w7.cell? ⟨w.heap.size, 17, none⟩ = some (.int .i64 (c.h 17)) := (HV.out.mono HB7.out).c 17 (by omega)
        have l7 := Nat.lt_of_lt_of_le hlt HB7.out.size
        by_cases ho : c.h 15 = 0
        · have qo : (c.h 15 != 0) = false := by simp [ho]
          have HO := Lib.hid ho
          clear ho
          cases hu : btw (c.h 16) 0 256
          · have HU := Lib.hid hu
            go_wp2_with (go_at_call 75; refine (K75.out _ _ _ _).mono ?_; (first | rw [hu]); rintro e w' ⟨rfl, hw⟩; obtain rfl := hw.symm)
            go_ret
            exact ⟨ret_int (N3.out (fun h => by have := h.2.2.2.2.1; rw [HU.out] at this; cases this)).symm, bthen' HB.out HB7.out⟩
          · cases hd : btw (c.h 17) 0 256
            · have HD := Lib.hid hd
              go_wp2_with (go_at_call 75; refine (K75.out _ _ _ _).mono ?_; (first | rw [hu] | rw [hd]); rintro e w' ⟨rfl, hw⟩; obtain rfl := hw.symm)
              go_ret
              exact ⟨ret_int (N3.out (fun h => by have := h.2.2.2.2.2; rw [HD.out] at this; cases this)).symm, bthen' HB.out HB7.out⟩
            · exact absurd ⟨HZA.out.trans HA0.out, HZH.out.trans HH0.out, HM.out, HO.out, hu, hd⟩ hs
        · have qo : (c.h 15 != 0) = true := by rw [bne_iff_ne]; exact ho
          have HO := Lib.hid ho
          clear ho
          go_wp2
          go_ret
          exact ⟨ret_int (N3.out (fun h => HO.out h.2.2.2.1)).symm, bthen' HB.out HB7.out⟩
    · have qh : (zh != 0) = true := by rw [bne_iff_ne]; exact h0
      have HH0 := Lib.hid h0
      clear h0
      go_wp2
      go_ret
      exact ⟨ret_int (N3.out (fun h => HH0.out (HZH.out.symm.trans h.2.1))).symm, bthen' HB.out HB6.out⟩
  · have qa : (za != 0) = true := by rw [bne_iff_ne]; exact a0
    have HA0 := Lib.hid a0
    clear a0
    go_wp2
    go_ret
    exact ⟨ret_int (N3.out (fun h => HA0.out (HZA.out.symm.trans h.1))).symm, bthen' HB.out HB5.out⟩
end Go.Proofs.YtgflfdnajchjaaaGreatDoor.Tm
/- Layer 45: the checks of a network. -/
namespace Go.Proofs.YtgflfdnajchjaaaGreatDoor.Tm
set_option linter.unusedVariables false
set_option linter.unusedSimpArgs false
open Go.RowKit Go.Sort
open Go.Proofs.YtgflfdnajchjaaaGreatDoor.Be (blw beC lkB bev)
open Go.Proofs.YtgflfdnajchjaaaGreatDoor.Ch (btw)
attribute [local go_sem] gcell
theorem tcs_arr (t : Te) : (tcs t).toArray = #[.int .i64 t.cl, .int .i64 t.cs, .slice t.ba t.bn t.bc, .slice t.ka t.kn t.kc, .int .i64 t.fr, .int .i64 t.wd, .int .i64 t.bk, .int .i64 t.cy, .int .i64 t.of', .int .i64 t.on', .int .i64 t.li, .int .i64 t.sh, .int .i64 t.ss, .int .i64 t.bt] := rfl
set_option maxRecDepth 100000 in
set_option maxHeartbeats 16000000 in
theorem good50 (c : Cf) (X : Nat → Ch.Fd) (T : Nat → Te) (w : World) (H : CfIn w c X T) (hA : btw (c.h 1) 1 3 = true) (hT : btw c.tn 1 4 = true) (g0 : btw (c.h 0) 0 1048576 = true) (g2 : btw (c.h 2) 1 12 = true) (g3 : btw (c.h 3) 1 1000 = true) (g4 : btw (c.h 4) 1 1000 = true) (g5 : btw (c.h 5) 1 32 = true) (hs : subC c) :
    Calls Tryz.prog 50 #[cfv c] w fun e w' => e = .returned (.int .i64 (netC c X T)) ∧ Below w.heap.size w w' := by
  have hb0 : Below w.heap.size w (w.alloc (.cells (cfs c).toArray 37)) := (Below.refl _ _).alloc (Nat.le_refl _) _
  have hv0 := vat_list w (cfs c) 37 20 (ccell c) (cc_at c)
  have hlt : w.heap.size < (w.alloc (.cells (cfs c).toArray 37)).heap.size := by simp
  have hT := H.mono hb0
  have e20 : (cfs c).toArray = #[.int .i64 (c.h 0), .int .i64 (c.h 1), .int .i64 (c.h 2), .int .i64 (c.h 3), .int .i64 (c.h 4), .int .i64 (c.h 5), .int .i64 (c.h 6), .int .i64 (c.h 7), .int .i64 (c.h 8), .int .i64 (c.h 9), .int .i64 (c.h 10), .int .i64 (c.h 11), .int .i64 (c.h 12), .int .i64 (c.h 13), .int .i64 (c.h 14), .int .i64 (c.h 15), .int .i64 (c.h 16), .int .i64 (c.h 17), .slice c.fa c.fn c.fc, .slice c.ta c.tn c.tc] := rfl
  unfold cfv
  rw [e20] at hb0 hv0 hlt hT ⊢
  clear e20 H
  have HB := Lib.hid hb0
  have HV := Lib.hid hv0
  have HT := Lib.hid hT
  have K75 := Lib.hid between75
  clear hb0 hv0 hT
  go_enter Tryz.func50, Tryz.ntmps50
  go_upto_region 1 with fail
  generalize (w.alloc (.cells #[.int .i64 (c.h 0), .int .i64 (c.h 1), .int .i64 (c.h 2), .int .i64 (c.h 3), .int .i64 (c.h 4), .int .i64 (c.h 5), .int .i64 (c.h 6), .int .i64 (c.h 7), .int .i64 (c.h 8), .int .i64 (c.h 9), .int .i64 (c.h 10), .int .i64 (c.h 11), .int .i64 (c.h 12), .int .i64 (c.h 13), .int .i64 (c.h 14), .int .i64 (c.h 15), .int .i64 (c.h 16), .int .i64 (c.h 17), .slice c.fa c.fn c.fc, .slice c.ta c.tn c.tc] 37)) = w1 at *
  have y0 : w1.cell? ⟨w.heap.size, 0, none⟩ = some (.int .i64 (c.h 0)) := HV.out.c 0 (by omega)
  have y1 : w1.cell? ⟨w.heap.size, 1, none⟩ = some (.int .i64 (c.h 1)) := HV.out.c 1 (by omega)
  have y2 : w1.cell? ⟨w.heap.size, 2, none⟩ = some (.int .i64 (c.h 2)) := HV.out.c 2 (by omega)
  have y3 : w1.cell? ⟨w.heap.size, 3, none⟩ = some (.int .i64 (c.h 3)) := HV.out.c 3 (by omega)
  have y4 : w1.cell? ⟨w.heap.size, 4, none⟩ = some (.int .i64 (c.h 4)) := HV.out.c 4 (by omega)
  have y5 : w1.cell? ⟨w.heap.size, 5, none⟩ = some (.int .i64 (c.h 5)) := HV.out.c 5 (by omega)
  have x13 : w1.cell? ⟨w.heap.size, 19, none⟩ = some (.slice c.ta c.tn c.tc) := HV.out.c 19 (by omega)
  have hAH := Lib.hid hA
  have hTH := Lib.hid hT
  have HTL := Lib.hid HT.out.tl
  have HFL := Lib.hid HT.out.fl
  have hRH := Lib.hid (show rngC c = true from by unfold rngC; rw [g0, g2, g3, g4, g5]; rfl)
  go_wp2_with (go_at_call 75; refine (K75.out _ _ _ _).mono ?_; (first | rw [hA] | rw [hT] | rw [g0] | rw [g2] | rw [g3] | rw [g4] | rw [g5]); rintro e w' ⟨rfl, hw⟩; obtain rfl := hw.symm)
  clear hA hT g0 g2 g3 g4 g5 y0 y1 y2 y3 y4 y5 x13
  have KN := Lib.hid (Ne.new76 w1)
  refine KN.out.mono ?_
  rintro e w2 ⟨p, q, rfl, rp, rq, hb2⟩
  have hb3 : Below w2.heap.size w2 (w2.alloc (.cells #[.slice (some ⟨p, 0, none⟩) 1 1, .slice (some ⟨q, 0, none⟩) 1 1] 146)) := (Below.refl _ _).alloc (Nat.le_refl _) _
  have HB3 := Lib.hid (hb2.trans (hb3.mono hb2.size))
  have RP := Lib.hid (rp.mono hb3)
  have RQ := Lib.hid (rq.mono hb3)
  have sc0 : (w2.alloc (.cells #[.slice (some ⟨p, 0, none⟩) 1 1, .slice (some ⟨q, 0, none⟩) 1 1] 146)).cell? ⟨w2.heap.size, 0, none⟩ = some (.slice (some ⟨p, 0, none⟩) 1 1) := by simp [go_sem]
  have sc1 : (w2.alloc (.cells #[.slice (some ⟨p, 0, none⟩) 1 1, .slice (some ⟨q, 0, none⟩) 1 1] 146)).cell? ⟨w2.heap.size, 1, none⟩ = some (.slice (some ⟨q, 0, none⟩) 1 1) := by simp [go_sem]
  have SC0 := Lib.hid sc0
  have SC1 := Lib.hid sc1
  clear rp rq hb2 hb3 KN sc0 sc1
  go_upto_region 8 with fail
  generalize (w2.alloc (.cells #[.slice (some ⟨p, 0, none⟩) 1 1, .slice (some ⟨q, 0, none⟩) 1 1] 146)) = w3 at *
  generalize w2.heap.size = S at *
  have NG := Lib.hid (show subC c → netC c X T = if Ch.chk c.fn X ≠ 0 then Ch.chk c.fn X else firstE (fun k => teC (c.h 1) (T k)) c.tn from fun hs => by unfold netC; rw [if_neg (by rw [hAH.out]; simp), if_neg (by rw [hTH.out]; simp), if_neg (by rw [hRH.out]; simp), if_neg (fun h => h hs)])
  have HR := Lib.hid (range_cf (HV.out.mono HB3.out))
  have l3 := Nat.lt_of_lt_of_le hlt HB3.out.size
  go_wp2_with (refine wpList_load_mid rfl 37 (.tmp 1) rfl w.heap.size 0 rfl (cfs c) _ HR.out Tryz.underlying37 rfl (by kernel_rfl) ?_; rw [cfs_arr])
  refine (entry78 c _).mono ?_
  rintro e w4 ⟨rfl, hb4⟩
  have HB4 := Lib.hid (HB3.out.trans (hb4.mono HB3.out.size))
  have RP4 := Lib.hid (RP.out.mono hb4)
  have RQ4 := Lib.hid (RQ.out.mono hb4)
  have SD0 := Lib.hid (up hb4 SC0.out)
  have SD1 := Lib.hid (up hb4 SC1.out)
  clear hb4 HR l3 RP RQ SC0 SC1
  go_wp2_with fail
  refine (Ac.check77 _ _ _ _).mono ?_
  rintro e w5 ⟨rfl, hb5⟩
  have HB5 := Lib.hid (HB4.out.trans (hb5.mono HB4.out.size))
  have RP5 := Lib.hid (RP4.out.mono hb5)
  have RQ5 := Lib.hid (RQ4.out.mono hb5)
  have SE0 := Lib.hid (up hb5 SD0.out)
  have SE1 := Lib.hid (up hb5 SD1.out)
  clear hb5 RP4 RQ4 SD0 SD1
  generalize hz : Ac.acC (c.h 6) (c.h 7) (c.h 8) = za at *
  have HZA := Lib.hid hz
  clear hz
  by_cases a0 : za = 0
  · have qa : (za != 0) = false := by simp [a0]
    have HA0 := Lib.hid a0
    clear a0
    have y9 : w5.cell? ⟨w.heap.size, 9, none⟩ = some (.int .i64 (c.h 9)) := (HV.out.mono HB5.out).c 9 (by omega)
    have y10 : w5.cell? ⟨w.heap.size, 10, none⟩ = some (.int .i64 (c.h 10)) := (HV.out.mono HB5.out).c 10 (by omega)
    have y11 : w5.cell? ⟨w.heap.size, 11, none⟩ = some (.int .i64 (c.h 11)) := (HV.out.mono HB5.out).c 11 (by omega)
    have l5 := Nat.lt_of_lt_of_le hlt HB5.out.size
    have KH := Lib.hid (Ho.check12 (c.h 9) (c.h 10) (c.h 11))
    unfold Ho.pv at KH
    generalize hz : Ho.chkP (c.h 9) (c.h 10) (c.h 11) = zh at *
    have HZH := Lib.hid hz
    clear hz
    go_wp2_with fail
    refine (KH.out _).mono ?_
    rintro e w6 ⟨rfl, hb6⟩
    have HB6 := Lib.hid (HB5.out.trans (hb6.mono HB5.out.size))
    have RP6 := Lib.hid (RP5.out.mono hb6)
    have RQ6 := Lib.hid (RQ5.out.mono hb6)
    have sf0 := up hb6 SE0.out
    have sf1 := up hb6 SE1.out
    clear hb6 RP5 RQ5 SE0 SE1 y9 y10 y11 l5 KH
    by_cases h0 : zh = 0
    · have qh : (zh != 0) = false := by simp [h0]
      have HH0 := Lib.hid h0
      clear h0
      have y12 : w6.cell? ⟨w.heap.size, 12, none⟩ = some (.int .i64 (c.h 12)) := (HV.out.mono HB6.out).c 12 (by omega)
      have y13 : w6.cell? ⟨w.heap.size, 13, none⟩ = some (.int .i64 (c.h 13)) := (HV.out.mono HB6.out).c 13 (by omega)
      have y14 : w6.cell? ⟨w.heap.size, 14, none⟩ = some (.int .i64 (c.h 14)) := (HV.out.mono HB6.out).c 14 (by omega)
      have l6 := Nat.lt_of_lt_of_le hlt HB6.out.size
      have lS := lt_of_cell sf0
      have km := Me.check22 (c.h 12) (c.h 13) (c.h 14) (some ⟨p, 0, none⟩) (some ⟨q, 0, none⟩) 1 1 1 1 (fun _ => 0) (fun _ => 0) w6 RP6.out RQ6.out (by omega) (by omega)
      rw [me_one] at km
      unfold Me.rv Me.sv at km
      have KM := Lib.hid km
      clear km
      cases hm : Me.rok (c.h 12) (c.h 13) (c.h 14)
      · exact absurd (hm.symm.trans hs.2.2.1) (by simp)
      · have HM := Lib.hid hm
        rw [hm] at KM
        clear hm
        go_wp2_with fail
        refine KM.out.mono ?_
        rintro e w7 ⟨rfl, hb7⟩
        have HB7 := Lib.hid (HB6.out.trans (hb7.mono HB6.out.size))
        clear hb7 sf0 sf1 y12 y13 y14 KM l6 lS
        have y15 : w7.cell? ⟨w.heap.size, 15, none⟩ = some (.int .i64 (c.h 15)) := (HV.out.mono HB7.out).c 15 (by omega)
        have y16 : w7.cell? ⟨w.heap.size, 16, none⟩ = some (.int .i64 (c.h 16)) := (HV.out.mono HB7.out).c 16 (by omega)
        have y17 : w7.cell? ⟨w.heap.size, 17, none⟩ = some (.int .i64 (c.h 17)) := (HV.out.mono HB7.out).c 17 (by omega)
        have l7 := Nat.lt_of_lt_of_le hlt HB7.out.size
        by_cases ho : c.h 15 = 0
        · have qo : (c.h 15 != 0) = false := by simp [ho]
          have HO := Lib.hid ho
          clear ho
          cases hu : btw (c.h 16) 0 256
          · exact absurd (hu.symm.trans hs.2.2.2.2.1) (by simp)
          · cases hd : btw (c.h 17) 0 256
            · exact absurd (hd.symm.trans hs.2.2.2.2.2) (by simp)
            · have HSB := Lib.hid hs
              have y18 : w7.cell? ⟨w.heap.size, 18, none⟩ = some (.slice c.fa c.fn c.fc) := (HV.out.mono HB7.out).c 18 (by omega)
              have KF := Lib.hid (Ch.check25 c.fa c.fn c.fc X w7 (HT.out.f.mono HB7.out) HFL.out)
              generalize hz : Ch.chk c.fn X = zf at *
              have HZF := Lib.hid hz
              clear hz
              have NGz := Lib.hid (NG.out HSB.out)
              go_upto_region 10 with (go_at_call 75; refine (K75.out _ _ _ _).mono ?_; (first | rw [hu] | rw [hd]); rintro e w' ⟨rfl, hw⟩; obtain rfl := hw.symm)
              clear y15 y16 y17 qo hu hd
              go_wp2_with fail
              refine KF.out.mono ?_
              rintro e w8 ⟨rfl, hb8⟩
              have HB8 := Lib.hid (HB7.out.trans (hb8.mono HB7.out.size))
              clear hb8 KF y18 l7
              have y19 : w8.cell? ⟨w.heap.size, 19, none⟩ = some (.slice c.ta c.tn c.tc) := (HV.out.mono HB8.out).c 19 (by omega)
              by_cases hf0 : zf = 0
              · have qf : (zf != 0) = false := by simp [hf0]
                have HF0 := Lib.hid hf0
                clear hf0
                go_upto_region 14 with fail
                have HNF := Lib.hid (show netC c X T = firstE (fun k => teC (c.h 1) (T k)) c.tn from NGz.out.trans (if_neg (fun h => h HF0.out)))
                have ht4 : c.tn ≤ 4 := by have := of_decide_eq_true hTH.out; omega
                have hc3 : 1 ≤ c.h 1 ∧ c.h 1 ≤ 3 := of_decide_eq_true hAH.out
                clear y19 qf
                go_loopw [7, 8, 96] (fun s7 s8 s96 wr => ∃ k : Nat, s96 = .int .i64 k ∧ k ≤ c.tn ∧ firstE (fun k => teC (c.h 1) (T k)) k = 0 ∧ Below w1.heap.size w1 wr) (fun _ _ s96 _ => c.tn - (intOf s96).toNat)
                case atStart => exact ⟨0, rfl, Nat.zero_le _, rfl, HB8.out⟩
                case round =>
                  obtain ⟨k, rfl, hk, hf, hBw⟩ := hrel
                  have HF := Lib.hid hf
                  have HBw := Lib.hid hBw
                  clear hf
                  by_cases hlk : k < c.tn
                  · obtain ⟨b, m, h1, h2⟩ := HT.out.t.mono hBw
                    have e1 := h1 (by omega)
                    have HR1 := Lib.hid (range_te (h2 k hlk).1)
                    have HTK := Lib.hid (h2 k hlk).2
                    have k0 : (0 : Int) ≤ (k : Int) := by omega
                    have k1 : (k : Int) < (c.tn : Int) := by omega
                    have FA := Lib.hid (show teC (c.h 1) (T k) ≠ 0 → firstE (fun k => teC (c.h 1) (T k)) c.tn = teC (c.h 1) (T k) from fun h => firstE_at hlk HF.out h)
                    have FN := Lib.hid (show teC (c.h 1) (T k) = 0 → firstE (fun k => teC (c.h 1) (T k)) (k + 1) = 0 from fun h => firstE_next HF.out h)
                    have hb9 := blw wr (.cells (tcs (T k)).toArray 57)
                    have hv9 := vat_list wr (tcs (T k)) 57 14 (tcell (T k)) (tc_at (T k))
                    have HR2 := Lib.hid (range_te (m := 0) (fun j hj => by rw [Nat.zero_add]; exact hv9.c j hj))
                    have HR3 := Lib.hid (range_cf (HV.out.mono (hBw.trans (hb9.mono hBw.size))))
                    have hK := fun W h => term82 c (T k) W h hc3
                    unfold cfv tev at hK
                    rw [cfs_arr, tcs_arr] at hK
                    have KC := Lib.hid (hK _ (HTK.out.mono hb9))
                    have HB9 := Lib.hid (hBw.trans (hb9.mono hBw.size))
                    rw [tcs_arr] at HR2 HR3 KC HB9
                    clear h1 h2 hBw hb9 hv9 hK
                    generalize teC (c.h 1) (T k) = E at *
                    rw [e1]
                    clear e1
                    go_upto_region 16 with (refine wpList_load_mid rfl 57 (.tmp 98) rfl b (m + k * 14) rfl (tcs (T k)) _ HR1.out Tryz.underlying57 rfl (by kernel_rfl) ?_; rw [tcs_arr])
                    generalize (wr.alloc (.cells #[.int .i64 (T k).cl, .int .i64 (T k).cs, .slice (T k).ba (T k).bn (T k).bc, .slice (T k).ka (T k).kn (T k).kc, .int .i64 (T k).fr, .int .i64 (T k).wd, .int .i64 (T k).bk, .int .i64 (T k).cy, .int .i64 (T k).of', .int .i64 (T k).on', .int .i64 (T k).li, .int .i64 (T k).sh, .int .i64 (T k).ss, .int .i64 (T k).bt] 57)) = w9 at *
                    go_wp2_with (first | (refine wpList_load_mid rfl 37 (.tmp 1) rfl w.heap.size 0 rfl (cfs c) _ HR3.out Tryz.underlying37 rfl (by kernel_rfl) ?_; rw [cfs_arr]) | (refine wpList_load_mid rfl 57 (.tmp 7) rfl wr.heap.size 0 rfl (tcs (T k)) _ HR2.out Tryz.underlying57 rfl (by kernel_rfl) ?_; rw [tcs_arr]) | (go_at_call 82; refine KC.out.mono ?_; rintro e w10 ⟨rfl, hb10⟩; have HB10 := Lib.hid (HB9.out.trans (hb10.mono HB9.out.size)); clear hb10; refine Hid.out ?_))
                    refine Lib.hid ?_
                    by_cases hE : E = 0
                    · have q1 : (E != 0) = false := by simp [hE]
                      have FN2 := Lib.hid (FN.out hE)
                      clear hE
                      go_wp2
                      go_roundw
                      case rel => exact ⟨k + 1, by go_num, by omega, FN2.out, HB10.out⟩
                      case measure => simp [intOf]; omega
                    · have q1 : (E != 0) = true := by rw [bne_iff_ne]; exact hE
                      have FA2 := Lib.hid (FA.out hE)
                      clear hE
                      go_wp2
                      go_ret
                      exact ⟨ret_int (by rw [HNF.out, FA2.out]), bthen' HB.out HB10.out⟩
                  · obtain rfl : k = c.tn := by omega
                    go_wp2
                    go_ret
                    exact ⟨ret_int (by rw [HNF.out, HF.out]), bthen' HB.out HBw.out⟩
              · have qf : (zf != 0) = true := by rw [bne_iff_ne]; exact hf0
                have HF0 := Lib.hid hf0
                clear hf0
                go_wp2
                go_ret
                exact ⟨ret_int (by rw [NGz.out, if_pos HF0.out]), bthen' HB.out HB8.out⟩
        · exact absurd hs.2.2.2.1 ho
    · exact absurd (HZH.out.symm.trans hs.2.1) h0
  · exact absurd (HZA.out.symm.trans hs.1) a0
end Go.Proofs.YtgflfdnajchjaaaGreatDoor.Tm
/- Layer 45: the program's check of a network. -/
namespace Go.Proofs.YtgflfdnajchjaaaGreatDoor.Tm
set_option linter.unusedVariables false
set_option linter.unusedSimpArgs false
open Go.RowKit Go.Sort
open Go.Proofs.YtgflfdnajchjaaaGreatDoor.Ch (btw)
theorem rng_split {c : Cf} (h : rngC c = true) : btw (c.h 0) 0 1048576 = true ∧ btw (c.h 2) 1 12 = true ∧ btw (c.h 3) 1 1000 = true ∧ btw (c.h 4) 1 1000 = true ∧ btw (c.h 5) 1 32 = true := by
  unfold rngC at h
  simp only [Bool.and_eq_true] at h
  exact ⟨h.1.1.1.1, h.1.1.1.2, h.1.1.2, h.1.2, h.2⟩
theorem check50 (c : Cf) (X : Nat → Ch.Fd) (T : Nat → Te) (w : World) (H : CfIn w c X T) :
    Calls Tryz.prog 50 #[cfv c] w fun e w' => e = .returned (.int .i64 (netC c X T)) ∧ Below w.heap.size w w' := by
  by_cases hE : btw (c.h 1) 1 3 = true ∧ btw c.tn 1 4 = true ∧ rngC c = true
  · obtain ⟨g0, g2, g3, g4, g5⟩ := rng_split hE.2.2
    by_cases hs : subC c
    · exact good50 c X T w H hE.1 hE.2.1 g0 g2 g3 g4 g5 hs
    · exact sub50 c X T w H hE.1 hE.2.1 g0 g2 g3 g4 g5 hs
  · exact bad50 c X T w H hE
end Go.Proofs.YtgflfdnajchjaaaGreatDoor.Tm
