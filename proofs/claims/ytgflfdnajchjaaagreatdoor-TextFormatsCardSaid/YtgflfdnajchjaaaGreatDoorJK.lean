import Derived.Test.YtgflfdnajchjaaaGreatDoorJI
import Derived.Deep.DeepCutAuto
import Derived.Deep.Cut
/- Layer 45: the reference's check of a network: early errors. -/
namespace Go.Proofs.YtgflfdnajchjaaaGreatDoor.Tm
set_option linter.unusedVariables false
set_option linter.unusedSimpArgs false
open Go.RowKit Go.Sort
open Go.Proofs.YtgflfdnajchjaaaGreatDoor.Be (blw beC lkB bev)
open Go.Proofs.YtgflfdnajchjaaaGreatDoor.Ch (btw)
attribute [local go_sem] gcell
set_option maxRecDepth 100000 in
set_option maxHeartbeats 16000000 in
theorem bad44 (c : Cf) (X : Nat → Ch.Fd) (T : Nat → Te) (w : World) (H : CfIn w c X T) (hbad : ¬ (btw (c.h 1) 1 3 = true ∧ btw c.tn 1 4 = true ∧ rngC c = true)) :
    Calls Tryz.prog 44 #[cfv c] w fun e w' => e = .returned (.int .i64 (netC c X T)) ∧ Below w.heap.size w w' := by
  have hb0 : Below w.heap.size w (w.alloc (.cells (cfs c).toArray 37)) := (Below.refl _ _).alloc (Nat.le_refl _) _
  have hv0 := vat_list w (cfs c) 37 20 (ccell c) (cc_at c)
  have hlt : w.heap.size < (w.alloc (.cells (cfs c).toArray 37)).heap.size := by simp
  have htl := H.tl
  unfold maxLen at htl
  unfold cfv
  rw [cfs_arr] at hb0 hv0 hlt ⊢
  clear H
  have HB := Lib.hid hb0
  have HV := Lib.hid hv0
  clear hb0 hv0
  go_enter Tryz.func44, Tryz.ntmps44
  go_upto_region 1 with fail
  generalize (w.alloc (.cells #[.int .i64 (c.h 0), .int .i64 (c.h 1), .int .i64 (c.h 2), .int .i64 (c.h 3), .int .i64 (c.h 4), .int .i64 (c.h 5), .int .i64 (c.h 6), .int .i64 (c.h 7), .int .i64 (c.h 8), .int .i64 (c.h 9), .int .i64 (c.h 10), .int .i64 (c.h 11), .int .i64 (c.h 12), .int .i64 (c.h 13), .int .i64 (c.h 14), .int .i64 (c.h 15), .int .i64 (c.h 16), .int .i64 (c.h 17), .slice c.fa c.fn c.fc, .slice c.ta c.tn c.tc] 37)) = w1 at *
  go_wp2_with fail
  refine (Ne.new63 w1).mono ?_
  rintro e w2 ⟨p, q, rfl, rp, rq, hb2⟩
  have hb3 : Below w2.heap.size w2 (w2.alloc (.cells #[.slice (some ⟨p, 0, none⟩) 1 1, .slice (some ⟨q, 0, none⟩) 1 1] 146)) := (Below.refl _ _).alloc (Nat.le_refl _) _
  have HB3 := Lib.hid (hb2.trans (hb3.mono hb2.size))
  clear rp rq hb2 hb3
  go_upto_region 2 with fail
  generalize (w2.alloc (.cells #[.slice (some ⟨p, 0, none⟩) 1 1, .slice (some ⟨q, 0, none⟩) 1 1] 146)) = w3 at *
  have y0 : w3.cell? ⟨w.heap.size, 0, none⟩ = some (.int .i64 (c.h 0)) := (HV.out.mono HB3.out).c 0 (by omega)
  have y1 : w3.cell? ⟨w.heap.size, 1, none⟩ = some (.int .i64 (c.h 1)) := (HV.out.mono HB3.out).c 1 (by omega)
  have y2 : w3.cell? ⟨w.heap.size, 2, none⟩ = some (.int .i64 (c.h 2)) := (HV.out.mono HB3.out).c 2 (by omega)
  have y3 : w3.cell? ⟨w.heap.size, 3, none⟩ = some (.int .i64 (c.h 3)) := (HV.out.mono HB3.out).c 3 (by omega)
  have y4 : w3.cell? ⟨w.heap.size, 4, none⟩ = some (.int .i64 (c.h 4)) := (HV.out.mono HB3.out).c 4 (by omega)
  have y5 : w3.cell? ⟨w.heap.size, 5, none⟩ = some (.int .i64 (c.h 5)) := (HV.out.mono HB3.out).c 5 (by omega)
  have x13 : w3.cell? ⟨w.heap.size, 19, none⟩ = some (.slice c.ta c.tn c.tc) := (HV.out.mono HB3.out).c 19 (by omega)
  have l3 := Nat.lt_of_lt_of_le hlt HB3.out.size
  rcases (show c.h 1 < 1 ∨ (1 ≤ c.h 1 ∧ 3 < c.h 1) ∨ (1 ≤ c.h 1 ∧ c.h 1 ≤ 3) by omega) with q | ⟨q, q'⟩ | ⟨q, q'⟩
  · go_wp2
    go_ret
    exact ⟨ret_int (by unfold netC; rw [if_pos (show btw (c.h 1) 1 3 = false from decide_eq_false (by omega))]), bthen' HB.out HB3.out⟩
  · go_wp2
    go_ret
    exact ⟨ret_int (by unfold netC; rw [if_pos (show btw (c.h 1) 1 3 = false from decide_eq_false (by omega))]), bthen' HB.out HB3.out⟩
  · have hAH := Lib.hid (show btw (c.h 1) 1 3 = true from decide_eq_true (by omega))
    rcases (show (c.tn : Int) < 1 ∨ (1 ≤ (c.tn : Int) ∧ 4 < (c.tn : Int)) ∨ (1 ≤ (c.tn : Int) ∧ (c.tn : Int) ≤ 4) by omega) with q | ⟨q, q'⟩ | ⟨q, q'⟩
    · go_wp2
      go_ret
      exact ⟨ret_int (by unfold netC; rw [if_neg (by rw [hAH.out]; simp), if_pos (show btw c.tn 1 4 = false from decide_eq_false (by omega))]), bthen' HB.out HB3.out⟩
    · go_wp2
      go_ret
      exact ⟨ret_int (by unfold netC; rw [if_neg (by rw [hAH.out]; simp), if_pos (show btw c.tn 1 4 = false from decide_eq_false (by omega))]), bthen' HB.out HB3.out⟩
    · have hTH := Lib.hid (show btw c.tn 1 4 = true from decide_eq_true (by omega))
      rcases (show c.h 0 < 0 ∨ (0 ≤ c.h 0 ∧ 1048576 < c.h 0) ∨ (0 ≤ c.h 0 ∧ c.h 0 ≤ 1048576) by omega) with q | ⟨q, q'⟩ | ⟨q, q'⟩
      · go_wp2
        go_ret
        exact ⟨ret_int (by unfold netC; rw [if_neg (by rw [hAH.out]; simp), if_neg (by rw [hTH.out]; simp), if_pos (by unfold rngC; rw [(show btw (c.h 0) 0 1048576 = false from decide_eq_false (by omega))]; simp)]), bthen' HB.out HB3.out⟩
      · go_wp2
        go_ret
        exact ⟨ret_int (by unfold netC; rw [if_neg (by rw [hAH.out]; simp), if_neg (by rw [hTH.out]; simp), if_pos (by unfold rngC; rw [(show btw (c.h 0) 0 1048576 = false from decide_eq_false (by omega))]; simp)]), bthen' HB.out HB3.out⟩
      · have G0 := Lib.hid (show btw (c.h 0) 0 1048576 = true from decide_eq_true (by omega))
        rcases (show c.h 2 < 1 ∨ (1 ≤ c.h 2 ∧ 12 < c.h 2) ∨ (1 ≤ c.h 2 ∧ c.h 2 ≤ 12) by omega) with q | ⟨q, q'⟩ | ⟨q, q'⟩
        · go_wp2
          go_ret
          exact ⟨ret_int (by unfold netC; rw [if_neg (by rw [hAH.out]; simp), if_neg (by rw [hTH.out]; simp), if_pos (by unfold rngC; rw [(show btw (c.h 2) 1 12 = false from decide_eq_false (by omega))]; simp)]), bthen' HB.out HB3.out⟩
        · go_wp2
          go_ret
          exact ⟨ret_int (by unfold netC; rw [if_neg (by rw [hAH.out]; simp), if_neg (by rw [hTH.out]; simp), if_pos (by unfold rngC; rw [(show btw (c.h 2) 1 12 = false from decide_eq_false (by omega))]; simp)]), bthen' HB.out HB3.out⟩
        · have G2 := Lib.hid (show btw (c.h 2) 1 12 = true from decide_eq_true (by omega))
          rcases (show c.h 3 < 1 ∨ (1 ≤ c.h 3 ∧ 1000 < c.h 3) ∨ (1 ≤ c.h 3 ∧ c.h 3 ≤ 1000) by omega) with q | ⟨q, q'⟩ | ⟨q, q'⟩
          · go_wp2
            go_ret
            exact ⟨ret_int (by unfold netC; rw [if_neg (by rw [hAH.out]; simp), if_neg (by rw [hTH.out]; simp), if_pos (by unfold rngC; rw [(show btw (c.h 3) 1 1000 = false from decide_eq_false (by omega))]; simp)]), bthen' HB.out HB3.out⟩
          · go_wp2
            go_ret
            exact ⟨ret_int (by unfold netC; rw [if_neg (by rw [hAH.out]; simp), if_neg (by rw [hTH.out]; simp), if_pos (by unfold rngC; rw [(show btw (c.h 3) 1 1000 = false from decide_eq_false (by omega))]; simp)]), bthen' HB.out HB3.out⟩
          · have G3 := Lib.hid (show btw (c.h 3) 1 1000 = true from decide_eq_true (by omega))
            rcases (show c.h 4 < 1 ∨ (1 ≤ c.h 4 ∧ 1000 < c.h 4) ∨ (1 ≤ c.h 4 ∧ c.h 4 ≤ 1000) by omega) with q | ⟨q, q'⟩ | ⟨q, q'⟩
            · go_wp2
              go_ret
              exact ⟨ret_int (by unfold netC; rw [if_neg (by rw [hAH.out]; simp), if_neg (by rw [hTH.out]; simp), if_pos (by unfold rngC; rw [(show btw (c.h 4) 1 1000 = false from decide_eq_false (by omega))]; simp)]), bthen' HB.out HB3.out⟩
            · go_wp2
              go_ret
              exact ⟨ret_int (by unfold netC; rw [if_neg (by rw [hAH.out]; simp), if_neg (by rw [hTH.out]; simp), if_pos (by unfold rngC; rw [(show btw (c.h 4) 1 1000 = false from decide_eq_false (by omega))]; simp)]), bthen' HB.out HB3.out⟩
            · have G4 := Lib.hid (show btw (c.h 4) 1 1000 = true from decide_eq_true (by omega))
              rcases (show c.h 5 < 1 ∨ (1 ≤ c.h 5 ∧ 32 < c.h 5) ∨ (1 ≤ c.h 5 ∧ c.h 5 ≤ 32) by omega) with q | ⟨q, q'⟩ | ⟨q, q'⟩
              · go_wp2
                go_ret
                exact ⟨ret_int (by unfold netC; rw [if_neg (by rw [hAH.out]; simp), if_neg (by rw [hTH.out]; simp), if_pos (by unfold rngC; rw [(show btw (c.h 5) 1 32 = false from decide_eq_false (by omega))]; simp)]), bthen' HB.out HB3.out⟩
              · go_wp2
                go_ret
                exact ⟨ret_int (by unfold netC; rw [if_neg (by rw [hAH.out]; simp), if_neg (by rw [hTH.out]; simp), if_pos (by unfold rngC; rw [(show btw (c.h 5) 1 32 = false from decide_eq_false (by omega))]; simp)]), bthen' HB.out HB3.out⟩
              · have G5 := Lib.hid (show btw (c.h 5) 1 32 = true from decide_eq_true (by omega))
                exact absurd ⟨hAH.out, hTH.out, by unfold rngC; rw [G0.out, G2.out, G3.out, G4.out, G5.out]; rfl⟩ hbad
end Go.Proofs.YtgflfdnajchjaaaGreatDoor.Tm
