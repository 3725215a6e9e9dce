/- Layer 36: a terminal is called at its occasion. -/
import Derived.Test.YtobmnajgbhgdlaaP14
namespace Go.Proofs.Ytobmnajgbhgdlaa
set_option linter.unusedVariables false
set_option linter.unusedSimpArgs false
open Go.RowKit Go.Sort
attribute [local go_sem] gcell

def aL1 : List Pg := [(11, 0, 0)]
def aL2 : List Pg := [(11, 0, 1)]
def zf : Nat → Int := fun _ => 0
theorem aw1 : clO 8 2 1 11 0 0 zf zf zf = aL1 := by decide
theorem aw2 : clE 8 2 1 11 0 0 zf zf zf = 0 := by decide
theorem aw3 : tkO 8 2 1 3 1 (pI aL1) (pS aL1) (pC aL1) = (aL2, [11], []) := by decide
theorem aw4 : tkE 8 2 1 3 1 (pI aL1) (pS aL1) (pC aL1) = 0 := by decide
theorem aw5 : tkO 8 2 1 11 1 (pI aL2) (pS aL2) (pC aL2) = ([], [], [11]) := by decide
theorem aw6 : tkE 8 2 1 11 1 (pI aL2) (pS aL2) (pC aL2) = 0 := by decide
theorem aw7 : occ 8 11 19 = true := by decide
set_option maxRecDepth 100000 in
set_option maxHeartbeats 4000000 in
theorem awake9 (w : World) : Calls Try.prog 9 #[] w fun e w' => e = .returned (.bool true) ∧ Below w.heap.size w w' := by
  have K1 := Lib.hid (call7 8 2 1 11 0 none 0 0 zf zf zf w (R3.zero _ _ _ _ _) (Nat.le_refl _) (by omega) (fun _ => rfl) (by omega))
  unfold gv at *
  go_enter Try.func9, Try.ntmps9
  go_wp2_with fail
  refine K1.out.mono ?_
  rintro e w1 ⟨P, a1, c1, hP, rfl, hc1, hA1, hR1, hb⟩
  rw [aw1] at hP
  subst hP
  have hE := aw2
  have HB1 := Lib.hid hb
  have HR1 := Lib.hid hR1
  have HA1 := Lib.hid hA1
  have hs1 := hb.size
  have HC1 := Lib.hid hc1
  clear hb K1 hR1 hA1 hc1
  rw [hE, show aL1.length = 1 from rfl]
  clear hE
  unfold gv at *
  go_upto_region 2 with fail
  have hbn := blA w1 (.cells #[.int .i64 8, .int .i64 2, .int .i64 1, .slice a1 1 c1] 25)
  have Y2 := Lib.hid (Bx.new w1 8 2 1 (.slice a1 1 c1))
  have HB2 := Lib.hid (bthen HB1.out hbn (by omega))
  have hR2 := HR1.out.mono hbn
  clear hbn HB1 HR1
  generalize (w1.alloc (.cells #[.int .i64 8, .int .i64 2, .int .i64 1, .slice a1 1 c1] 25)) = w2 at *
  have K2 := Lib.hid (tick8 8 2 1 3 a1 1 c1 _ _ _ w2 hR2 HC1.out.1 HC1.out.2 (fun e => HA1.out e) (by omega))
  clear hR2
  have y0 := Y2.out.c0
  have y1 := Y2.out.c1
  have y2 := Y2.out.c2
  have y3 := Y2.out.c3
  generalize w1.heap.size = B1 at *
  unfold gv at *
  go_wp2_with fail
  refine K2.out.mono ?_
  rintro e w3 ⟨P, A, B, a3, b3, d3, c3, e3, f3, hP, rfl, hc3, hA3, hR3, hI3, hJ3, hb⟩
  rw [aw3] at hP
  cases hP
  rw [aw4, show aL2.length = 1 from rfl, show ([11] : List Int).length = 1 from rfl, show ([] : List Int).length = 0 from rfl]
  have HB3 := Lib.hid (bthen HB2.out hb HB2.out.size)
  have HR3 := Lib.hid hR3
  have HI3 := Lib.hid hI3
  have HA3 := Lib.hid hA3
  have HC3 := Lib.hid hc3
  have hs3 := HB3.out.size
  clear hb K2 hR3 hA3 hc3 hI3 hJ3 Y2 HB2 y0 y1 y2 y3
  unfold gv at *
  go_upto_region 3 with fail
  have hbn := blA w3 (.cells #[.int .i64 8, .int .i64 2, .int .i64 1, .slice a3 1 c3] 25)
  have Y4 := Lib.hid (Bx.new w3 8 2 1 (.slice a3 1 c3))
  have HB4 := Lib.hid (bthen HB3.out hbn hs3)
  have hR4 := HR3.out.mono hbn
  have HI4 := Lib.hid (HI3.out.mono hbn)
  clear hbn HB3 HR3 HI3
  generalize (w3.alloc (.cells #[.int .i64 8, .int .i64 2, .int .i64 1, .slice a3 1 c3] 25)) = w4 at *
  have K3 := Lib.hid (tick8 8 2 1 11 a3 1 c3 _ _ _ w4 hR4 HC3.out.1 HC3.out.2 (fun e => HA3.out e) (by omega))
  clear hR4
  have y0 := Y4.out.c0
  have y1 := Y4.out.c1
  have y2 := Y4.out.c2
  have y3 := Y4.out.c3
  generalize w3.heap.size = B3 at *
  unfold gv at *
  go_wp2_with fail
  refine K3.out.mono ?_
  rintro e w5 ⟨P, A, B, a5, b5, d5, c5, e5, f5, hP, rfl, hc5, hA5, hR5, hI5, hJ5, hb⟩
  rw [aw5] at hP
  cases hP
  rw [aw6, show ([] : List Pg).length = 0 from rfl, show ([11] : List Int).length = 1 from rfl, show ([] : List Int).length = 0 from rfl]
  have HB5 := Lib.hid (bthen HB4.out hb HB4.out.size)
  have HI5 := Lib.hid (HI4.out.mono hb)
  have HJ5 := Lib.hid hJ5
  clear hb K3 hR5 hA5 hc5 hI5 hJ5 Y4 HB4 HI4 y0 y1 y2 y3
  unfold gv at *
  go_upto_region 4 with fail
  have hbn := blA w5 (.cells #[.int .i64 8, .int .i64 2, .int .i64 1, .slice a5 0 c5] 25)
  have Y6 := Lib.hid (Bx.new w5 8 2 1 (.slice a5 0 c5))
  have HB6 := Lib.hid (bthen HB5.out hbn HB5.out.size)
  have HI6 := Lib.hid (HI5.out.mono hbn)
  have HJ6 := Lib.hid (HJ5.out.mono hbn)
  clear hbn HB5 HI5 HJ5
  generalize (w5.alloc (.cells #[.int .i64 8, .int .i64 2, .int .i64 1, .slice a5 0 c5] 25)) = w6 at *
  generalize w5.heap.size = B5 at *
  have hsm : same 1 1 (nI [11]) (nI [11]) = true := same_true rfl fun _ _ => rfl
  have hb7 := blA w6 (.cells #[.int .i64 11] 3)
  have r7 : Row (w6.alloc (.cells #[.int .i64 11] 3)) (some ⟨w6.heap.size, 0, none⟩) 1 (nI [11]) := ⟨w6.heap.size, 0, fun _ => rfl, fun k hk => by
    obtain rfl : k = 0 := by omega
    simp [go_sem, nI]⟩
  have K4 := Lib.hid (same24 b3 (some ⟨w6.heap.size, 0, none⟩) 1 e3 1 1 (nI [11]) (nI [11]) _ (HI6.out.mono hb7) r7 (by unfold maxLen; omega) (by unfold maxLen; omega))
  rw [hsm] at K4
  have HSM := Lib.hid hsm
  clear hb7 r7 hsm
  go_wp2_with fail
  refine K4.out.mono ?_
  rintro e w7 ⟨rfl, hb⟩
  have HC7 := Lib.hid (bthen' (blA w6 _) hb)
  have Y7 := Lib.hid (Y6.out.mono HC7.out)
  have HJ7 := Lib.hid (HJ6.out.mono HC7.out)
  have HB7 := Lib.hid (bthen HB6.out HC7.out HB6.out.size)
  clear hb K4 Y6 HB6 HJ6 HC7
  have hb8 := blA w7 (.cells #[.int .i64 11] 3)
  have r8 : Row (w7.alloc (.cells #[.int .i64 11] 3)) (some ⟨w7.heap.size, 0, none⟩) 1 (nI [11]) := ⟨w7.heap.size, 0, fun _ => rfl, fun k hk => by
    obtain rfl : k = 0 := by omega
    simp [go_sem, nI]⟩
  have K5 := Lib.hid (same24 d5 (some ⟨w7.heap.size, 0, none⟩) 1 f5 1 1 (nI [11]) (nI [11]) _ (HJ7.out.mono hb8) r8 (by unfold maxLen; omega) (by unfold maxLen; omega))
  rw [HSM.out] at K5
  clear hb8 r8
  go_wp2_with fail
  refine K5.out.mono ?_
  rintro e w8 ⟨rfl, hb⟩
  have hc8 := bthen' (blA w7 _) hb
  have Y8 := Lib.hid (Y7.out.mono hc8)
  have HB8 := Lib.hid (bthen HB7.out hc8 HB7.out.size)
  have y3 := Y8.out.c3
  have K6 := Lib.hid (occ19 8 11 19 w8)
  rw [aw7] at K6
  clear hb K5 Y7 HB7 hc8
  go_wp2_with fail
  refine K6.out.mono ?_
  rintro e w9 ⟨rfl, hb⟩
  have HB9 := Lib.hid (bthen HB8.out hb HB8.out.size)
  clear hb
  go_wp2
  go_ret
  exact ⟨rfl, HB9.out⟩
end Go.Proofs.Ytobmnajgbhgdlaa
