/- Layer 25: all functions against the reference. -/
import Derived.Test.YtgcplboiodnfpaaP7
namespace Go.Proofs.Ytgcplboiodnfpaa
set_option linter.unusedVariables false
set_option linter.unusedSimpArgs false
open Go.RowKit Go.Sort
attribute [local go_sem] gcell

section
variable (a : Option Addr) (n c : Nat) (d : Option Addr) (m l : Nat) (P R M T W : Nat → Int) (s : Int) (w : World)
set_option maxRecDepth 100000 in
set_option maxHeartbeats 8000000 in
theorem agree15 (hn : n ≤ 1000) (hm : m ≤ 1000) (ha : a = none → n = 0) (H : R4 w a n P R M T) (HW : Row w d m W) : Calls Try.prog 15 #[.slice a n c, .slice d m l, .int .i64 s] w fun e w' => e = .returned (.bool true) ∧ Below w.heap.size w w' := by
  have HW' : Row w d m (fun k => if k < m then W k else 0) := HW.congr rfl fun k hk => (if_pos hk).symm
  clear HW
  generalize hWg : (fun k => if k < m then W k else 0) = W at *
  have hW0 : ∀ i, m ≤ i → W i = 0 := fun i hi => by rw [← hWg]; exact if_neg (by omega)
  clear hWg
  have hml : n ≤ maxLen := by unfold maxLen; omega
  have HR := Lib.hid H
  have HRW := Lib.hid HW'
  have HA := Lib.hid ha
  have HW0 := Lib.hid hW0
  have K1 := Lib.hid (share14 a n c d m l P R M T W s w hn hm ha H HW' hW0)
  clear H HW' ha hW0
  go_enter Try.func15, Try.ntmps15
  go_wp2_with fail
  refine K1.out.mono ?_
  rintro e w1 ⟨N, a1, a2, c1, c2, rfl, hN, hc1, hA1, hR1, hG1, hb⟩
  have HB1 := Lib.hid hb
  have HR1 := Lib.hid hR1
  have HG1 := Lib.hid hG1
  have hs1 := hb.size
  have HN := Lib.hid hN
  have K2 := Lib.hid (share18 a n c d m l P R M T W s w1 hn hm HA.out (HR.out.mono hb) (HRW.out.mono hb) HW0.out)
  clear hb hR1 hG1 K1 hA1 hN
  go_wp2_with fail
  refine K2.out.mono ?_
  rintro e w2 ⟨N', a1', a2', c1', c2', rfl, hN', hc1', hA1', hR1, hG1, hb⟩
  obtain rfl : N' = N := hN'.trans HN.out.symm
  have HB2 := Lib.hid (bthen HB1.out hb hs1)
  have hs2 := HB2.out.size
  have hNl : N' ≤ maxLen := by have := HN.out; unfold maxLen; split at this <;> omega
  have K3 := Lib.hid fun W3 (h : Below w2.heap.size w2 W3) => same28 a1 a1' N' c1 0 c1' P R M _ (fun _ => 0) W3 ((HR1.out.mono hb).mono h) (hR1.mono h) hNl
  have K4 := Lib.hid fun W3 (h : Below w2.heap.size w2 W3) => same29 a2 a2' N' c2 N' c2' _ _ W3 ((HG1.out.mono hb).mono h) (hG1.mono h) hNl hNl
  have hsm : same N' N' (gAll W T (ordP P n 16) n s) (gAll W T (ordP P n 16) n s) = true := same_true rfl fun _ _ => rfl
  rw [hsm] at K4
  clear hb hR1 hG1 K2 hA1' hN' HN HR1 HG1 hsm
  generalize eS n m (okB n P R M T) W s = E at *
  have hE : (E == E) = true := beq_self_eq_true E
  go_wp2_with fail
  refine (K3.out w2 (Below.refl _ _)).mono ?_
  rintro e w3 ⟨rfl, hb⟩
  have HB3 := Lib.hid hb
  have hs3 := hb.size
  clear hb K3
  go_wp2_with fail
  refine (K4.out w3 HB3.out).mono ?_
  rintro e w4 ⟨rfl, hb⟩
  have HB4 := Lib.hid (bthen HB2.out (bthen HB3.out hb hs3) hs2)
  have hs4 := HB4.out.size
  clear hb K4 HB3 HB2 HB1
  go_wp2_with fail
  refine (valid21 a n c P R M T w4 (HR.out.mono HB4.out) hml).mono ?_
  rintro e w5 ⟨rfl, hb⟩
  have HB5 := Lib.hid (bthen HB4.out hb hs4)
  have hs5 := HB5.out.size
  clear hb HB4
  have K6 := Lib.hid (valid30 a n c P R M T w5 (HR.out.mono HB5.out) hml)
  have K7 := Lib.hid fun W3 (h : Below w.heap.size w W3) => tick20 a n c P R M T W3 hn HA.out (HR.out.mono h)
  have K8 := Lib.hid fun W3 (h : Below w.heap.size w W3) => tick19 a n c P R M T W3 hn HA.out (HR.out.mono h)
  unfold TickR at K7 K8
  generalize okB n P R M T = ok at *
  have hO : (ok == ok) = true := beq_self_eq_true ok
  go_wp2_with fail
  refine K6.out.mono ?_
  rintro e w6 ⟨rfl, hb⟩
  have HB6 := Lib.hid (bthen HB5.out hb hs5)
  have hs6 := HB6.out.size
  clear hb HB5 K6
  go_wp2_with fail
  refine (K7.out w6 HB6.out).mono ?_
  rintro e w7 ⟨x1, y1, rfl, _, _, hR7, hb⟩
  have HR7 := Lib.hid hR7
  have HB7 := Lib.hid (bthen HB6.out hb hs6)
  have hs7 := HB7.out.size
  clear hb HB6 K7 hR7
  go_wp2_with fail
  refine (K8.out w7 HB7.out).mono ?_
  rintro e w8 ⟨x2, y2, rfl, _, _, hR8, hb⟩
  have K9 := Lib.hid (same28 x1 x2 n y1 0 y2 P R M _ (fun _ => 0) w8 (HR7.out.mono hb) hR8 hml)
  have HB8 := Lib.hid (bthen HB7.out hb hs7)
  have hs8 := HB8.out.size
  clear hb HB7 K8 hR8 HR7
  go_wp2_with fail
  refine K9.out.mono ?_
  rintro e w9 ⟨rfl, hb⟩
  have HB9 := Lib.hid (bthen HB8.out hb hs8)
  clear hb HB8 K9
  go_wp2
  go_ret
  exact ⟨rfl, HB9.out⟩
end

def aP : Nat → Int := fun k => k
def aR : Nat → Int := fun _ => 0
def aM : Nat → Int := fun _ => 100
def aT (k : Nat) : Int := if k = 0 then 5 else 100
def aW (k : Nat) : Int := if k < 2 then 50 else 0
theorem aw0 : okB 2 aP aR aM aT = true := by decide
theorem aw1 : eS 2 2 true aW 30 = 0 := by decide
theorem aw2 : gAll aW aT (ordP aP 2 16) 2 30 0 = 5 := by decide
theorem aw3 : gAll aW aT (ordP aP 2 16) 2 30 1 = 25 := by decide
theorem aw4 : aT 0 - g1 aW aT (ordP aP 2 16) 2 30 0 = 0 := by decide
set_option maxRecDepth 100000 in
set_option maxHeartbeats 4000000 in
theorem awake10 (w : World) : Calls Try.prog 10 #[] w fun e w' => e = .returned (.bool true) ∧ Below w.heap.size w w' := by
  have hR : R4 ((w.alloc (.cells #[.int .i64 0, .int .i64 0, .int .i64 100, .int .i64 5, .int .i64 1, .int .i64 0, .int .i64 100, .int .i64 100] 35)).alloc (.cells #[.int .i64 50, .int .i64 50] 3)) (some ⟨w.heap.size, 0, none⟩) 2 aP aR aM aT := by
    refine ⟨w.heap.size, 0, fun _ => rfl, fun k hk => ?_⟩
    match k, hk with
    | 0, _ => simp [go_sem, aP, aR, aM, aT]
    | 1, _ => simp [go_sem, aP, aR, aM, aT]
  have hW : Row ((w.alloc (.cells #[.int .i64 0, .int .i64 0, .int .i64 100, .int .i64 5, .int .i64 1, .int .i64 0, .int .i64 100, .int .i64 100] 35)).alloc (.cells #[.int .i64 50, .int .i64 50] 3)) (some ⟨w.heap.size + 1, 0, none⟩) 2 aW := by
    refine ⟨w.heap.size + 1, 0, fun _ => rfl, fun k hk => ?_⟩
    match k, hk with
    | 0, _ => simp [go_sem, aW]
    | 1, _ => simp [go_sem, aW]
  have HR := Lib.hid hR
  have HB := Lib.hid (((below_alloc w (.cells #[.int .i64 0, .int .i64 0, .int .i64 100, .int .i64 5, .int .i64 1, .int .i64 0, .int .i64 100, .int .i64 100] 35))).alloc (by simp) (.cells #[.int .i64 50, .int .i64 50] 3))
  have K1 := Lib.hid (share14 (some ⟨w.heap.size, 0, none⟩) 2 2 (some ⟨w.heap.size + 1, 0, none⟩) 2 2 aP aR aM aT aW 30 _ (by omega) (by omega) (fun h => by cases h) hR hW (fun i hi => by unfold aW; rw [if_neg (by omega)]))
  clear hR hW
  unfold ShareR at K1
  rw [aw0, aw1] at K1
  go_enter Try.func10, Try.ntmps10
  go_wp2_with fail
  refine K1.out.mono ?_
  rintro e w1 ⟨N, a1, a2, c1, c2, rfl, hN, hc1, hA1, hR1, hG1, hb⟩
  obtain rfl : N = 2 := hN
  obtain ⟨b1, m1, p1, q1⟩ := hR1
  obtain ⟨b2, m2, p2, q2⟩ := hG1
  obtain rfl := p1 (by omega)
  obtain rfl := p2 (by omega)
  have t0 := (q1 0 (by omega)).2.2.2
  have g0 := q2 0 (by omega)
  have g1 := q2 1 (by omega)
  simp only [aw4] at t0
  rw [aw2] at g0
  rw [aw3] at g1
  rw [Nat.add_zero] at g0
  simp only [Nat.zero_mul, Nat.add_zero] at t0
  have HB1 := Lib.hid (bthen HB.out hb HB.out.size)
  have K2 := Lib.hid (valid21 (some ⟨w.heap.size, 0, none⟩) 2 2 aP aR aM aT w1 (HR.out.mono hb) (by decide))
  rw [aw0] at K2
  clear hA1 p1 q1 p2 q2 hb K1 HB HR
  go_wp2_with fail
  refine K2.out.mono ?_
  rintro e w2 ⟨rfl, hb⟩
  have HB2 := Lib.hid (bthen HB1.out hb HB1.out.size)
  clear hb
  go_wp2
  go_ret
  exact ⟨rfl, HB2.out⟩
end Go.Proofs.Ytgcplboiodnfpaa
