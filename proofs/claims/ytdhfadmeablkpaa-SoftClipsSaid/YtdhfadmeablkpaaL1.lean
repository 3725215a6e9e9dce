/- Layer 27: the walk of SoftRaw. -/
import Derived.Test.YtdhfadmeablkpaaC5
namespace Go.Proofs.Ytdhfadmeablkpaa
open Go.RowKit Go.Sort
attribute [local go_sem] gcell
set_option linter.unusedVariables false

theorem ofN_le (n m : Nat) (gain : Int) (xs ys : Nat → Int) : ofN n m gain xs ys ≤ n := by unfold ofN; split <;> omega
theorem combN_le (n m : Nat) (xs ys : Nat → Int) : combN n m xs ys ≤ n := by unfold combN; split <;> omega

set_option maxHeartbeats 4000000 in
theorem awake6 (w : World) : Calls Try.prog 6 #[] w fun e w' => e = .returned (.bool true) ∧ Below w.heap.size w w' := by
  have hB0 : Below w.heap.size w ((w.alloc (.cells #[.int .i64 0, .int .i64 1] 3)).alloc (.cells #[.int .i64 (-12)] 3)) := ((Below.refl _ _).alloc (Nat.le_refl _) _).alloc (by simp) _
  have HB := Lib.hid hB0
  clear hB0
  have HX := Lib.hid (show Row ((w.alloc (.cells #[.int .i64 0, .int .i64 1] 3)).alloc (.cells #[.int .i64 (-12)] 3)) (some ⟨w.heap.size, 0, none⟩) 2 (fun k => (k : Int)) from ⟨w.heap.size, 0, fun _ => rfl, fun k hk => by
    match k, hk with
    | 0, _ => simp [go_sem]
    | 1, _ => simp [go_sem]⟩)
  have HY := Lib.hid (show Row ((w.alloc (.cells #[.int .i64 0, .int .i64 1] 3)).alloc (.cells #[.int .i64 (-12)] 3)) (some ⟨w.heap.size + 1, 0, none⟩) 1 (fun _ => -12) from ⟨w.heap.size + 1, 0, fun _ => rfl, fun k hk => by
    match k, hk with
    | 0, _ => simp [go_sem]⟩)
  go_enter Try.func6, Try.ntmps6
  go_wp2_with (go_at_call 7; refine (of7 _ _ 2 _ 1 _ 10 (fun k => (k : Int)) (fun _ => -12) _ HX.out HY.out (by omega) (by omega)).mono ?_)
  · intro e w1 h
    obtain ⟨a, c, rfl, hc, hr, hb⟩ := h
    have hE : ofE 2 1 10 (fun k => (k : Int)) (fun _ => -12) = 0 := by decide
    have hN : ofN 2 1 10 (fun k => (k : Int)) (fun _ => -12) = 2 := by decide
    rw [hN] at hr hc
    rw [hE, hN]
    have hv0 : ofV 1 10 (fun k => (k : Int)) (fun _ => -12) 0 = -2 := by decide
    have hv1 : ofV 1 10 (fun k => (k : Int)) (fun _ => -12) 1 = -10 := by decide
    have HR := Lib.hid hr
    obtain ⟨b, o, ha, hx⟩ := hr
    have hx0 := hx 0 (by omega)
    have hx1 := hx 1 (by omega)
    have hak := ha (by omega)
    subst hak
    rw [hv0, Nat.add_zero] at hx0
    rw [hv1] at hx1
    have hB1 := HB.out.trans (hb.mono (by simp; omega))
    have HB1 := Lib.hid hB1
    clear hx ha hb hB1 hE hN HB
    go_wp2_with (go_at_call 12; refine (hard12 _ 2 _ _ _ HR.out (by omega)).mono ?_)
    intro e w2 h
    obtain ⟨g, rfl, hr2, hb2⟩ := h
    obtain ⟨b2, o2, ha2, hy⟩ := hr2
    have hy0 := hy 0 (by omega)
    have e1 : hard1 (ofV 1 10 (fun k => (k : Int)) (fun _ => -12) 0) = 1 := by decide
    simp only [e1, Nat.add_zero] at hy0
    have hak := ha2 (by omega)
    simp at hak
    obtain ⟨rfl, rfl⟩ := hak
    have hx0' := up hb2 hx0
    have hx1' := up hb2 hx1
    have hB2 := Lib.hid (bthen HB1.out hb2 HB1.out.size)
    clear hy ha2 hb2 HB1 hx0 hx1 HR hv0 hv1 e1
    go_wp2_with (go_at_call 14; refine (clip14 _ _).mono ?_; rintro e w1 ⟨rfl, rfl⟩)
    go_ret
    exact ⟨ret_bool (by decide), hB2.out⟩

set_option maxRecDepth 100000 in
set_option maxHeartbeats 4000000 in
theorem raw3 (x : Int) (ab an aa ac : Option Addr) (nb nn na nc cb cn ca cc : Nat) (gain : Int) (bs ns us cs : Nat → Int) (w : World) (RB : Row w ab nb bs) (RN : Row w an nn ns) (RA : Row w aa na us) (RC : Row w ac nc cs)
    (h1 : nb ≤ 140737488351232) (h2 : nn ≤ 140737488351232) (h3 : na ≤ 140737488351232) (h4 : nc ≤ 140737488351232) :
    Calls Try.prog 3 #[.int .i64 x, .slice ab nb cb, .int .i64 gain, .slice an nn cn, .slice aa na ca, .slice ac nc cc] w fun e w' => e = .returned (.bool true) ∧ Below w.heap.size w w' := by
  have HRB := Lib.hid RB
  have HRN := Lib.hid RN
  have HRA := Lib.hid RA
  have HRC := Lib.hid RC
  clear RB RN RA RC
  by_cases hs : nb + nn + na + nc ≤ 400
  · go_enter Try.func3, Try.ntmps3
    go_wp2_with (go_at_call 7; refine (of7 _ _ nb _ nn _ gain bs ns _ HRB.out HRN.out (by omega) (by omega)).mono ?_)
    intro e w1 h
    obtain ⟨a1, c1, rfl, hc1, r1, hb1⟩ := h
    have HRB1 := Lib.hid (HRB.out.mono hb1)
    have HRN1 := Lib.hid (HRN.out.mono hb1)
    have HRA1 := Lib.hid (HRA.out.mono hb1)
    have HRC1 := Lib.hid (HRC.out.mono hb1)
    have HR1 := Lib.hid r1
    have HB1 := Lib.hid hb1
    have z1 := hb1.size
    clear HRB HRN HRA HRC r1 hb1
    go_wp2_with (go_at_call 8; refine (of8 _ _ nb _ nn _ gain bs ns _ HRB1.out HRN1.out (by omega) (by omega)).mono ?_)
    intro e w2 h
    obtain ⟨a2, c2, rfl, hc2, r2, hb2⟩ := h
    have HRA2 := Lib.hid (HRA1.out.mono hb2)
    have HRC2 := Lib.hid (HRC1.out.mono hb2)
    have HR12 := Lib.hid (HR1.out.mono hb2)
    have HR22 := Lib.hid r2
    have hB2 := bthen HB1.out hb2 z1
    have HB2 := Lib.hid hB2
    have z2 := hB2.size
    clear HRB1 HRN1 HRA1 HRC1 HR1 r2 hb2 HB1 hB2
    have hle := ofN_le nb nn gain bs ns
    generalize ofE nb nn gain bs ns = E1 at *
    generalize ofN nb nn gain bs ns = N1 at *
    generalize ofV nn gain bs ns = V1 at *
    go_wp2_with (go_at_call 9; refine (combine9 _ _ na _ nc _ us cs _ HRA2.out HRC2.out (by omega) (by omega)).mono ?_)
    intro e w3 h
    obtain ⟨a3, c3, rfl, hc3, r3, hb3⟩ := h
    have HRA3 := Lib.hid (HRA2.out.mono hb3)
    have HRC3 := Lib.hid (HRC2.out.mono hb3)
    have HR13 := Lib.hid (HR12.out.mono hb3)
    have HR23 := Lib.hid (HR22.out.mono hb3)
    have HR33 := Lib.hid r3
    have hB3 := bthen HB2.out hb3 z2
    have HB3 := Lib.hid hB3
    have z3 := hB3.size
    clear HRA2 HRC2 HR12 HR22 r3 hb3 HB2 hB3
    go_wp2_with (go_at_call 10; refine (combine10 _ _ na _ nc _ us cs _ HRA3.out HRC3.out (by omega) (by omega)).mono ?_)
    intro e w4 h
    obtain ⟨a4, c4, rfl, hc4, r4, hb4⟩ := h
    have HRA4 := Lib.hid (HRA3.out.mono hb4)
    have HR14 := Lib.hid (HR13.out.mono hb4)
    have HR24 := Lib.hid (HR23.out.mono hb4)
    have HR34 := Lib.hid (HR33.out.mono hb4)
    have HR44 := Lib.hid r4
    have hB4 := bthen HB3.out hb4 z3
    have HB4 := Lib.hid hB4
    have z4 := hB4.size
    clear HRA3 HRC3 HR13 HR23 HR33 r4 hb4 HB3 hB4
    have hle2 := combN_le na nc us cs
    generalize combE na nc us cs = E2 at *
    generalize combN na nc us cs = N2 at *
    have hq1 : (E1 == E1) = true := beq_self_eq_true _
    have hq2 : (E2 == E2) = true := beq_self_eq_true _
    have m1 : N1 ≤ maxLen := by unfold maxLen; omega
    have m2 : N2 ≤ maxLen := by unfold maxLen; omega
    have m3 : na ≤ maxLen := by unfold maxLen; omega
    have s1 : same N1 N1 V1 V1 = true := same_true rfl fun _ _ => rfl
    have s2 : same N2 N2 (fun k => clip (us k + cs k)) (fun k => clip (us k + cs k)) = true := same_true rfl fun _ _ => rfl
    have s3 : same na na (fun k => hard1 (us k)) (fun k => hard1 (us k)) = true := same_true rfl fun _ _ => rfl
    go_wp2_with (go_at_call 11; refine (same11 _ _ N1 _ N1 _ V1 V1 _ HR14.out HR24.out m1 m1).mono ?_)
    rw [s1]
    intro e w5 h
    obtain ⟨rfl, hb5⟩ := h
    have HRA5 := Lib.hid (HRA4.out.mono hb5)
    have HR35 := Lib.hid (HR34.out.mono hb5)
    have HR45 := Lib.hid (HR44.out.mono hb5)
    have hB5 := bthen HB4.out hb5 z4
    have HB5 := Lib.hid hB5
    have z5 := hB5.size
    clear HRA4 HR14 HR24 HR34 HR44 hb5 HB4 hB5
    go_wp2_with (go_at_call 11; refine (same11 _ _ N2 _ N2 _ _ _ _ HR35.out HR45.out m2 m2).mono ?_)
    rw [s2]
    intro e w6 h
    obtain ⟨rfl, hb6⟩ := h
    have HRA6 := Lib.hid (HRA5.out.mono hb6)
    have hB6 := bthen HB5.out hb6 z5
    have HB6 := Lib.hid hB6
    have z6 := hB6.size
    clear HRA5 HR35 HR45 hb6 HB5 hB6
    go_wp2_with (go_at_call 12; refine (hard12 _ na _ us _ HRA6.out (by omega)).mono ?_)
    intro e w7 h
    obtain ⟨g7, rfl, r7, hb7⟩ := h
    have HRA7 := Lib.hid (HRA6.out.mono hb7)
    have HR77 := Lib.hid r7
    have hB7 := bthen HB6.out hb7 z6
    have HB7 := Lib.hid hB7
    have z7 := hB7.size
    clear HRA6 r7 hb7 HB6 hB7
    go_wp2_with (go_at_call 13; refine (hard13 _ na _ us _ HRA7.out (by omega)).mono ?_)
    intro e w8 h
    obtain ⟨g8, rfl, r8, hb8⟩ := h
    have HR78 := Lib.hid (HR77.out.mono hb8)
    have HR88 := Lib.hid r8
    have hB8 := bthen HB7.out hb8 z7
    have HB8 := Lib.hid hB8
    have z8 := hB8.size
    clear HRA7 HR77 r8 hb8 HB7 hB8
    go_wp2_with (go_at_call 11; refine (same11 _ _ na _ na _ _ _ _ HR78.out HR88.out m3 m3).mono ?_)
    rw [s3]
    intro e w9 h
    obtain ⟨rfl, hb9⟩ := h
    have hB9 := bthen HB8.out hb9 z8
    have HB9 := Lib.hid hB9
    have z9 := hB9.size
    have hq3 : (clip x == clip x) = true := beq_self_eq_true _
    clear HR78 HR88 hb9 HB8 hB9
    go_wp2_with (first | (go_at_call 14; refine (clip14 _ _).mono ?_; rintro e w1 ⟨rfl, rfl⟩) | (go_at_call 15; refine (clip15 _ _).mono ?_; rintro e w1 ⟨rfl, rfl⟩) | (go_at_call 6; refine (awake6 _).mono ?_; intro e w10 h; obtain ⟨rfl, hb10⟩ := h; have HB10 := Lib.hid (bthen HB9.out hb10 z9); clear hb10))
    go_ret
    exact ⟨rfl, HB10.out⟩
  · go_enter Try.func3, Try.ntmps3
    go_wp2_with (go_at_call 6; refine (awake6 _).mono ?_; intro e w10 h; obtain ⟨rfl, hb10⟩ := h; have HB10 := Lib.hid hb10; clear hb10)
    go_ret
    exact ⟨rfl, HB10.out⟩
end Go.Proofs.Ytdhfadmeablkpaa
