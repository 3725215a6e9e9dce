/- Layer 45: TextFormats, walked. -/
import Derived.Test.YtgflfdnajchjaaaGreatDoorFB
import Derived.Test.YtgflfdnajchjaaaGreatDoorF1
namespace Go.Proofs.YtgflfdnajchjaaaGreatDoor
set_option linter.unusedVariables false
set_option linter.unusedSimpArgs false
open Go.RowKit Go.Sort
open Tm
attribute [local go_sem] gcell bs_tl
theorem FS.sM {w0 u : World} {B M z : Nat} {c : Cf} {X : Nat → Ch.Fd} {T : Nat → Te} {v : Value} {m : Nat} {tn : Int} {Q : Nat → Tr} (H : FS w0 u B M z c X T v m tn Q) : M ≤ u.heap.size := H.sm
theorem tr_one (R : Nat → Tr) (j : Nat) : (trv R j).oneCell' = true := by
  obtain ⟨k, i, hi, rfl⟩ : ∃ k i, i < 5 ∧ j = k * 5 + i := ⟨j / 5, j % 5, by omega, by omega⟩
  rw [trv_at R k i hi]
  match i, hi with
  | 0, _ => rfl
  | 1, _ => rfl
  | 2, _ => rfl
  | 3, _ => rfl
  | 4, _ => rfl
set_option maxRecDepth 100000 in
set_option maxHeartbeats 16000000 in
theorem formats5 (a : Option Addr) (b m0 n cc : Nat) (xs : Nat → Int) (oa : Option Addr) (ob om on oc : Nat) (R : Nat → Tr) (wh bx : Int) (w : World) (G : Gl w) (hc : n ≤ cc) (h0 : a = none → cc = 0) (ha : 0 < cc → a = some ⟨b, m0, none⟩) (hx : ∀ i, i < n → w.cell? ⟨b, m0 + i, none⟩ = some (.int .i64 (xs i)))
    (o1 : on ≤ oc) (o2 : oa = none → oc = 0) (o3 : 0 < oc → oa = some ⟨ob, om, none⟩) (o4 : ∀ k, k < on → ∀ i, i < 5 → w.cell? ⟨ob, om + (k * 5 + i), none⟩ = some ((trC (R k)).getD i undef)) (o5 : ∀ k, k < on → ByAt w (R k).pa (R k).by' ∧ (R k).pn = (R k).by'.length ∧ (R k).pn ≤ maxLen) (o6 : ∀ k, k < on → I64 (R k).a ∧ I64 (R k).t ∧ I64 (R k).b ∧ I64 (R k).d)
    (hwh : -9223372036854775808 ≤ wh ∧ wh ≤ 9223372036854775807) (hbx : -9223372036854775808 ≤ bx ∧ bx ≤ 9223372036854775807) :
    Calls Tryz.prog 5 #[.slice a n cc, .slice oa on oc, .int .i64 wh, .int .i64 bx] w fun e w' => e = .returned (.bool true) ∧ Below w.heap.size w w' := by
  have HG := Lib.hid G
  have KW := Lib.hid (fun (W : World) (hb : Below w.heap.size w W) => awake8 W (G.mono hb))
  have KR := Lib.hid (fun h300 => roll_any w a b m0 n cc xs h300 hc h0 ha hx)
  have HOC := Lib.hid (show ∀ j, j < on * 5 → w.cell? ⟨ob, om + j, none⟩ = some (trv R j) from fun j hj => by
    obtain ⟨k, i, hi, rfl⟩ : ∃ k i, i < 5 ∧ j = k * 5 + i := ⟨j / 5, j % 5, by omega, by omega⟩
    rw [trv_at R k i hi]
    exact o4 k (by omega) i hi)
  have HOX := Lib.hid (show ∀ k, k < on → w.cell? ⟨ob, om + k * 5 + 4, none⟩ = some (.slice (R k).pa (R k).pn (R k).pc) from fun k hk => by
    have := o4 k hk 4 (by omega)
    rw [← Nat.add_assoc] at this
    exact this)
  have HOD := Lib.hid o5
  have HOI := Lib.hid o6
  have HO2 := Lib.hid o2
  have HO3o := Lib.hid o3
  clear G h0 ha hx o2 o3 o4 o5 o6
  by_cases hn : n ≤ 300
  · by_cases hon : on ≤ 10
    · go_enter Tryz.func5, Tryz.ntmps5
      go_wp2_with (first | (go_at_call 9; refine (light_any a n cc _).mono ?_; rintro e w1 ⟨rfl, rfl⟩; refine Hid.out ?_))
      refine Lib.hid ?_
      go_upto_region 4 with fail
      go_loopw [9] (fun s9 wr => ∃ k : Nat, s9 = .int .i64 k ∧ k ≤ on ∧ Hid (∀ j, j < k → (R j).by'.length ≤ 1600) ∧ wr = w1) (fun s9 _ => 20 - (intOf s9).toNat)
      case atStart => exact ⟨0, rfl, Nat.zero_le _, Lib.hid (fun j hj => absurd hj (Nat.not_lt_zero j)), rfl⟩
      case round =>
        obtain ⟨k, rfl, hk, HS, hwr⟩ := hrel
        subst hwr
        rename World => w1
        by_cases hlt : k < on
        · have ead := HO3o.out (by omega)
          have hcl := HOX.out k hlt
          have hpl := (HOD.out k hlt).2.1
          by_cases h16 : (R k).pn ≤ 1600
          · have HP := Lib.hid hpl
            clear hpl
            rw [ead]
            clear ead
            go_wp2
            go_roundw
            case rel =>
              refine ⟨k + 1, by go_num, by omega, Lib.hid (fun j hj => ?_), trivial⟩
              by_cases e : j = k
              · rw [e, ← HP.out]; exact h16
              · exact HS.out j (by omega)
            case measure => simp [intOf]; omega
          · clear hpl
            rw [ead]
            clear ead
            go_wp2_with (go_at_call 8; refine (KW.out _ (Below.refl _ _)).mono ?_; rintro e w3 ⟨rfl, hb3⟩)
            go_ret
            exact ⟨rfl, hb3⟩
        · obtain rfl : on = k := by omega
          clear hlt hk
          go_upto_region 9 with (go_at_call 10; refine (KR.out hn).mono ?_; rintro e w2 ⟨p, g, ad, cap, rfl, hD, hp, hb2⟩)
          have HD := Lib.hid (show DiceS w2 p w2.heap.size from ⟨g, ad, cap, n, xs, 0, hD, hn, lt_of_cell hD.c0, hD.gl, Nat.le_refl _⟩)
          have hpl : p < w2.heap.size := lt_of_cell hD.c0
          have HB2 := Lib.hid hb2
          clear hD hb2 KR
          go_wp2_with (go_at_call 11; refine (config11 true true p w2.heap.size w2 HD.out).mono ?_; rintro e w3 ⟨c, X, T, i0, rfl, hK, hCB, hi0, hd3, ho3⟩; refine Hid.out ?_)
          refine Lib.hid ?_
          have hcv : cfv c = .agg (cfs c).toArray := rfl
          have hst := run_storeCells_new (P := Tryz.prog) w3 37 #[.int .i64 0, .int .i64 0, .int .i64 0, .int .i64 0, .int .i64 0, .int .i64 0, .int .i64 0, .int .i64 0, .int .i64 0, .int .i64 0, .int .i64 0, .int .i64 0, .int .i64 0, .int .i64 0, .int .i64 0, .int .i64 0, .int .i64 0, .int .i64 0, .slice none 0 0, .slice none 0 0] (cfs c).toArray (by kernel_rfl) rfl (one_c c)
          have HCB := Lib.hid hCB
          have HK := Lib.hid (hK.only (only_alloc (only_refl w3 p) (.cells (cfs c).toArray 37)) hpl)
          have HD3 := Lib.hid (hd3.alloc (.cells (cfs c).toArray 37))
          have HO3 := Lib.hid (only_alloc ho3 (.cells (cfs c).toArray 37))
          have HZ := Lib.hid (bx_new w3 (cfs c).toArray 37)
          have hw23 := ho3.size
          clear hK hCB hd3 ho3
          rw [hcv]
          clear hcv
          go_upto_region 10 with fail
          clear hst
          have hzp : w3.heap.size ≠ p := by omega
          have hpW : p < (w3.alloc (.cells (cfs c).toArray 37)).heap.size := by simp; omega
          generalize w3.alloc _ = w4 at *
          generalize w3.heap.size = z at *
          refine wp_region_peelJ 0 5 (fun u u' => OnlyP u u' p) (fun i v u => match i with
            | 0 => v = .pointer (some ⟨p, 0, none⟩)
            | 1 => v = .agg (cfs c).toArray
            | 2 => v = .pointer (some ⟨p, 0, none⟩)
            | 3 => ∃ m : Nat, v = .int .i64 m ∧ m < 9
            | 4 => ∃ (m : Nat) (Q : Nat → Tr), m < 9 ∧ TrW u w4.heap.size v m 50 c.tn Q
            | _ => True) (fun _ _ u => DiceS u p w2.heap.size) (by kernel_rfl) (by kernel_rfl) rfl (fun _ _ d _ _ h => by cases d <;> exact h) (only_drewN (only_refl _ _) 1) (fun _ _ _ h1 h2 => only_trans h1 h2) (fun _ _ _ _ _ _ _ h => h) (HD3.out.drewN 1) ?_ ?_ ?_
          · intro i v w1 w2 hb h
            match i with
            | 0 => exact h
            | 1 => exact h
            | 2 => exact h
            | 3 => exact h
            | 4 =>
              obtain ⟨m, Q, e0, e1⟩ := h
              exact ⟨m, Q, e0, e1.only hb hpW⟩
            | k + 5 => exact h
          · intro i o hp hi ho L vf u1 hun hw hb hj hd
            have hi' : i = 0 ∨ i = 1 ∨ i = 2 ∨ i = 3 ∨ i = 4 := by omega
            rcases hi' with rfl | rfl | rfl | rfl | rfl
            all_goals obtain rfl := Option.some.inj ho
            all_goals simp only [fillA, List.take_succ_cons, List.take_zero, List.drop_succ_cons, List.drop_zero, Nat.zero_add, Nat.reduceAdd]
            · have HJ := Lib.hid hj
              clear hd hw hj
              go_wp2
              exact ⟨rfl, only_refl _ _, rfl, HJ.out⟩
            · have HRG := Lib.hid (bx_range (only_box hb hzp HZ.out) (l := cfs c) rfl)
              have HJ := Lib.hid hj
              clear hd hw hj
              simp only [Act.put, List.setIfInBounds_toArray, List.set_cons_succ, List.set_cons_zero]
              go_wp2_with (refine wpList_load_mid rfl 37 (.tmp 11) rfl z 0 rfl (cfs c) _ HRG.out Tryz.underlying37 rfl (by kernel_rfl) ?_)
              exact ⟨rfl, only_refl _ _, rfl, HJ.out⟩
            · have HJ := Lib.hid hj
              clear hd hw hj
              go_wp2
              exact ⟨rfl, only_refl _ _, rfl, HJ.out⟩
            · have f2 := hd 2 (by omega) (by omega) (hw 2 (by kernel_rfl))
              have HJ := Lib.hid hj
              clear hd hw hj
              simp only [Act.put, List.setIfInBounds_toArray, List.set_cons_succ, List.set_cons_zero]
              generalize vf 2 = vv at *
              subst f2
              go_wp2_with (go_at_call 12; refine (next12 (by decide) (by decide) HJ.out).mono ?_; rintro e w3 ⟨x, rfl, h0, h1, hd, ho⟩)
              obtain ⟨x, rfl⟩ : ∃ x' : Nat, x = x' := ⟨x.toNat, by omega⟩
              exact ⟨rfl, ho, ⟨x, rfl, by omega⟩, hd⟩
            · have f0 := hd 0 (by omega) (by omega) (hw 0 (by kernel_rfl))
              have f1 := hd 1 (by omega) (by omega) (hw 1 (by kernel_rfl))
              obtain ⟨m, f3, hm⟩ := hd 3 (by omega) (by omega) (hw 3 (by kernel_rfl))
              have hsz := hb.size
              have KT := Lib.hid (traffic14 c X T m i0 50 p w2.heap.size w2.heap.size u1 (HK.out.only hb hpl) hpl HCB.out hi0 (by omega) (by decide) (show DiceS u1 p w2.heap.size from hj))
              have HJ := Lib.hid hj
              clear hd hw hj
              simp only [Act.put, List.setIfInBounds_toArray, List.set_cons_succ, List.set_cons_zero]
              generalize vf 0 = y0 at *
              subst f0
              generalize vf 1 = y1 at *
              subst f1
              generalize vf 3 = y3 at *
              subst f3
              go_wp2_with (go_at_call 14; refine KT.out.mono ?_; rintro e w3 ⟨v, Q, rfl, q1, q2, q3, hd, ho⟩)
              exact ⟨rfl, ho, ⟨m, Q, hm, own_base q1 hsz, fun k hk => own_base (q2 k hk) hsz, q3⟩, hd⟩
          intro vf u1 hb hj hd
          obtain ⟨m, Q, hm, hT⟩ := hd 4 (by omega) (by omega)
          have hsz24 := HO3.out.size
          have hsz12 := HB2.out.size
          have HF := Lib.hid (show FS w1 u1 w2.heap.size w4.heap.size z c X T (vf 4) m c.tn Q from ⟨only_box hb hzp HZ.out, HK.out.only hb hpl, hT, HB2.out.trans (only_below (only_trans HO3.out hb) hp hsz12), hsz12, by omega, by omega, hb.size⟩)
          have HM := Lib.hid (netM_of HCB.out hi0)
          have htn3 : 1 ≤ c.tn ∧ c.tn ≤ 3 := by have := HCB.out.tn; omega
          clear hd hb hj hT HK HO3 HD3 HZ HD
          simp only [fillA, List.take_succ_cons, List.take_zero, List.drop_succ_cons, List.drop_zero, Nat.zero_add, Nat.reduceAdd]
          simp only [Act.put, List.setIfInBounds_toArray, List.set_cons_succ, List.set_cons_zero]
          generalize vf 4 = v4 at *
          clear HCB
          obtain ⟨g0, hta, -, -⟩ := HF.out.rw.rows (q := 0) (by omega)
          have HTA := Lib.hid hta
          clear hta
          have hm3 := modp_bd bx 3 (by decide)
          have hm18 := modp_bd bx 18 (by decide)
          go_upto_block 2 with (go_at_call 15; refine (mod_any wh 5 (by decide) _).mono ?_; rintro e w5 ⟨rfl, rfl⟩)
          generalize modp wh 5 = k5 at *
          go_cut [] (fun wx => ∃ c' T', FS w1 wx w2.heap.size w4.heap.size z c' X T' v4 m c.tn Q ∧ NetM c' X T')
          case first =>
            go_upto_if 59 with fail
            by_cases e0 : k5 = 0
            · subst e0
              have hcz := bx_cell HF.out.bx 0 (v := .int .i64 (c.h 0)) rfl
              have hfz := bx_fr HF.out.bx 0
              go_wp2_with (go_at_call 15; refine (mod_any bx 3 (by decide) _).mono ?_; rintro e w6 ⟨rfl, rfl⟩)
              go_meet
              exact ⟨_, _, HF.out.seed _, HM.out.seed ⟨by omega, by omega⟩⟩
            · have b0 : (k5 == 0) = false := by simp [e0]
              by_cases e1 : k5 = 1
              · subst e1
                clear e0
                go_upto_region 15 with fail
                refine wp_region_peelJ 0 7 (fun _ _ => True) (fun i v u => match i with
                  | 0 => v = .pointer (some ⟨z, 19, none⟩)
                  | 1 => v = .slice (some ⟨g0, 0, none⟩) c.tn c.tc
                  | 2 => v = .int .i64 bx
                  | 3 => v = .int .i64 (modp bx 18)
                  | 4 => v = .int .i64 (modp bx 18 - 1)
                  | 5 => v = .pointer (some ⟨g0, 0, none⟩)
                  | 6 => v = .pointer (some ⟨g0, 1, none⟩)
                  | _ => True) (fun _ _ u => FS w1 u w2.heap.size w4.heap.size z c X T v4 m c.tn Q) (by kernel_rfl) (by kernel_rfl) rfl (fun _ _ d _ _ h => by cases d <;> exact h) trivial (fun _ _ _ _ _ => trivial) (fun _ _ _ _ _ _ _ h => h) (HF.out.drew 1) ?_ ?_ ?_
                · intro i v w1 w2 hb h
                  match i with
                  | 0 => exact h
                  | 1 => exact h
                  | 2 => exact h
                  | 3 => exact h
                  | 4 => exact h
                  | 5 => exact h
                  | 6 => exact h
                  | k + 7 => exact h
                · intro i o hp hi ho L vf u1 hun hw hb hj hd
                  have hi' : i = 0 ∨ i = 1 ∨ i = 2 ∨ i = 3 ∨ i = 4 ∨ i = 5 ∨ i = 6 := by omega
                  rcases hi' with rfl | rfl | rfl | rfl | rfl | rfl | rfl
                  all_goals obtain rfl := Option.some.inj ho
                  all_goals simp only [fillA, List.take_succ_cons, List.take_zero, List.drop_succ_cons, List.drop_zero, Nat.zero_add, Nat.reduceAdd]
                  · have HJ := Lib.hid hj
                    clear hd hw hj
                    simp only [Act.put, List.setIfInBounds_toArray, List.set_cons_succ, List.set_cons_zero]
                    go_wp2
                    exact ⟨rfl, trivial, rfl, HJ.out⟩
                  · have f0 := hd 0 (by omega) (by omega) (hw 0 (by kernel_rfl))
                    have hc := bx_cell (show FS w1 u1 w2.heap.size w4.heap.size z c X T v4 m c.tn Q from hj).bx 19 (v := .slice c.ta c.tn c.tc) rfl
                    rw [HTA.out] at hc
                    have HJ := Lib.hid hj
                    clear hd hw hj
                    simp only [Act.put, List.setIfInBounds_toArray, List.set_cons_succ, List.set_cons_zero]
                    generalize vf 0 = y0 at *
                    subst f0
                    go_wp2
                    exact ⟨rfl, trivial, rfl, HJ.out⟩
                  · have HJ := Lib.hid hj
                    clear hd hw hj
                    simp only [Act.put, List.setIfInBounds_toArray, List.set_cons_succ, List.set_cons_zero]
                    go_wp2
                    exact ⟨rfl, trivial, rfl, HJ.out⟩
                  · have f2 := hd 2 (by omega) (by omega) (hw 2 (by kernel_rfl))
                    have HJ := Lib.hid hj
                    clear hd hw hj
                    simp only [Act.put, List.setIfInBounds_toArray, List.set_cons_succ, List.set_cons_zero]
                    generalize vf 2 = y2 at *
                    subst f2
                    go_wp2_with (go_at_call 15; refine (mod_any bx 18 (by decide) _).mono ?_; rintro e w6 ⟨rfl, rfl⟩)
                    exact ⟨rfl, trivial, rfl, HJ.out⟩
                  · have f3 := hd 3 (by omega) (by omega) (hw 3 (by kernel_rfl))
                    have HJ := Lib.hid hj
                    clear hd hw hj
                    simp only [Act.put, List.setIfInBounds_toArray, List.set_cons_succ, List.set_cons_zero]
                    generalize vf 3 = y3 at *
                    subst f3
                    go_wp2
                    exact ⟨rfl, trivial, rfl, HJ.out⟩
                  · have f1 := hd 1 (by omega) (by omega) (hw 1 (by kernel_rfl))
                    have HJ := Lib.hid hj
                    clear hd hw hj
                    simp only [Act.put, List.setIfInBounds_toArray, List.set_cons_succ, List.set_cons_zero]
                    generalize vf 1 = y1 at *
                    subst f1
                    go_wp2
                    exact ⟨rfl, trivial, rfl, HJ.out⟩
                  · have f5 := hd 5 (by omega) (by omega) (hw 5 (by kernel_rfl))
                    have HJ := Lib.hid hj
                    clear hd hw hj
                    simp only [Act.put, List.setIfInBounds_toArray, List.set_cons_succ, List.set_cons_zero]
                    generalize vf 5 = y5 at *
                    subst f5
                    go_wp2
                    exact ⟨rfl, trivial, rfl, HJ.out⟩
                intro vf u1 hb hj hd
                have f4 := hd 4 (by omega) (by omega)
                have f6 := hd 6 (by omega) (by omega)
                have HF2 := Lib.hid (show FS w1 u1 w2.heap.size w4.heap.size z c X T v4 m c.tn Q from hj)
                clear hd hb hj HF
                simp only [fillA, List.take_succ_cons, List.take_zero, List.drop_succ_cons, List.drop_zero, Nat.zero_add, Nat.reduceAdd]
                simp only [Act.put, List.setIfInBounds_toArray, List.set_cons_succ, List.set_cons_zero]
                generalize vf 4 = y4 at *
                subst f4
                generalize vf 6 = y6 at *
                subst f6
                have hT0 := HF2.out.rw.t
                rw [HTA.out] at hT0
                have hfz := hT0.frozenAt 1
                obtain ⟨g1, hg1, -, hgc⟩ := HF2.out.rw.rows (q := 0) (by omega)
                have hcz := hgc 1 (by omega)
                rw [HTA.out] at hg1
                injection hg1 with hg1
                injection hg1 with hg1
                subst hg1
                rw [show 0 * 14 + 1 = 1 from rfl] at hcz
                clear hT0 hgc
                go_wp2_with fail
                go_meet
                exact ⟨_, _, HF2.out.cls HTA.out (by omega) _, HM.out.cls ⟨by omega, by omega⟩⟩
              · have b1 : (k5 == 1) = false := by simp [e1]
                clear e0 e1
                go_wp2_with fail
                go_meet
                exact ⟨c, T, HF.out, HM.out⟩
          case rest =>
            clear HF HM HTA hm3 hm18
            obtain ⟨c', T', hF, hM⟩ := hcut
            have HF := Lib.hid hF
            have HM := Lib.hid hM
            clear hF hM
            have HTQ := Lib.hid (fun k (hk : k < m) => (HF.out.tr.2.2 k hk).toI (by decide) (by omega))
            have HTI := Lib.hid (cat_all (P := TrI) (n := m) (m := on) HTQ.out (fun k hk => by obtain ⟨i1, i2, i3, i4⟩ := HOI.out k hk; exact ⟨i1, i2, i3, i4, HS.out k hk⟩))
            obtain ⟨a4, c4, hv4, hDI⟩ := HF.out.doc HM.out
            have HDI := Lib.hid hDI
            clear hDI
            obtain ⟨r1, hr1⟩ : ∃ r1, r1 = chkD (docOf c' X T' m Q) := ⟨_, rfl⟩
            obtain ⟨S1, hS1⟩ : ∃ S1, S1 = bs (if r1 = 0 then catL (textS (docOf c' X T' m Q)) else []) := ⟨_, rfl⟩
            obtain ⟨r2, hr2⟩ : ∃ r2, r2 = chkD (docOf c' X T' (m + on) (catQ m Q R)) := ⟨_, rfl⟩
            obtain ⟨S2, hS2⟩ : ∃ S2, S2 = bs (if r2 = 0 then catL (textS (docOf c' X T' (m + on) (catQ m Q R))) else []) := ⟨_, rfl⟩
            have HR1 := Lib.hid hr1
            have HS1 := Lib.hid hS1
            have HR2 := Lib.hid hr2
            have HS2 := Lib.hid hS2
            have HV4 := Lib.hid hv4
            clear hr1 hS1 hr2 hS2 hv4
            have K13F := Lib.hid (fun (W : World) (H : FS w1 W w2.heap.size w4.heap.size z c' X T' v4 m c.tn Q) => (show Calls Tryz.prog 13 #[cfv c', v4] W fun e w' => e = .returned (.tuple #[.string S1, .int .i64 r1]) ∧ Below W.heap.size W w' from by
              obtain ⟨a5, c5, hv5, hDI⟩ := H.doc HM.out
              have k := fmt13_doc (cc := c5) hDI (fun h => docN_chk HM.out h) (Nat.le_trans (size_pk HM.out (by omega) HTQ.out) (by decide))
              rw [← HR1.out] at k
              rw [← HS1.out, ← hv5] at k
              exact k))
            have K16h := Lib.hid (show Calls Tryz.prog 16 #[cfv c', v4] wc fun e w' => e = .returned (.tuple #[.string S1, .int .i64 r1]) ∧ Below wc.heap.size wc w' from by
              have k := fmt16_doc (cc := c4) (HG.out.mono HF.out.bl) HDI.out (fun h => docN_chk HM.out h) (Nat.le_trans (size_pk HM.out (by omega) HTQ.out) (by decide))
              rw [← HR1.out] at k
              rw [← HS1.out, ← HV4.out] at k
              exact k)
            have HRG := Lib.hid (bx_range HF.out.bx (l := cfs c') rfl)
            have K16c := K16h
            unfold cfv at K16c
            go_wp2_with (first | (refine wpList_load_mid rfl 37 (.tmp 11) rfl z 0 rfl (cfs c') _ HRG.out Tryz.underlying37 rfl (by kernel_rfl) ?_) | (go_at_call 16; refine K16c.out.mono ?_; rintro e w6 ⟨rfl, hb6⟩; refine Hid.out ?_))
            refine Lib.hid ?_
            clear K16h K16c
            replace HF := Lib.hid (HF.out.below hb6)
            clear hb6
            replace HRG := Lib.hid (bx_range HF.out.bx (l := cfs c') rfl)
            have K13c := Lib.hid (K13F.out w6 HF.out)
            unfold cfv at K13c
            go_wp2_with (first | (refine wpList_load_mid rfl 37 (.tmp 11) rfl z 0 rfl (cfs c') _ HRG.out Tryz.underlying37 rfl (by kernel_rfl) ?_) | (go_at_call 13; refine K13c.out.mono ?_; rintro e w8 ⟨rfl, hb8⟩; refine Hid.out ?_))
            refine Lib.hid ?_
            clear K13c HDI
            replace HF := Lib.hid (HF.out.below hb8)
            clear hb8 HRG
            go_upto_region 18 with fail
            refine wp_region_peelJ 0 9 (fun _ _ => True) (fun i v u => match i with
              | 0 => v = .agg (cfs c').toArray
              | 1 => v = v4
              | 2 => v = .slice oa on oc
              | 3 => True
              | 4 => v = .tuple #[.string S2, .int .i64 r2]
              | 5 => v = .tuple #[.string S2, .int .i64 r2]
              | 6 => v = .string S2
              | 7 => v = .int .i64 r2
              | 8 => v = .string S2
              | _ => True) (AJ (fun u => FS w1 u w2.heap.size w4.heap.size z c' X T' v4 m c.tn Q) (fun u v => u.ownsRow w4.heap.size 49 5 v (m + on) ((List.range ((m + on) * 5)).map (trv (catQ m Q R))))) (by kernel_rfl) (by kernel_rfl) rfl (fun _ _ d _ _ h => by cases d <;> exact h) trivial (fun _ _ _ _ _ => trivial) (fun L L' vs vs' u h1 h2 h => AJ.congr L L' vs vs' u h1 h2 h) (AJ.start (HF.out.drew 1)) ?_ ?_ ?_
            · intro i v w1 w2 hb h
              match i with
              | 0 => exact h
              | 1 => exact h
              | 2 => exact h
              | 3 => exact h
              | 4 => exact h
              | 5 => exact h
              | 6 => exact h
              | 7 => exact h
              | 8 => exact h
              | k + 9 => exact h
            · intro i o hp hi ho L vf u1 hun hw hb hj hd
              have hi' : i = 0 ∨ i = 1 ∨ i = 2 ∨ i = 3 ∨ i = 4 ∨ i = 5 ∨ i = 6 ∨ i = 7 ∨ i = 8 := by omega
              rcases hi' with rfl | rfl | rfl | rfl | rfl | rfl | rfl | rfl | rfl
              all_goals obtain rfl := Option.some.inj ho
              all_goals simp only [fillA, List.take_succ_cons, List.take_zero, List.drop_succ_cons, List.drop_zero, Nat.zero_add, Nat.reduceAdd]
              · have HRG := Lib.hid (bx_range hj.1.bx (l := cfs c') rfl)
                have HJ := Lib.hid hj
                clear hd hw hj
                simp only [Act.put, List.setIfInBounds_toArray, List.set_cons_succ, List.set_cons_zero]
                go_wp2_with (refine wpList_load_mid rfl 37 (.tmp 11) rfl z 0 rfl (cfs c') _ HRG.out Tryz.underlying37 rfl (by kernel_rfl) ?_)
                first | exact ⟨rfl, trivial, rfl, HJ.out.same (by decide)⟩ | exact ⟨rfl, rfl, HJ.out.same (by decide)⟩
              · have HJ := Lib.hid hj
                clear hd hw hj
                simp only [Act.put, List.setIfInBounds_toArray, List.set_cons_succ, List.set_cons_zero]
                go_wp2
                first | exact ⟨rfl, trivial, rfl, HJ.out.same (by decide)⟩ | exact ⟨rfl, rfl, HJ.out.same (by decide)⟩
              · have HJ := Lib.hid hj
                clear hd hw hj
                simp only [Act.put, List.setIfInBounds_toArray, List.set_cons_succ, List.set_cons_zero]
                go_wp2
                first | exact ⟨rfl, trivial, rfl, HJ.out.same (by decide)⟩ | exact ⟨rfl, rfl, HJ.out.same (by decide)⟩
              · have f1 := hd 1 (by omega) (by omega) (hw 1 (by kernel_rfl))
                have f2 := hd 2 (by omega) (by omega) (hw 2 (by kernel_rfl))
                have hszM : w4.heap.size ≤ u1.heap.size := by have := hj.1.sM; exact this
                have HOW := Lib.hid hj.1.tr.1
                have HCS := Lib.hid (fun (j : Nat) (hj' : j < on * 5) => up hj.1.bl (HOC.out j hj'))
                have HJ := Lib.hid hj
                clear hd hw hj
                simp only [Act.put, List.setIfInBounds_toArray, List.set_cons_succ, List.set_cons_zero]
                generalize vf 1 = y1 at *
                replace f1 := f1.symm
                subst f1
                generalize vf 2 = y2 at *
                subst f2
                go_wp2_with (at_builtin; refine wpList_append_any u1 w4.heap.size rfl (.tmp 88) (.tmp 89) 43 rfl 49 _ 5 _ Tryz.underlying43 pz49 rfl (by decide) (by decide) v4 m (trv Q) rfl oa ob om on oc rfl o1 HO2.out HO3o.out (trv R) HCS.out (fun j _ => tr_one R j) (trv (catQ m Q R)) (fun j hj => cat_keep m Q R j hj) (fun j _ => cat_new m Q R j) HOW.out hszM (by omega) ?_; intro v' w' r1 r3 r4)
                first | exact ⟨rfl, trivial, trivial, AJ.app (HJ.out.1.grown r3 r4) r1⟩ | exact ⟨rfl, AJ.app (HJ.out.1.grown r3 r4) r1⟩
              · have f0 := hd 0 (by omega) (by omega) (hw 0 (by kernel_rfl))
                have hA := hj.2 (hw 3 (by kernel_rfl))
                generalize hv3 : vf 3 = y3 at hA
                obtain ⟨a5, c5, hy3, hDI⟩ := hj.1.docs HM.out hA HOD.out
                subst hy3
                have KK := Lib.hid (show Calls Tryz.prog 16 #[cfv c', .slice a5 (m + on) c5] u1 fun e w' => e = .returned (.tuple #[.string S2, .int .i64 r2]) ∧ Below u1.heap.size u1 w' from by
                  have k := fmt16_doc (cc := c5) (HG.out.mono hj.1.bl) hDI (fun h => docN_chk HM.out h) (Nat.le_trans (size_pk HM.out (by omega) HTI.out) (by decide))
                  rw [← HR2.out] at k
                  rw [← HS2.out] at k
                  exact k)
                unfold cfv at KK
                clear hA hDI
                have HJ := Lib.hid hj
                clear hd hw hj
                simp only [Act.put, List.setIfInBounds_toArray, List.set_cons_succ, List.set_cons_zero]
                generalize vf 0 = y0 at *
                subst f0
                generalize vf 3 = y3 at *
                subst hv3
                go_wp2_with (go_at_call 16; refine KK.out.mono ?_; rintro e w7 ⟨rfl, hb7⟩)
                first | exact ⟨rfl, trivial, rfl, HJ.out.other (by decide) (HJ.out.1.below hb7) (fun x hx => own_below hx hb7)⟩ | exact ⟨rfl, rfl, HJ.out.other (by decide) (HJ.out.1.below hb7) (fun x hx => own_below hx hb7)⟩
              · have f4 := hd 4 (by omega) (by omega) (hw 4 (by kernel_rfl))
                have HJ := Lib.hid hj
                clear hd hw hj
                simp only [Act.put, List.setIfInBounds_toArray, List.set_cons_succ, List.set_cons_zero]
                generalize vf 4 = y4 at *
                subst f4
                go_wp2
                first | exact ⟨rfl, trivial, rfl, HJ.out.same (by decide)⟩ | exact ⟨rfl, rfl, HJ.out.same (by decide)⟩
              · have f5 := hd 5 (by omega) (by omega) (hw 5 (by kernel_rfl))
                have HJ := Lib.hid hj
                clear hd hw hj
                simp only [Act.put, List.setIfInBounds_toArray, List.set_cons_succ, List.set_cons_zero]
                generalize vf 5 = y5 at *
                subst f5
                go_wp2
                first | exact ⟨rfl, trivial, rfl, HJ.out.same (by decide)⟩ | exact ⟨rfl, rfl, HJ.out.same (by decide)⟩
              · have f5 := hd 5 (by omega) (by omega) (hw 5 (by kernel_rfl))
                have HJ := Lib.hid hj
                clear hd hw hj
                simp only [Act.put, List.setIfInBounds_toArray, List.set_cons_succ, List.set_cons_zero]
                generalize vf 5 = y5 at *
                subst f5
                go_wp2
                first | exact ⟨rfl, trivial, rfl, HJ.out.same (by decide)⟩ | exact ⟨rfl, rfl, HJ.out.same (by decide)⟩
              · have f6 := hd 6 (by omega) (by omega) (hw 6 (by kernel_rfl))
                have HJ := Lib.hid hj
                clear hd hw hj
                simp only [Act.put, List.setIfInBounds_toArray, List.set_cons_succ, List.set_cons_zero]
                generalize vf 6 = y6 at *
                subst f6
                go_wp2
                first | exact ⟨rfl, trivial, rfl, HJ.out.same (by decide)⟩ | exact ⟨rfl, rfl, HJ.out.same (by decide)⟩
            intro vf u1 hb hj hd
            have f7 := hd 7 (by omega) (by omega)
            have f8 := hd 8 (by omega) (by omega)
            replace HF := Lib.hid hj.1
            clear hd hb hj
            simp only [fillA, List.take_succ_cons, List.take_zero, List.drop_succ_cons, List.drop_zero, Nat.zero_add, Nat.reduceAdd]
            simp only [Act.put, List.setIfInBounds_toArray, List.set_cons_succ, List.set_cons_zero]
            generalize vf 7 = y7 at *
            subst f7
            generalize vf 8 = y8 at *
            subst f8
            go_upto_region 19 with fail
            refine wp_region_peelJ 0 9 (fun _ _ => True) (fun i v u => match i with
              | 0 => v = .agg (cfs c').toArray
              | 1 => v = v4
              | 2 => v = .slice oa on oc
              | 3 => True
              | 4 => v = .tuple #[.string S2, .int .i64 r2]
              | 5 => v = .tuple #[.string S2, .int .i64 r2]
              | 6 => v = .string S2
              | 7 => v = .int .i64 r2
              | 8 => v = .string S2
              | _ => True) (AJ (fun u => FS w1 u w2.heap.size w4.heap.size z c' X T' v4 m c.tn Q) (fun u v => u.ownsRow w4.heap.size 49 5 v (m + on) ((List.range ((m + on) * 5)).map (trv (catQ m Q R))))) (by kernel_rfl) (by kernel_rfl) rfl (fun _ _ d _ _ h => by cases d <;> exact h) trivial (fun _ _ _ _ _ => trivial) (fun L L' vs vs' u h1 h2 h => AJ.congr L L' vs vs' u h1 h2 h) (AJ.start (HF.out.drew 1)) ?_ ?_ ?_
            · intro i v w1 w2 hb h
              match i with
              | 0 => exact h
              | 1 => exact h
              | 2 => exact h
              | 3 => exact h
              | 4 => exact h
              | 5 => exact h
              | 6 => exact h
              | 7 => exact h
              | 8 => exact h
              | k + 9 => exact h
            · intro i o hp hi ho L vf u1 hun hw hb hj hd
              have hi' : i = 0 ∨ i = 1 ∨ i = 2 ∨ i = 3 ∨ i = 4 ∨ i = 5 ∨ i = 6 ∨ i = 7 ∨ i = 8 := by omega
              rcases hi' with rfl | rfl | rfl | rfl | rfl | rfl | rfl | rfl | rfl
              all_goals obtain rfl := Option.some.inj ho
              all_goals simp only [fillA, List.take_succ_cons, List.take_zero, List.drop_succ_cons, List.drop_zero, Nat.zero_add, Nat.reduceAdd]
              · have HRG := Lib.hid (bx_range hj.1.bx (l := cfs c') rfl)
                have HJ := Lib.hid hj
                clear hd hw hj
                simp only [Act.put, List.setIfInBounds_toArray, List.set_cons_succ, List.set_cons_zero]
                go_wp2_with (refine wpList_load_mid rfl 37 (.tmp 11) rfl z 0 rfl (cfs c') _ HRG.out Tryz.underlying37 rfl (by kernel_rfl) ?_)
                first | exact ⟨rfl, trivial, rfl, HJ.out.same (by decide)⟩ | exact ⟨rfl, rfl, HJ.out.same (by decide)⟩
              · have HJ := Lib.hid hj
                clear hd hw hj
                simp only [Act.put, List.setIfInBounds_toArray, List.set_cons_succ, List.set_cons_zero]
                go_wp2
                first | exact ⟨rfl, trivial, rfl, HJ.out.same (by decide)⟩ | exact ⟨rfl, rfl, HJ.out.same (by decide)⟩
              · have HJ := Lib.hid hj
                clear hd hw hj
                simp only [Act.put, List.setIfInBounds_toArray, List.set_cons_succ, List.set_cons_zero]
                go_wp2
                first | exact ⟨rfl, trivial, rfl, HJ.out.same (by decide)⟩ | exact ⟨rfl, rfl, HJ.out.same (by decide)⟩
              · have f1 := hd 1 (by omega) (by omega) (hw 1 (by kernel_rfl))
                have f2 := hd 2 (by omega) (by omega) (hw 2 (by kernel_rfl))
                have hszM : w4.heap.size ≤ u1.heap.size := by have := hj.1.sM; exact this
                have HOW := Lib.hid hj.1.tr.1
                have HCS := Lib.hid (fun (j : Nat) (hj' : j < on * 5) => up hj.1.bl (HOC.out j hj'))
                have HJ := Lib.hid hj
                clear hd hw hj
                simp only [Act.put, List.setIfInBounds_toArray, List.set_cons_succ, List.set_cons_zero]
                generalize vf 1 = y1 at *
                replace f1 := f1.symm
                subst f1
                generalize vf 2 = y2 at *
                subst f2
                go_wp2_with (at_builtin; refine wpList_append_any u1 w4.heap.size rfl (.tmp 96) (.tmp 97) 43 rfl 49 _ 5 _ Tryz.underlying43 pz49 rfl (by decide) (by decide) v4 m (trv Q) rfl oa ob om on oc rfl o1 HO2.out HO3o.out (trv R) HCS.out (fun j _ => tr_one R j) (trv (catQ m Q R)) (fun j hj => cat_keep m Q R j hj) (fun j _ => cat_new m Q R j) HOW.out hszM (by omega) ?_; intro v' w' r1 r3 r4)
                first | exact ⟨rfl, trivial, trivial, AJ.app (HJ.out.1.grown r3 r4) r1⟩ | exact ⟨rfl, AJ.app (HJ.out.1.grown r3 r4) r1⟩
              · have f0 := hd 0 (by omega) (by omega) (hw 0 (by kernel_rfl))
                have hA := hj.2 (hw 3 (by kernel_rfl))
                generalize hv3 : vf 3 = y3 at hA
                obtain ⟨a5, c5, hy3, hDI⟩ := hj.1.docs HM.out hA HOD.out
                subst hy3
                have KK := Lib.hid (show Calls Tryz.prog 13 #[cfv c', .slice a5 (m + on) c5] u1 fun e w' => e = .returned (.tuple #[.string S2, .int .i64 r2]) ∧ Below u1.heap.size u1 w' from by
                  have k := fmt13_doc (cc := c5) hDI (fun h => docN_chk HM.out h) (Nat.le_trans (size_pk HM.out (by omega) HTI.out) (by decide))
                  rw [← HR2.out] at k
                  rw [← HS2.out] at k
                  exact k)
                unfold cfv at KK
                clear hA hDI
                have HJ := Lib.hid hj
                clear hd hw hj
                simp only [Act.put, List.setIfInBounds_toArray, List.set_cons_succ, List.set_cons_zero]
                generalize vf 0 = y0 at *
                subst f0
                generalize vf 3 = y3 at *
                subst hv3
                go_wp2_with (go_at_call 13; refine KK.out.mono ?_; rintro e w7 ⟨rfl, hb7⟩)
                first | exact ⟨rfl, trivial, rfl, HJ.out.other (by decide) (HJ.out.1.below hb7) (fun x hx => own_below hx hb7)⟩ | exact ⟨rfl, rfl, HJ.out.other (by decide) (HJ.out.1.below hb7) (fun x hx => own_below hx hb7)⟩
              · have f4 := hd 4 (by omega) (by omega) (hw 4 (by kernel_rfl))
                have HJ := Lib.hid hj
                clear hd hw hj
                simp only [Act.put, List.setIfInBounds_toArray, List.set_cons_succ, List.set_cons_zero]
                generalize vf 4 = y4 at *
                subst f4
                go_wp2
                first | exact ⟨rfl, trivial, rfl, HJ.out.same (by decide)⟩ | exact ⟨rfl, rfl, HJ.out.same (by decide)⟩
              · have f5 := hd 5 (by omega) (by omega) (hw 5 (by kernel_rfl))
                have HJ := Lib.hid hj
                clear hd hw hj
                simp only [Act.put, List.setIfInBounds_toArray, List.set_cons_succ, List.set_cons_zero]
                generalize vf 5 = y5 at *
                subst f5
                go_wp2
                first | exact ⟨rfl, trivial, rfl, HJ.out.same (by decide)⟩ | exact ⟨rfl, rfl, HJ.out.same (by decide)⟩
              · have f5 := hd 5 (by omega) (by omega) (hw 5 (by kernel_rfl))
                have HJ := Lib.hid hj
                clear hd hw hj
                simp only [Act.put, List.setIfInBounds_toArray, List.set_cons_succ, List.set_cons_zero]
                generalize vf 5 = y5 at *
                subst f5
                go_wp2
                first | exact ⟨rfl, trivial, rfl, HJ.out.same (by decide)⟩ | exact ⟨rfl, rfl, HJ.out.same (by decide)⟩
              · have f6 := hd 6 (by omega) (by omega) (hw 6 (by kernel_rfl))
                have HJ := Lib.hid hj
                clear hd hw hj
                simp only [Act.put, List.setIfInBounds_toArray, List.set_cons_succ, List.set_cons_zero]
                generalize vf 6 = y6 at *
                subst f6
                go_wp2
                first | exact ⟨rfl, trivial, rfl, HJ.out.same (by decide)⟩ | exact ⟨rfl, rfl, HJ.out.same (by decide)⟩
            intro vf u1 hb hj hd
            have f7 := hd 7 (by omega) (by omega)
            have f8 := hd 8 (by omega) (by omega)
            replace HF := Lib.hid hj.1
            clear hd hb hj
            simp only [fillA, List.take_succ_cons, List.take_zero, List.drop_succ_cons, List.drop_zero, Nat.zero_add, Nat.reduceAdd]
            simp only [Act.put, List.setIfInBounds_toArray, List.set_cons_succ, List.set_cons_zero]
            generalize vf 7 = y7 at *
            subst f7
            generalize vf 8 = y8 at *
            subst f8
            clear htn3 hw23 hsz24 hsz12 hzp hpW
            by_cases h1 : r1 = 0
            · have hC := HR1.out.symm.trans h1
              have hN := docN_chk HM.out hC
              have hFm := docF_all (c := c') (X := X) (T := T') (fun k hk => (pkt_right hC k hk).2)
              have hz1 := size_pk (T := T') (X := X) HM.out (show m ≤ 40 by omega) HTQ.out
              have hS := HS1.out
              rw [if_pos h1] at hS
              have hz2 : S1.size ≤ 900000 := by rw [hS, bs_size]; omega
              have K17 := parse17 S1 hz2 u1 (HG.out.mono HF.out.bl)
              have hSl : S1.data.toList = catL (textS (docOf c' X T' m Q)) := by rw [hS, bs_toList]
              rw [hSl, parse_text hFm hN, hC, if_pos rfl] at K17
              have K17 := Lib.hid K17
              have HC := Lib.hid hC
              have HSS := Lib.hid hS
              have HZ1 := Lib.hid hz1
              have HN := Lib.hid hN
              clear hC hS hz1 hz2 hSl hN hFm
              subst h1
              go_wp2_with (go_at_call 17; refine K17.out.mono ?_; rintro e w9 ⟨c2, X2, T2, a2, n2, cc2, Q2, rfl, hcf, htr, hle, hDD, h15, hkb, hb9⟩; refine Hid.out ?_)
              refine Lib.hid ?_
              clear K17
              have hcv2 : cfv c2 = .agg (cfs c2).toArray := rfl
              have hst2 := run_storeCells_new (P := Tryz.prog) w9 37 #[.int .i64 0, .int .i64 0, .int .i64 0, .int .i64 0, .int .i64 0, .int .i64 0, .int .i64 0, .int .i64 0, .int .i64 0, .int .i64 0, .int .i64 0, .int .i64 0, .int .i64 0, .int .i64 0, .int .i64 0, .int .i64 0, .int .i64 0, .int .i64 0, .slice none 0 0, .slice none 0 0] (cfs c2).toArray (by kernel_rfl) rfl (one_c c2)
              have ha9 : Below w9.heap.size w9 (w9.alloc (.cells (cfs c2).toArray 37)) := (Below.refl _ _).alloc (Nat.le_refl _) _
              have HD2 := Lib.hid (DocIn.mono ⟨hcf, htr, hle, hDD, h15, hkb⟩ ha9)
              replace HF := Lib.hid (HF.out.below (bthen' hb9 ha9))
              have HR2 := Lib.hid (range_new w9 c2)
              clear hcf htr hle hDD h15 hkb hb9 ha9
              rw [hcv2]
              clear hcv2
              go_upto_region 24 with fail
              clear hst2
              generalize w9.alloc (.cells (cfs c2).toArray 37) = w10 at *
              generalize w9.heap.size = z2 at *
              have HR1b := Lib.hid (bx_range HF.out.bx (l := cfs c') rfl)
              have KS := same18 c' c2 a4 a2 m n2 c4 cc2 S1 0 w10 (fun W hb => by rw [← HV4.out]; exact K13F.out W (HF.out.below hb)) (fun W hb => by
                have k := fmt13_doc (cc := cc2) (HD2.out.mono hb) (fun _ => HN.out) (Nat.le_trans HZ1.out (by decide))
                rw [HC.out, if_pos rfl, ← HSS.out] at k
                exact k)
              rw [← HV4.out] at KS
              have KS := Lib.hid KS
              unfold cfv at KS
              clear HD2 K13F
              go_wp2_with (first | (refine wpList_load_midW rfl 37 (.tmp 11) rfl z 0 rfl (cfs c') _ HR1b.out Tryz.underlying37 rfl (by kernel_rfl) ?_) | (refine wpList_load_midW rfl 37 (.tmp 21) rfl z2 0 rfl (cfs c2) _ HR2.out Tryz.underlying37 rfl (by kernel_rfl) ?_) | (go_at_call 18; refine KS.out.mono ?_; rintro e w11 ⟨rfl, hb11⟩) | (go_at_call 8; refine (KW.out _ (bthen' HF.out.bl hb11)).mono ?_; rintro e w12 ⟨rfl, hb12⟩))
              go_ret
              exact ⟨rfl, bthen' (bthen' HF.out.bl hb11) hb12⟩
            · have b1 : (r1 == 0) = false := by simp [h1]
              clear h1
              go_wp2_with (go_at_call 8; refine (KW.out _ HF.out.bl).mono ?_; rintro e w9 ⟨rfl, hb9⟩)
              go_ret
              exact ⟨rfl, bthen' HF.out.bl hb9⟩
    · go_enter Tryz.func5, Tryz.ntmps5
      go_wp2_with (first | (go_at_call 9; refine (light_any a n cc _).mono ?_; rintro e w1 ⟨rfl, rfl⟩; refine Hid.out ?_))
      refine Lib.hid ?_
      go_wp2_with (go_at_call 8; refine (KW.out w1 (Below.refl _ _)).mono ?_; rintro e w3 ⟨rfl, hb3⟩)
      go_ret
      exact ⟨rfl, hb3⟩
  · go_enter Tryz.func5, Tryz.ntmps5
    go_wp2_with (first | (go_at_call 9; refine (light_any a n cc _).mono ?_; rintro e w1 ⟨rfl, rfl⟩; refine Hid.out ?_))
    refine Lib.hid ?_
    go_wp2_with (go_at_call 8; refine (KW.out w1 (Below.refl _ _)).mono ?_; rintro e w3 ⟨rfl, hb3⟩)
    go_ret
    exact ⟨rfl, hb3⟩
end Go.Proofs.YtgflfdnajchjaaaGreatDoor
