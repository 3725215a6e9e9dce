/- Layer 45: TextLines, walked. -/
import Derived.Test.YtgflfdnajchjaaaGreatDoorFA
import Derived.Test.YtgflfdnajchjaaaGreatDoorN4
namespace Go.Proofs.YtgflfdnajchjaaaGreatDoor
set_option linter.unusedVariables false
set_option linter.unusedSimpArgs false
open Go.RowKit Go.Sort
open Tm
attribute [local go_sem] gcell bs_tl
/-- Traffic in rows of one's own. -/
def TrOwn (u : World) (B : Nat) (v : Value) (m : Nat) (tk tn : Int) (Q : Nat → Tr) : Prop := u.ownsRow B 49 5 v m ((List.range (m * 5)).map (trv Q)) ∧ (∀ k, k < m → OwnU u B (.slice (Q k).pa (Q k).pn (Q k).pc) (Q k).by') ∧ ∀ k, k < m → TrB tk tn (Q k)
theorem TrOwn.only {u u' : World} {B p : Nat} {v : Value} {m : Nat} {tk tn : Int} {Q : Nat → Tr} (h : TrOwn u B v m tk tn Q) (ho : OnlyP u u' p) (hp : p < B) : TrOwn u' B v m tk tn Q := ⟨own_only' h.1 ho hp, fun k hk => own_only' (h.2.1 k hk) ho hp, h.2.2⟩
set_option maxRecDepth 100000 in
set_option maxHeartbeats 8000000 in
theorem lines6 (a : Option Addr) (b m n cc : Nat) (xs : Nat → Int) (w : World) (G : Gl w) (hc : n ≤ cc) (h0 : a = none → cc = 0) (ha : 0 < cc → a = some ⟨b, m, none⟩) (hx : ∀ i, i < n → w.cell? ⟨b, m + i, none⟩ = some (.int .i64 (xs i))) : Calls Tryz.prog 6 #[.slice a n cc] w fun e w' => e = .returned (.bool true) ∧ Below w.heap.size w w' := by
  have HG := Lib.hid G
  have KW := Lib.hid (fun (W : World) (hb : Below w.heap.size w W) => awake8 W (G.mono hb))
  have KR := Lib.hid (fun h300 => roll_any w a b m n cc xs h300 hc h0 ha hx)
  clear G h0 ha hx
  by_cases hn : n ≤ 300
  · go_enter Tryz.func6, Tryz.ntmps6
    go_wp2_with (first | (go_at_call 9; refine (light_any a n cc _).mono ?_; rintro e w1 ⟨rfl, rfl⟩; refine Hid.out ?_))
    refine Lib.hid ?_
    go_upto_region 4 with (go_at_call 10; refine (KR.out hn).mono ?_; rintro e w2 ⟨p, g, ad, cap, rfl, hD, hp, hb2⟩)
    have HD := Lib.hid (show DiceS w2 p w2.heap.size from ⟨g, ad, cap, n, xs, 0, hD, hn, lt_of_cell hD.c0, hD.gl, Nat.le_refl _⟩)
    have hpl : p < w2.heap.size := lt_of_cell hD.c0
    have HB2 := Lib.hid hb2
    clear hD hb2 KR
    go_wp2_with (go_at_call 11; refine (config11 true true p w2.heap.size w2 HD.out).mono ?_; rintro e w3 ⟨c, X, T, i0, rfl, hK, hCB, hi0, hd3, ho3⟩; refine Hid.out ?_)
    refine Lib.hid ?_
    have hcv : cfv c = .agg (cfs c).toArray := rfl
    have hst := run_storeCells_new (P := Tryz.prog) w3 37 #[.int .i64 0, .int .i64 0, .int .i64 0, .int .i64 0, .int .i64 0, .int .i64 0, .int .i64 0, .int .i64 0, .int .i64 0, .int .i64 0, .int .i64 0, .int .i64 0, .int .i64 0, .int .i64 0, .int .i64 0, .int .i64 0, .int .i64 0, .int .i64 0, .slice none 0 0, .slice none 0 0] (cfs c).toArray (by kernel_rfl) rfl (one_c c)
    have HCB := Lib.hid hCB
    have HK := Lib.hid (hK.only (only_alloc (only_refl w3 p) (.cells (cfs c).toArray 37)) hpl)
    have HD3 := Lib.hid (hd3.alloc (.cells (cfs c).toArray 37))
    have HO3 := Lib.hid (only_alloc ho3 (.cells (cfs c).toArray 37))
    have HZ := Lib.hid (bx_new w3 (cfs c).toArray 37)
    have hw23 := ho3.size
    clear hK hCB hd3 ho3
    rw [hcv]
    clear hcv
    go_upto_region 5 with fail
    clear hst
    have hzp : w3.heap.size ≠ p := by omega
    have hpW : p < (w3.alloc (.cells (cfs c).toArray 37)).heap.size := by simp; omega
    generalize w3.alloc _ = w4 at *
    generalize w3.heap.size = z at *
    refine wp_region_peelJ 0 5 (fun u u' => OnlyP u u' p) (fun i v u => match i with
      | 0 => v = .pointer (some ⟨p, 0, none⟩)
      | 1 => v = .agg (cfs c).toArray
      | 2 => v = .pointer (some ⟨p, 0, none⟩)
      | 3 => ∃ m : Nat, v = .int .i64 m ∧ m < 6
      | 4 => ∃ (m : Nat) (Q : Nat → Tr), m < 6 ∧ TrOwn u w4.heap.size v m 40 c.tn Q
      | _ => True) (fun _ _ u => DiceS u p w2.heap.size) (by kernel_rfl) (by kernel_rfl) rfl (fun _ _ d _ _ h => by cases d <;> exact h) (only_drewN (only_refl _ _) 1) (fun _ _ _ h1 h2 => only_trans h1 h2) (fun _ _ _ _ _ _ _ h => h) (HD3.out.drewN 1) ?_ ?_ ?_
    · intro i v w1 w2 hb h
      match i with
      | 0 => exact h
      | 1 => exact h
      | 2 => exact h
      | 3 => exact h
      | 4 =>
        obtain ⟨m, Q, e0, e1⟩ := h
        exact ⟨m, Q, e0, e1.only hb hpW⟩
      | k + 5 => exact h
    · intro i o hp hi ho L vf u1 hun hw hb hj hd
      have hi' : i = 0 ∨ i = 1 ∨ i = 2 ∨ i = 3 ∨ i = 4 := by omega
      rcases hi' with rfl | rfl | rfl | rfl | rfl
      all_goals obtain rfl := Option.some.inj ho
      all_goals simp only [fillA, List.take_succ_cons, List.take_zero, List.drop_succ_cons, List.drop_zero, Nat.zero_add, Nat.reduceAdd]
      · have HJ := Lib.hid hj
        clear hd hw hj
        go_wp2
        exact ⟨rfl, only_refl _ _, rfl, HJ.out⟩
      · have HRG := Lib.hid (bx_range (only_box hb hzp HZ.out) (l := cfs c) rfl)
        have HJ := Lib.hid hj
        clear hd hw hj
        simp only [Act.put, List.setIfInBounds_toArray, List.set_cons_succ, List.set_cons_zero]
        go_wp2_with (refine wpList_load_mid rfl 37 (.tmp 4) rfl z 0 rfl (cfs c) _ HRG.out Tryz.underlying37 rfl (by kernel_rfl) ?_)
        exact ⟨rfl, only_refl _ _, rfl, HJ.out⟩
      · have HJ := Lib.hid hj
        clear hd hw hj
        go_wp2
        exact ⟨rfl, only_refl _ _, rfl, HJ.out⟩
      · have f2 := hd 2 (by omega) (by omega) (hw 2 (by kernel_rfl))
        have HJ := Lib.hid hj
        clear hd hw hj
        simp only [Act.put, List.setIfInBounds_toArray, List.set_cons_succ, List.set_cons_zero]
        generalize vf 2 = vv at *
        subst f2
        go_wp2_with (go_at_call 12; refine (next12 (by decide) (by decide) HJ.out).mono ?_; rintro e w3 ⟨x, rfl, h0, h1, hd, ho⟩)
        obtain ⟨x, rfl⟩ : ∃ x' : Nat, x = x' := ⟨x.toNat, by omega⟩
        exact ⟨rfl, ho, ⟨x, rfl, by omega⟩, hd⟩
      · have f0 := hd 0 (by omega) (by omega) (hw 0 (by kernel_rfl))
        have f1 := hd 1 (by omega) (by omega) (hw 1 (by kernel_rfl))
        obtain ⟨m, f3, hm⟩ := hd 3 (by omega) (by omega) (hw 3 (by kernel_rfl))
        have hsz := hb.size
        have KT := Lib.hid (traffic14 c X T m i0 40 p w2.heap.size w2.heap.size u1 (HK.out.only hb hpl) hpl HCB.out hi0 (by omega) (by decide) (show DiceS u1 p w2.heap.size from hj))
        have HJ := Lib.hid hj
        clear hd hw hj
        simp only [Act.put, List.setIfInBounds_toArray, List.set_cons_succ, List.set_cons_zero]
        generalize vf 0 = y0 at *
        subst f0
        generalize vf 1 = y1 at *
        subst f1
        generalize vf 3 = y3 at *
        subst f3
        go_wp2_with (go_at_call 14; refine KT.out.mono ?_; rintro e w3 ⟨v, Q, rfl, q1, q2, q3, hd, ho⟩)
        exact ⟨rfl, ho, ⟨m, Q, hm, own_base q1 hsz, fun k hk => own_base (q2 k hk) hsz, q3⟩, hd⟩
    intro vf u1 hb hj hd
    obtain ⟨m, Q, hm, hT⟩ := hd 4 (by omega) (by omega)
    have HT := Lib.hid hT
    have HK4 := Lib.hid (HK.out.only hb hpl)
    have HO4 := Lib.hid (only_trans HO3.out hb)
    have HZ4 := Lib.hid (only_box hb hzp HZ.out)
    have HD4 := Lib.hid (show DiceS u1 p w2.heap.size from hj)
    clear hd hb hj hT
    simp only [fillA, List.take_succ_cons, List.take_zero, List.drop_succ_cons, List.drop_zero, Nat.zero_add, Nat.reduceAdd]
    simp only [Act.put, List.setIfInBounds_toArray, List.set_cons_succ, List.set_cons_zero]
    generalize vf 4 = v4 at *
    go_upto_region 6 with fail
    have hbw : Below w1.heap.size w1 u1 := HB2.out.trans (only_below HO4.out hp (HB2.out.size))
    have HBW := Lib.hid hbw
    obtain ⟨a4, c4, rfl, hmc, hml, hTR⟩ := trR_of HT.out.1 HT.out.2.1
    have hDN := docN_net HCB.out hi0.2 (by decide) HT.out.2.2
    have hDF := docF_net HCB.out hi0.1 HT.out.2.2
    have hSZ := size_net HCB.out hi0 (by decide) (by omega) HT.out.2.2
    have hCK := chk_net HCB.out hi0 (by omega) (by decide) HT.out.2.2
    have K16 := fmt16_doc (cc := c4) (HG.out.mono hbw) (show DocIn u1 c X T a4 m Q (docOf c X T m Q) from ⟨HK4.out.cfIn, hTR, hml, rfl, HCB.out.h.b15, fun k hk => (HCB.out.t k hk).e⟩) (fun _ => hDN) (Nat.le_trans hSZ (by decide))
    rw [hCK, if_pos rfl] at K16
    obtain ⟨L, hL⟩ : ∃ L, L = textS (docOf c X T m Q) := ⟨_, rfl⟩
    rw [← hL] at K16 hSZ
    have hTL := text_len c X T m Q
    rw [← hL] at hTL
    have HL := Lib.hid hL
    have K16h := Lib.hid K16
    clear K16
    have K16 := K16h
    clear K16h
    have HDN := Lib.hid hDN
    have HDF := Lib.hid hDF
    have HSZ := Lib.hid hSZ
    have HTLs := Lib.hid hTL
    have HTB := Lib.hid HT.out.2.2
    have HKr := Lib.hid (fun q hq => HK4.out.rows (q := q) hq)
    have htn3 : 1 ≤ c.tn ∧ c.tn ≤ 3 := by have := HCB.out.tn; omega
    have hfn3 : c.fn ≤ 180 := by have := HCB.out.fn; omega
    have HRG := Lib.hid (bx_range HZ4.out (l := cfs c) rfl)
    clear hL hTL hDN hDF hSZ hCK hbw hTR HT HD4 HK HO3 HD3 HZ
    go_wp2_with (first | (refine wpList_load_mid rfl 37 (.tmp 4) rfl z 0 rfl (cfs c) _ HRG.out Tryz.underlying37 rfl (by kernel_rfl) ?_) | (go_at_call 16; refine K16.out.mono ?_; rintro e w6 ⟨rfl, hb6⟩; refine Hid.out ?_))
    refine Lib.hid ?_
    have hz6 := (hb6.block z (heap_lt HZ4.out)).trans HZ4.out
    have c18 := bx_cell hz6 18 (v := .slice c.fa c.fn c.fc) rfl
    have c19 := bx_cell hz6 19 (v := .slice c.ta c.tn c.tc) rfl
    have HC := Lib.hid (fun q (hq : q < c.tn) => (show ∃ g0, c.ta = some ⟨g0, 0, none⟩ ∧ w6.cell? ⟨g0, q * 14 + 2, none⟩ = some (.slice (T q).ba (T q).bn (T q).bc) from by
      obtain ⟨g0, h1, -, h2⟩ := HKr.out q hq
      exact ⟨g0, h1, up hb6 (h2 2 (by omega))⟩))
    go_upto_region 9 with fail
    have hnw : ((4 + c.fn + c.tn + m : Nat) : Int) = 4 + (c.fn : Int) + c.tn + m := by omega
    go_loopw [8, 9] (fun s8 s9 wr => ∃ q : Nat, s8 = .int .i64 (4 + (c.fn : Int) + c.tn + m + sumB T q) ∧ s9 = .int .i64 q ∧ q ≤ c.tn ∧ sumB T q ≤ 2 * q ∧ wr = w6) (fun _ s9 _ => 10 - (intOf s9).toNat)
    case atStart => exact ⟨0, by simp [sumB], rfl, Nat.zero_le _, Nat.le_refl _, rfl⟩
    case round =>
      obtain ⟨q, rfl, rfl, hq, hsb, hwr⟩ := hrel
      subst hwr
      by_cases hlt : q < c.tn
      · obtain ⟨g0, hta, cT⟩ := HC.out q hlt
        have hbn := (HCB.out.t q hlt).n
        rw [hta] at c19
        clear hta
        go_wp2
        go_roundw
        case rel => exact ⟨q + 1, by show Value.int .i64 _ = Value.int .i64 (4 + (c.fn : Int) + c.tn + m + ((sumB T q + (T q).bn : Nat) : Int)); congr 1; omega, by go_num, by omega, by show sumB T q + (T q).bn ≤ _; omega, trivial⟩
        case measure => simp [intOf] <;> omega
      · obtain rfl : q = c.tn := by omega
        clear hlt hq HC HKr c18
        have hSZ := HSZ.out
        have hSz : (bs (catL L)).size = (catL L).length := bs_size _
        obtain ⟨s, hs⟩ : ∃ s, s = catL L := ⟨_, rfl⟩
        have HS := Lib.hid hs
        have hsl : s.length ≤ 100000 := by rw [hs]; exact hSZ
        rw [← hs] at hSz
        rw [← hs]
        clear hs hSZ HSZ
        have HI := Lib.hid (fun (k : Nat) (hk : k < s.length) (i : Int) (hi : i = k) wx => run_index_str (s := bs s) (k := k) (c := s.getD k 0) (by rw [bs_toList, List.getD_eq_getElem?_getD, List.getElem?_eq_getElem hk]; rfl) i hi wx)
        go_upto_region 14 with fail
        go_loopw [10, 11, 12] (fun s10 s11 s12 wx => ∃ q : Nat, s12 = .int .i64 q ∧ q ≤ s.length ∧ s10 = .int .i64 (cntP s q) ∧ s11 = .int .i64 (lastP s q) ∧ wx = wr) (fun _ _ s12 _ => 200000 - (intOf s12).toNat)
        case atStart => exact ⟨0, rfl, Nat.zero_le _, rfl, rfl, rfl⟩
        case round =>
          obtain ⟨q, rfl, hq, rfl, rfl, hwx⟩ := hrel
          subst hwx
          have hcl := cnt_le s q
          have hll := last_le s q
          by_cases hlt : q < s.length
          · have hix := HI.out q hlt q rfl
            by_cases h10 : s.getD q 0 = 10
            · have hc1 := cnt_yes hlt h10
              have HC1 := Lib.hid hc1
              have hyes := last_yes h10
              have hno := last_no (s := s) (i := q)
              rw [h10] at hix
              by_cases hle : q + 1 < s.length
              · have HY := Lib.hid (hyes hle)
                clear hno hyes hc1 h10
                have hle2 : (q : Int) < (s.length : Int) - 1 := by omega
                go_wp2
                go_roundw
                case rel => exact ⟨q + 1, by go_num, by omega, by rw [HC1.out]; go_num, by rw [HY.out]; go_num, trivial⟩
                case measure => simp [intOf]; omega
              · have HY := Lib.hid (hno (fun h => hle h.2))
                clear hno hyes hc1 h10
                have hle2 : ¬ (q : Int) < (s.length : Int) - 1 := by omega
                go_wp2
                go_roundw
                case rel => exact ⟨q + 1, by go_num, by omega, by rw [HC1.out]; go_num, by rw [HY.out], trivial⟩
                case measure => simp [intOf]; omega
            · have HC1 := Lib.hid (cnt_no hlt h10)
              have HY := Lib.hid (last_no (s := s) (i := q) (fun h => h10 h.1))
              have hne : (((s.getD q 0).toNat : Int) == 10) = false := beq_false_of_ne fun h => h10 (UInt8.toNat_inj.1 (by show (s.getD q 0).toNat = 10; omega))
              clear h10
              generalize s.getD q 0 = cq at *
              go_wp2
              go_roundw
              case rel => exact ⟨q + 1, by go_num, by omega, by rw [HC1.out], by rw [HY.out], trivial⟩
              case measure => simp [intOf]; omega
          · obtain rfl : q = s.length := by omega
            clear hlt hq HI c19
            have hten : ∀ l ∈ L, (10 : UInt8) ∉ l := by rw [HL.out]; exact ten_text _
            have hcnt : (cntP s s.length : Int) = 4 + (c.fn : Int) + c.tn + m + sumB T c.tn := by
              rw [HS.out, cnt_all hten, HTLs.out]
              omega
            have hex : ∀ k, ((bs s).extract 0 k).data.toList = s.take k := fun k => by
              rw [ByteArray.data_extract, Array.toList_extract, bs_toList]
              simp
            have hexs : ∀ k, ((bs s).extract 0 k).size ≤ 900000 := fun k => by
              rw [ByteArray.size_extract, hSz]
              omega
            have HGr := Lib.hid (HG.out.mono (HBW.out.trans (hb6.mono HBW.out.size)))
            have K17 := parse17 ((bs s).extract 0 (lastP s s.length)) (hexs _) wr HGr.out
            rw [hex] at K17
            have hlastA : ∀ A l, L = A ++ [l] → s.take (lastP s s.length) = catL A := fun A l e => by
              rw [HS.out, e, last_cat (hten l (by rw [e]; simp)), take_cat]
            have HB6 := Lib.hid (HBW.out.trans (hb6.mono HBW.out.size))
            rcases m with _ | m
            · obtain ⟨D', l, hD, hF, hN⟩ := drop_bear HCB.out hi0 HDF.out HDN.out
              rw [hlastA _ _ (HL.out.trans hD), parse_text hF hN] at K17
              have hne := chkD_ne D'
              rw [hcnt]
              clear hcnt hex hexs hlastA hF hN hD
              by_cases h0 : chkD D' = 0
              · rw [h0, if_pos rfl] at K17
                have K17 := Lib.hid K17
                clear h0 hne
                go_wp2_with (go_at_call 17; refine K17.out.mono ?_; rintro e w7 ⟨c', X', T', a', n', cc', Q', rfl, hcf, htr, hle, hDD, h15, hkb, hb7⟩; refine Hid.out ?_)
                refine Lib.hid ?_
                clear hcf htr hDD h15 hkb
                have hcv2 : cfv c' = .agg (cfs c').toArray := rfl
                have hst2 := run_storeCells_new (P := Tryz.prog) w7 37 #[.int .i64 0, .int .i64 0, .int .i64 0, .int .i64 0, .int .i64 0, .int .i64 0, .int .i64 0, .int .i64 0, .int .i64 0, .int .i64 0, .int .i64 0, .int .i64 0, .int .i64 0, .int .i64 0, .int .i64 0, .int .i64 0, .int .i64 0, .int .i64 0, .slice none 0 0, .slice none 0 0] (cfs c').toArray (by kernel_rfl) rfl (one_c c')
                have HB8 := Lib.hid ((HB6.out.trans (hb7.mono HB6.out.size)).alloc (Nat.le_trans HB6.out.size hb7.size) (.cells (cfs c').toArray 37))
                have KW8 := Lib.hid (KW.out (w7.alloc (.cells (cfs c').toArray 37)) HB8.out)
                rw [hcv2]
                clear hcv2
                go_wp2_with (go_at_call 8; refine KW8.out.mono ?_; rintro e w9 ⟨rfl, hb9⟩)
                go_ret
                exact ⟨rfl, HB8.out.trans (hb9.mono HB8.out.size)⟩

              · rw [if_neg h0] at K17
                generalize chkD D' = er at *
                have K17 := Lib.hid (show Calls Tryz.prog 17 #[.string ((bs s).extract 0 (lastP s s.length))] wr fun e w' => e = .returned (.tuple #[cfv cfZ, .slice none 0 0, .int .i64 0, .int .i64 er]) ∧ Below wr.heap.size wr w' from K17)
                have hne2 : (er != 66) = true := bne_iff_ne.2 hne
                clear hne h0
                go_wp2_with (go_at_call 17; refine K17.out.mono ?_; rintro e w7 ⟨rfl, hb7⟩; refine Hid.out ?_)
                refine Lib.hid ?_
                have hcv2 : cfv cfZ = .agg (cfs cfZ).toArray := rfl
                have hst2 := run_storeCells_new (P := Tryz.prog) w7 37 #[.int .i64 0, .int .i64 0, .int .i64 0, .int .i64 0, .int .i64 0, .int .i64 0, .int .i64 0, .int .i64 0, .int .i64 0, .int .i64 0, .int .i64 0, .int .i64 0, .int .i64 0, .int .i64 0, .int .i64 0, .int .i64 0, .int .i64 0, .int .i64 0, .slice none 0 0, .slice none 0 0] (cfs cfZ).toArray (by kernel_rfl) rfl (one_c cfZ)
                have HB8 := Lib.hid ((HB6.out.trans (hb7.mono HB6.out.size)).alloc (Nat.le_trans HB6.out.size hb7.size) (.cells (cfs cfZ).toArray 37))
                have KW8 := Lib.hid (KW.out (w7.alloc (.cells (cfs cfZ).toArray 37)) HB8.out)
                rw [hcv2]
                clear hcv2
                go_wp2_with (go_at_call 8; refine KW8.out.mono ?_; rintro e w9 ⟨rfl, hb9⟩)
                go_ret
                exact ⟨rfl, HB8.out.trans (hb9.mono HB8.out.size)⟩
            · have hF := docF_net (n := m) HCB.out hi0.1 (fun k hk => HTB.out k (by omega))
              have hN := docN_net (n := m) HCB.out hi0.2 (by decide) (fun k hk => HTB.out k (by omega))
              have hC := chk_net (n := m) HCB.out hi0 (by omega) (by decide) (fun k hk => HTB.out k (by omega))
              rw [hlastA _ _ (HL.out.trans (text_drop c X T m Q)), parse_text hF hN, hC, if_pos rfl] at K17
              have K17 := Lib.hid K17
              rw [hcnt]
              clear hcnt hex hexs hlastA hF hN hC
              go_wp2_with (go_at_call 17; refine K17.out.mono ?_; rintro e w7 ⟨c', X', T', a', n', cc', Q', rfl, hcf, htr, hle, hDD, h15, hkb, hb7⟩; refine Hid.out ?_)
              refine Lib.hid ?_
              obtain rfl : n' = m := by
                have := congrArg (fun D => D.pkts.length) hDD
                simpa [docOf] using this
              clear hcf htr hDD h15 hkb
              have hcv2 : cfv c' = .agg (cfs c').toArray := rfl
              have hst2 := run_storeCells_new (P := Tryz.prog) w7 37 #[.int .i64 0, .int .i64 0, .int .i64 0, .int .i64 0, .int .i64 0, .int .i64 0, .int .i64 0, .int .i64 0, .int .i64 0, .int .i64 0, .int .i64 0, .int .i64 0, .int .i64 0, .int .i64 0, .int .i64 0, .int .i64 0, .int .i64 0, .int .i64 0, .slice none 0 0, .slice none 0 0] (cfs c').toArray (by kernel_rfl) rfl (one_c c')
              have HB8 := Lib.hid ((HB6.out.trans (hb7.mono HB6.out.size)).alloc (Nat.le_trans HB6.out.size hb7.size) (.cells (cfs c').toArray 37))
              have KW8 := Lib.hid (KW.out (w7.alloc (.cells (cfs c').toArray 37)) HB8.out)
              rw [hcv2]
              clear hcv2
              go_wp2_with (go_at_call 8; refine KW8.out.mono ?_; rintro e w9 ⟨rfl, hb9⟩)
              go_ret
              exact ⟨rfl, HB8.out.trans (hb9.mono HB8.out.size)⟩
  · go_enter Tryz.func6, Tryz.ntmps6
    go_wp2_with (first | (go_at_call 9; refine (light_any a n cc _).mono ?_; rintro e w1 ⟨rfl, rfl⟩; refine Hid.out ?_))
    refine Lib.hid ?_
    go_wp2_with (go_at_call 8; refine (KW.out w1 (Below.refl _ _)).mono ?_; rintro e w3 ⟨rfl, hb3⟩)
    go_ret
    exact ⟨rfl, hb3⟩
end Go.Proofs.YtgflfdnajchjaaaGreatDoor
