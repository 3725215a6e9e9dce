import Derived.Test.YtgflfdnajchjaaaGreatDoorPZ
set_option linter.unusedVariables false
set_option linter.unusedSimpArgs false
namespace Go.Proofs.YtgflfdnajchjaaaGreatDoor
open Go.Lib (hid)
open Go.RowKit
section
open Go.RowKit Go.Sort
open Tm
attribute [local go_sem] gcell bs_tl
set_option maxRecDepth 100000 in
set_option maxHeartbeats 16000000 in
theorem read_fade (HT0 : Text24) (L : List UInt8) (hs : (bs L).size ≤ 900000) (w : World) (B z : Nat) (c : Cf) (X : Nat → Ch.Fd) (T : Nat → Te) (lv : Value) (n : Nat) (Q : Nat → Tr) (D : DocR w B z 4 c X T lv n Q) (hBw : B ≤ w.heap.size) (hW : (spl 32 L).headD [] = wFade)
 (D2 : DocS) (h2 : { docOf c X T n Q with fades := (docOf c X T n Q).fades ++ [refNums L 5] } = D2) (m : Nat) (HM : DocM D2 m) (hm : m ≤ 900000) (o : Option (Nat × DocS)) (ho : o = if refOk wFade 4 D2 L = true then some (4, D2) else none) :
 Calls Tryz.prog 39 #[.pointer (some ⟨z, 0, none⟩), .string (bs L)] w (RdPost w B z o) := by
 have HO := hid ho;clear ho;have HT := hid HT0;have HH2 := hid h2;have HMM2 := hid HM;clear HT0 h2 HM;have KC := hid (cut38 (bs L) hs 32 w);rw [bs_toList] at KC;have HW := hid (head_of (spl_ne 32 L) hW);have HLL := hid hs;generalize hMM : spl 32 L = M at *;have HMM := hid hMM;clear hW hMM;have HD := hid D;have HBw := hid hBw;have hc := cell_box D.hz (k := 0) (v := .int .i64 4) rfl;clear D hBw;go_enter Tryz.func39, Tryz.ntmps39;go_wp2_with (go_at_call 38; refine KC.out.mono ?_; rintro e w1 ⟨v, rfl, ho1, hb1⟩; obtain ⟨a1, c1, b1, rfl, hc1, hp1, hs1⟩ := ho1.slice; obtain ⟨e9, -, -⟩ := hp1 HW.out.2; subst e9; have hc2 := hs1 0 HW.out.2; rw [Nat.zero_add, HW.out.1] at hc2; have hc3 := up hb1 hc; have hl1 := HW.out.2; have HB1 := hid hb1; clear hb1 ho1 hs1 hp1 hc; refine Hid.out ?_);refine hid ?_
 have HD1 := hid (HD.out.mono HB1.out);clear HD KC;unfold wFade at hc2;have KN := hid (nums60 (bs L) hs 5 (by omega));rw [bs_toList] at KN;have HR3 := hid (refNums_len L 5);generalize refNums L 5 = ns at *;go_wp2_with (go_at_call 60; refine (KN.out _).mono ?_; rintro e w2 ⟨b2, rfl, hge2, hn2, hb2⟩; have HB2 := hid (bthen' HB1.out hb2); have HN2 := hid hn2; have HG2 := hid hge2; have HD2 := hid (HD1.out.mono hb2); clear hb2 hn2 hge2; refine Hid.out ?_);refine hid ?_
 clear hc2 hc3 KN HD1
 obtain ⟨x0, x1, x2, x3, x4, rfl⟩ : ∃ x0 x1 x2 x3 x4, ns = [x0, x1, x2, x3, x4] := by
  have := HR3.out
  match ns, this with
  | [x0, x1, x2, x3, x4], _ => exact ⟨_, _, _, _, _, rfl⟩
 have hx0 := HN2.out 0 (by simp);have hx1 := HN2.out 1 (by simp);have hx2 := HN2.out 2 (by simp);have hx3 := HN2.out 3 (by simp);have hx4 := HN2.out 4 (by simp);clear HN2;go_upto_region 22 with fail
 refine wp_region_peelF 1 23 (fun i v u => match i with
  | 1 => v = .pointer (some ⟨z, 0, none⟩)
  | 2 => v = .pointer (some ⟨z, 0, none⟩)
  | 3 => v = .pointer (some ⟨z, 1, none⟩)
  | 4 => v = .pointer (some ⟨z, 19, none⟩)
  | 5 => v = .slice c.fa c.fn c.fc
  | 6 => v = .slice (some ⟨b2, 0, none⟩) 5 5
  | 7 => v = .pointer (some ⟨b2, 0, none⟩)
  | 8 => v = .int .i64 x0
  | 9 => v = .slice (some ⟨b2, 0, none⟩) 5 5
  | 10 => v = .pointer (some ⟨b2, 1, none⟩)
  | 11 => v = .int .i64 x1
  | 12 => v = .slice (some ⟨b2, 0, none⟩) 5 5
  | 13 => v = .pointer (some ⟨b2, 2, none⟩)
  | 14 => v = .int .i64 x2
  | 15 => v = .slice (some ⟨b2, 0, none⟩) 5 5
  | 16 => v = .pointer (some ⟨b2, 3, none⟩)
  | 17 => v = .int .i64 x3
  | 18 => v = .slice (some ⟨b2, 0, none⟩) 5 5
  | 19 => v = .pointer (some ⟨b2, 4, none⟩)
  | 20 => v = .int .i64 x4
  | 21 => v = .agg #[.int .i64 x0, .int .i64 x1, .int .i64 x2, .int .i64 x3, .int .i64 x4]
  | 22 => ∃ bb, v = .slice (some ⟨bb, 0, none⟩) 1 1 ∧ u.heap[bb]? = some (.cells #[.int .i64 x0, .int .i64 x1, .int .i64 x2, .int .i64 x3, .int .i64 x4] 86 (0, 0))
  | _ => True) (by kernel_rfl) (by kernel_rfl) ⟨.pointer (some ⟨z, 0, none⟩), Or.inl ⟨rfl, fun _ => rfl⟩, rfl⟩ (fun _ _ d _ _ h => by cases d <;> exact h) ?_ ?_ ?_
 · intro i v w1 w2 hb h
   match i with
   | 1 => exact h
   | 2 => exact h
   | 3 => exact h
   | 4 => exact h
   | 5 => exact h
   | 6 => exact h
   | 7 => exact h
   | 8 => exact h
   | 9 => exact h
   | 10 => exact h
   | 11 => exact h
   | 12 => exact h
   | 13 => exact h
   | 14 => exact h
   | 15 => exact h
   | 16 => exact h
   | 17 => exact h
   | 18 => exact h
   | 19 => exact h
   | 20 => exact h
   | 21 => exact h
   | 22 =>
     obtain ⟨bb, e1, e2⟩ := h;exact ⟨bb, e1, (hb.block bb (heap_lt e2)).trans e2⟩
   | 0 => exact h
   | k + 23 => exact h
 · intro i o hp hi ho vf u1 hb hd;have hi' : i = 1 ∨ i = 2 ∨ i = 3 ∨ i = 4 ∨ i = 5 ∨ i = 6 ∨ i = 7 ∨ i = 8 ∨ i = 9 ∨ i = 10 ∨ i = 11 ∨ i = 12 ∨ i = 13 ∨ i = 14 ∨ i = 15 ∨ i = 16 ∨ i = 17 ∨ i = 18 ∨ i = 19 ∨ i = 20 ∨ i = 21 ∨ i = 22 := by omega
   rcases hi' with rfl | rfl | rfl | rfl | rfl | rfl | rfl | rfl | rfl | rfl | rfl | rfl | rfl | rfl | rfl | rfl | rfl | rfl | rfl | rfl | rfl | rfl
   all_goals obtain rfl := oI ho
   all_goals simp only [fillA, fA, fB, fC, fD, fH, Nat.reduceAdd]
   · clear hd;go_wp2;exact ⟨rfl, bR, rfl⟩
   · have f1 := hd 1 (by omega) (by omega) (by kernel_rfl);clear hd;go_wp2;exact ⟨rfl, bR, rfl⟩
   · have f2 := hd 2 (by omega) (by omega) (by kernel_rfl);clear hd;go_wp2;exact ⟨rfl, bR, rfl⟩
   · have f3 := hd 3 (by omega) (by omega) (by kernel_rfl);clear hd;go_wp2;exact ⟨rfl, bR, rfl⟩
   · have f4 := hd 4 (by omega) (by omega) (by kernel_rfl);clear hd;have hcc := cell_box (HD2.out.mono hb).hz (k := 19) (v := .slice c.fa c.fn c.fc) rfl;go_wp2;exact ⟨rfl, bR, rfl⟩
   · clear hd;go_wp2;exact ⟨rfl, bR, rfl⟩
   · have f6 := hd 6 (by omega) (by omega) (by kernel_rfl);clear hd;go_wp2;exact ⟨rfl, bR, rfl⟩
   · have f7 := hd 7 (by omega) (by omega) (by kernel_rfl);clear hd;have hcc := up hb hx0;go_wp2;exact ⟨rfl, bR, rfl⟩
   · clear hd;go_wp2;exact ⟨rfl, bR, rfl⟩
   · have f9 := hd 9 (by omega) (by omega) (by kernel_rfl);clear hd;go_wp2;exact ⟨rfl, bR, rfl⟩
   · have f10 := hd 10 (by omega) (by omega) (by kernel_rfl);clear hd;have hcc := up hb hx1;go_wp2;exact ⟨rfl, bR, rfl⟩
   · clear hd;go_wp2;exact ⟨rfl, bR, rfl⟩
   · have f12 := hd 12 (by omega) (by omega) (by kernel_rfl);clear hd;go_wp2;exact ⟨rfl, bR, rfl⟩
   · have f13 := hd 13 (by omega) (by omega) (by kernel_rfl);clear hd;have hcc := up hb hx2;go_wp2;exact ⟨rfl, bR, rfl⟩
   · clear hd;go_wp2;exact ⟨rfl, bR, rfl⟩
   · have f15 := hd 15 (by omega) (by omega) (by kernel_rfl);clear hd;go_wp2;exact ⟨rfl, bR, rfl⟩
   · have f16 := hd 16 (by omega) (by omega) (by kernel_rfl);clear hd;have hcc := up hb hx3;go_wp2;exact ⟨rfl, bR, rfl⟩
   · clear hd;go_wp2;exact ⟨rfl, bR, rfl⟩
   · have f18 := hd 18 (by omega) (by omega) (by kernel_rfl);clear hd;go_wp2;exact ⟨rfl, bR, rfl⟩
   · have f19 := hd 19 (by omega) (by omega) (by kernel_rfl);clear hd;have hcc := up hb hx4;go_wp2;exact ⟨rfl, bR, rfl⟩
   · have f8 := hd 8 (by omega) (by omega) (by kernel_rfl);have f11 := hd 11 (by omega) (by omega) (by kernel_rfl);have f14 := hd 14 (by omega) (by omega) (by kernel_rfl);have f17 := hd 17 (by omega) (by omega) (by kernel_rfl);have f20 := hd 20 (by omega) (by omega) (by kernel_rfl);clear hd;go_wp2;exact ⟨rfl, bR, rfl⟩
   · have f21 := hd 21 (by omega) (by omega) (by kernel_rfl);clear hd;go_wp2;exact ⟨rfl, (bR).alloc (Nat.le_refl _) _, _, rfl, (MapKept.heap_alloc u1 _).1⟩
 · intro vf u1 hb hd;have f5 : vf 5 = .slice c.fa c.fn c.fc := hd 5 (by omega) (by omega);obtain ⟨bb, f22, hcell⟩ := hd 22 (by omega) (by omega);clear hd;simp only [fillA, fA, fB, fC, fD, fH, Nat.reduceAdd, Act.put, fE, fF, fG];generalize vf 22 = v22 at *;generalize vf 5 = v5 at *;subst f22 f5;have HD5 := hid (HD2.out.mono hb);have HB5 := hid (bthen' HB2.out hb)
   have HX := hid (show ∀ j, j < 5 → (#[.int .i64 x0, .int .i64 x1, .int .i64 x2, .int .i64 x3, .int .i64 x4] : Array Value)[j]? = some (fdv (addX X c.fn [x0, x1, x2, x3, x4]) (c.fn * 5 + j)) from fun j hj => by
    rw [fdv_at _ _ _ hj];unfold addX;rw [if_pos rfl];have : j = 0 ∨ j = 1 ∨ j = 2 ∨ j = 3 ∨ j = 4 := by omega
    rcases this with rfl | rfl | rfl | rfl | rfl <;> rfl)
   have HX2 := hid (show ∀ j, j < c.fn * 5 → fdv (addX X c.fn [x0, x1, x2, x3, x4]) j = fdv X j from fun j hj => by
    unfold fdv addX;rw [if_neg (by omega)])
   have HBz := hid (Nat.le_trans HBw.out HB5.out.size)
   have HF := hid (show c.fn + 1 ≤ 1000000 from by
    have h1 := (text_bounds D2).1;have h2 := HMM2.out.l;have h3 : D2.fades.length = c.fn + 1 := by rw [← HH2.out]; simp [docOf]
    omega)
   clear hb hx0 hx1 hx2 hx3 hx4 HD2;refine wpList_append_at u1 B rfl (.tmp 195) (.tmp 212) 34 rfl 86 (.agg #[.int .i64 0, .int .i64 0, .int .i64 0, .int .i64 0, .int .i64 0]) 5 40 Tryz.underlying34 pz86 rfl (by decide) (by decide) _ c.fn (fdv X) rfl bb #[.int .i64 x0, .int .i64 x1, .int .i64 x2, .int .i64 x3, .int .i64 x4] (0, 0) rfl hcell rfl (by intro y hy; simp at hy; rcases hy with rfl | rfl | rfl | rfl | rfl <;> rfl) (fdv (addX X c.fn [x0, x1, x2, x3, x4])) HX2.out HX.out HD5.out.f HBz.out HF.out ?_
   intro v' w5 hown hgrow _;obtain ⟨a', c', rfl, -, -, -⟩ := own_slice hown;have HN := hid (HD5.out.addF hown hgrow);have hz5 := (hgrow.block z (heap_lt HD5.out.hz) (fun e => own_ne HD5.out.f HD5.out.hz (by decide) e.symm rfl)).trans HD5.out.hz;have hc18 := cell_box hz5 (k := 19) (v := .slice c.fa c.fn c.fc) rfl;have hf18 := frozen_of_row w5 z 19 _ _ hz5;have HB6 := hid ((HB5.out.mono HBw.out).grown hgrow HBz.out (fun k hk => (HD5.out.f.lt k hk).1));clear hown hgrow hz5 hcell;go_upto_region 37 with fail
   have hdq := HN.out;have hbq := HB6.out.setCell (p := ⟨z, 19, none⟩) HD5.out.bz (.slice a' (c.fn + 1) c');have HDD := hid ((docOf_addF c X T n Q a' c' (ns := [x0, x1, x2, x3, x4]) rfl).trans HH2.out);clear hc18 hf18 HN HB6 HD5 HB5 HX HX2 HBz HF;generalize w5.setCell ⟨z, 19, none⟩ (.slice a' (c.fn + 1) c') = wq at *;generalize addX X c.fn [x0, x1, x2, x3, x4] = X2 at *;generalize ({ c with fa := a', fn := c.fn + 1, fc := c' } : Cf) = c2 at *;have HDq := hid hdq;have HBq := hid hbq;clear hdq hbq;have HNN := hid (numN_of (c := c2) (X := X2) (T := T) (n := n) (Q := Q) (by rw [HDD.out]; exact HMM2.out.n) (by rw [HDD.out]; exact HMM2.out.z) HDq.out.eq);have HLn := hid (show (textS (docOf c2 X2 T n Q)).length ≤ 1000000 by rw [HDD.out]; have := HMM2.out.l; omega);clear HH2;have HX4 := hid (textS_len D2);have HSq := hid (show B ≤ wq.heap.size from Nat.le_trans HBw.out HBq.out.size);obtain ⟨a9, cc9, hlv9, hncc9, hnm9, htr9⟩ := HDq.out.trR;have HK24 := hid (fun (u : World) (hb : Below wq.heap.size wq u) => HT.out c2 X2 T a9 n cc9 Q u (HDq.out.cfIn.mono hb) (htr9.mono hb) hnm9 HNN.out HLn.out);rw [hlv9] at HDq;clear htr9 hlv9;rw [HDD.out] at HK24;unfold cfv at HK24
   refine wp_region_peelF 0 8 (fun i v u => match i with
    | 0 => v = .pointer (some ⟨z, 0, none⟩)
    | 1 => v = .pointer (some ⟨z, 0, none⟩)
    | 2 => v = .pointer (some ⟨z, 1, none⟩)
    | 3 => v = .agg (cfs c2).toArray
    | 4 => v = .pointer (some ⟨z, 0, none⟩)
    | 5 => v = .pointer (some ⟨z, 0, none⟩)
    | 6 => v = .pointer (some ⟨z, 21, none⟩)
    | 7 => v = .slice a9 n cc9
    | _ => True) (by kernel_rfl) (by kernel_rfl) rfl (fun _ _ d _ _ h => by cases d <;> exact h) ?_ ?_ ?_
   · intro i v w1 w2 hb h
     match i with
     | 0 => exact h
     | 1 => exact h
     | 2 => exact h
     | 3 => exact h
     | 4 => exact h
     | 5 => exact h
     | 6 => exact h
     | 7 => exact h
     | k + 8 => exact h
   · intro i o hp hi ho vf u1 hb hd;have hi' : i = 0 ∨ i = 1 ∨ i = 2 ∨ i = 3 ∨ i = 4 ∨ i = 5 ∨ i = 6 ∨ i = 7 := by omega
     rcases hi' with rfl | rfl | rfl | rfl | rfl | rfl | rfl | rfl
     all_goals obtain rfl := oI ho
     all_goals simp only [fillA, fA, fB, fC, fD, fH, Nat.reduceAdd]
     · clear hd;go_wp2;exact ⟨rfl, bR, rfl⟩
     · have f0 := hd 0 (by omega) (by omega) (by kernel_rfl);clear hd;go_wp2;exact ⟨rfl, bR, rfl⟩
     · have f1 := hd 1 (by omega) (by omega) (by kernel_rfl);clear hd;go_wp2;exact ⟨rfl, bR, rfl⟩
     · have f2 : vf 2 = .pointer (some ⟨z, 1, none⟩) := hd 2 (by omega) (by omega) (by kernel_rfl);clear hd;have hrg := range_docR ((hb.block z (heap_lt HDq.out.hz)).trans HDq.out.hz);simp only [Act.put, fE, fF, fG];generalize vf 2 = v2 at *;subst f2;refine wpList_load_mid rfl 37 (.tmp 428) rfl z 1 rfl (cfs c2) _ hrg Tryz.underlying37 rfl (by kernel_rfl) ?_
       go_wp2;exact ⟨rfl, bR, rfl⟩
     · clear hd;go_wp2;exact ⟨rfl, bR, rfl⟩
     · have f4 := hd 4 (by omega) (by omega) (by kernel_rfl);clear hd;go_wp2;exact ⟨rfl, bR, rfl⟩
     · have f5 := hd 5 (by omega) (by omega) (by kernel_rfl);clear hd;go_wp2;exact ⟨rfl, bR, rfl⟩
     · have f6 := hd 6 (by omega) (by omega) (by kernel_rfl);clear hd;have hcc := cell_box ((hb.block z (heap_lt HDq.out.hz)).trans HDq.out.hz) (k := 21) (v := .slice a9 n cc9) rfl;go_wp2;exact ⟨rfl, bR, rfl⟩
   · intro vf u1 hb hd;have f3 : vf 3 = .agg (cfs c2).toArray := hd 3 (by omega) (by omega);have f7 : vf 7 = .slice a9 n cc9 := hd 7 (by omega) (by omega);clear hd;simp only [fillA, fA, fB, fC, fD, fH, Nat.reduceAdd, Act.put, fE, fF, fG];generalize vf 3 = v3 at *;generalize vf 7 = v7 at *;subst f3 f7;have HBu := hid hb;clear hb;have KK := hid (HK24.out u1 HBu.out);clear HK24;go_wp2_with (go_at_call 24; refine KK.out.mono ?_; rintro e w6 ⟨v, rfl, ho6, hb6⟩; obtain ⟨a6, c6, b6, rfl, hc6, hp6, hs6⟩ := ho6.slice; have HP6 := hid hp6; have HS6 := hid hs6; have HB6 := hid (bthen' HBu.out hb6); clear hb6 ho6 hs6 hp6; refine Hid.out ?_);refine hid ?_
     have hz6 := (HB6.out.block z (heap_lt HDq.out.hz)).trans HDq.out.hz;have hc0 := cell_box hz6 (k := 0) (v := .int .i64 4) rfl;have HR6 := hid (show Below B w w6 from bthen HBq.out HB6.out HSq.out);have HD6 := hid (HDq.out.mono HB6.out);clear hz6 KK;have h4 := HX4.out;have HRF := hid (refOk_tail (D := D2) (s := L) (word := wFade) (by decide) (p := 4) (by decide));have hln := HLn.out;rw [HDD.out] at hln;obtain ⟨ly, hly, hly3⟩ : ∃ ly, (textS D2).length = ly + 1 ∧ 3 ≤ ly := ⟨(textS D2).length - 1, by omega, by omega⟩
     rw [hly] at hln h4 HRF HP6 hc6 ⊢;rw [show max (ly + 1 - 1) 3 = ly by omega] at HRF;obtain ⟨e9, -, -⟩ := HP6.out (by omega);subst e9;have hcx := HS6.out ly (by rw [hly]; omega);rw [Nat.zero_add] at hcx;clear HLn HX4 hly HP6 HS6;have hmx : max (ly : Int) 3 = ly := by omega
     generalize (textS D2).getD ly [] = x at *;by_cases hq : x = L
     · have hq2 : (x == L) = true := by simp [hq]
       have e2 := HRF.out.trans (decide_eq_true hq);clear hq HRF;go_wp2;go_ret
       have eo := HO.out;rw [e2, if_pos rfl] at eo;subst eo;exact ⟨rfl, ⟨_, _, _, _, _, _, HD6.out, HDD.out⟩, HR6.out⟩
     · have hq2 : (x == L) = false := by simp [hq]
       have e2 := HRF.out.trans (decide_eq_false hq);clear hq HRF;go_wp2;go_ret
       have eo := HO.out;rw [e2, if_neg (by decide)] at eo;subst eo;exact ⟨rfl, HR6.out⟩
end
end Go.Proofs.YtgflfdnajchjaaaGreatDoor
