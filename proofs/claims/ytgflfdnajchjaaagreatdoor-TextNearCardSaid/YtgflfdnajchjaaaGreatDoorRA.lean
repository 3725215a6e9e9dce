import Derived.Test.YtgflfdnajchjaaaGreatDoorPZ
set_option linter.unusedVariables false
set_option linter.unusedSimpArgs false
namespace Go.Proofs.YtgflfdnajchjaaaGreatDoor
open Go.Lib (hid)
open Go.RowKit
section
open Go.RowKit Go.Sort
open Tm
attribute [local go_sem] gcell bs_tl
set_option maxRecDepth 100000 in
set_option maxHeartbeats 16000000 in
theorem read_patience (HT0 : Text24) (L : List UInt8) (hs : (bs L).size ≤ 900000) (w : World) (B z : Nat) (c : Cf) (X : Nat → Ch.Fd) (T : Nat → Te) (lv : Value) (n : Nat) (Q : Nat → Tr) (D : DocR w B z 1 c X T lv n Q) (hBw : B ≤ w.heap.size) (hW : (spl 32 L).headD [] = wPatience)
 (D2 : DocS) (h2 : { docOf c X T n Q with h1 := refNums L 3 } = D2) (m : Nat) (HM : DocM D2 m) (hm : m ≤ 900000) (o : Option (Nat × DocS)) (ho : o = if refOk wPatience 2 D2 L = true then some (2, D2) else none) :
 Calls Tryz.prog 39 #[.pointer (some ⟨z, 0, none⟩), .string (bs L)] w (RdPost w B z o) := by
 have HO := hid ho;clear ho;have HT := hid HT0;have HH2 := hid h2;have HMM2 := hid HM;clear HT0 h2 HM;have KC := hid (cut38 (bs L) hs 32 w);rw [bs_toList] at KC;have HW := hid (head_of (spl_ne 32 L) hW);have HLL := hid hs;generalize hMM : spl 32 L = M at *;have HMM := hid hMM;clear hW hMM;have HD := hid D;have HBw := hid hBw;have hc := cell_box D.hz (k := 0) (v := .int .i64 1) rfl;clear D hBw;go_enter Tryz.func39, Tryz.ntmps39;go_wp2_with (go_at_call 38; refine KC.out.mono ?_; rintro e w1 ⟨v, rfl, ho1, hb1⟩; obtain ⟨a1, c1, b1, rfl, hc1, hp1, hs1⟩ := ho1.slice; obtain ⟨e9, -, -⟩ := hp1 HW.out.2; subst e9; have hc2 := hs1 0 HW.out.2; rw [Nat.zero_add, HW.out.1] at hc2; have hc3 := up hb1 hc; have hl1 := HW.out.2; have HB1 := hid hb1; clear hb1 ho1 hs1 hp1 hc; refine Hid.out ?_);refine hid ?_
 have HD1 := hid (HD.out.mono HB1.out);clear HD KC;unfold wPatience at hc2;have KN := hid (nums60 (bs L) hs 3 (by omega));rw [bs_toList] at KN;have HR3 := hid (refNums_len L 3);generalize refNums L 3 = ns at *;go_wp2_with (go_at_call 60; refine (KN.out _).mono ?_; rintro e w2 ⟨b2, rfl, hge2, hn2, hb2⟩; have HB2 := hid (bthen' HB1.out hb2); have HN2 := hid hn2; have HG2 := hid hge2; have HD2 := hid (HD1.out.mono hb2); clear hb2 hn2 hge2; refine Hid.out ?_);refine hid ?_
 clear hc2 hc3 KN HD1
 obtain ⟨x0, x1, x2, rfl⟩ : ∃ x0 x1 x2, ns = [x0, x1, x2] := by
  have := HR3.out
  match ns, this with
  | [x0, x1, x2], _ => exact ⟨_, _, _, rfl⟩
 have hx0 := HN2.out 0 (by simp);have hx1 := HN2.out 1 (by simp);have hx2 := HN2.out 2 (by simp);clear HN2;go_upto_region 10 with fail
 refine wp_region_peelF 0 11 (fun i v u => match i with
  | 0 => v = .pointer (some ⟨z, 0, none⟩)
  | 1 => v = .slice (some ⟨b2, 0, none⟩) 3 3
  | 2 => v = .pointer (some ⟨b2, 0, none⟩)
  | 3 => v = .int .i64 x0
  | 4 => v = .slice (some ⟨b2, 0, none⟩) 3 3
  | 5 => v = .pointer (some ⟨b2, 1, none⟩)
  | 6 => v = .int .i64 x1
  | 7 => v = .slice (some ⟨b2, 0, none⟩) 3 3
  | 8 => v = .pointer (some ⟨b2, 2, none⟩)
  | 9 => v = .int .i64 x2
  | 10 => v = .agg #[.int .i64 x0, .int .i64 x1, .int .i64 x2]
  | _ => True) (by kernel_rfl) (by kernel_rfl) rfl (fun _ _ d _ _ h => by cases d <;> exact h) ?_ ?_ ?_
 · intro i v w1 w2 hb h
   match i with
   | 0 => exact h
   | 1 => exact h
   | 2 => exact h
   | 3 => exact h
   | 4 => exact h
   | 5 => exact h
   | 6 => exact h
   | 7 => exact h
   | 8 => exact h
   | 9 => exact h
   | 10 => exact h
   | k + 11 => exact h
 · intro i o hp hi ho vf u1 hb hd;have hi' : i = 0 ∨ i = 1 ∨ i = 2 ∨ i = 3 ∨ i = 4 ∨ i = 5 ∨ i = 6 ∨ i = 7 ∨ i = 8 ∨ i = 9 ∨ i = 10 := by omega
   rcases hi' with rfl | rfl | rfl | rfl | rfl | rfl | rfl | rfl | rfl | rfl | rfl
   all_goals obtain rfl := oI ho
   all_goals simp only [fillA, fA, fB, fC, fD, fH, Nat.reduceAdd]
   · clear hd;go_wp2;exact ⟨rfl, bR, rfl⟩
   · clear hd;go_wp2;exact ⟨rfl, bR, rfl⟩
   · have f1 := hd 1 (by omega) (by omega) (by kernel_rfl);clear hd;go_wp2;exact ⟨rfl, bR, rfl⟩
   · have f2 := hd 2 (by omega) (by omega) (by kernel_rfl);clear hd;have hcc := up hb hx0;go_wp2;exact ⟨rfl, bR, rfl⟩
   · clear hd;go_wp2;exact ⟨rfl, bR, rfl⟩
   · have f4 := hd 4 (by omega) (by omega) (by kernel_rfl);clear hd;go_wp2;exact ⟨rfl, bR, rfl⟩
   · have f5 := hd 5 (by omega) (by omega) (by kernel_rfl);clear hd;have hcc := up hb hx1;go_wp2;exact ⟨rfl, bR, rfl⟩
   · clear hd;go_wp2;exact ⟨rfl, bR, rfl⟩
   · have f7 := hd 7 (by omega) (by omega) (by kernel_rfl);clear hd;go_wp2;exact ⟨rfl, bR, rfl⟩
   · have f8 := hd 8 (by omega) (by omega) (by kernel_rfl);clear hd;have hcc := up hb hx2;go_wp2;exact ⟨rfl, bR, rfl⟩
   · have f3 := hd 3 (by omega) (by omega) (by kernel_rfl);have f6 := hd 6 (by omega) (by omega) (by kernel_rfl);have f9 := hd 9 (by omega) (by omega) (by kernel_rfl);clear hd;go_wp2;exact ⟨rfl, bR, rfl⟩
 · intro vf u1 hb hd;have fn : vf 10 = .agg #[.int .i64 x0, .int .i64 x1, .int .i64 x2] := hd 10 (by omega) (by omega);have f0 : vf 0 = .pointer (some ⟨z, 0, none⟩) := hd 0 (by omega) (by omega);clear hd;simp only [fillA, fA, fB, fC, fD, fH, Nat.reduceAdd, Act.put, fE, fF, fG];generalize vf 10 = vn at *;generalize vf 0 = v0 at *;subst fn f0;have HDu := hid (HD2.out.mono hb);have HBu := hid (bthen' HB2.out hb);clear hb hx0 hx1 hx2 HD2;have hk0 := cell_box HDu.out.hz (k := 10) (v := .int .i64 (c.h 9)) rfl;have hk1 := cell_box HDu.out.hz (k := 11) (v := .int .i64 (c.h 10)) rfl;have hk2 := cell_box HDu.out.hz (k := 12) (v := .int .i64 (c.h 11)) rfl;have hk9 := cell_box HDu.out.hz (k := 0) (v := .int .i64 1) rfl;have hf0 := frozen_of_row u1 z 0 _ _ HDu.out.hz;have hf10 := frozen_of_row u1 z 10 _ _ HDu.out.hz;have hf11 := frozen_of_row u1 z 11 _ _ HDu.out.hz;have hf12 := frozen_of_row u1 z 12 _ _ HDu.out.hz;go_upto_region 37 with fail
   have hdq : DocR ((((u1.setCell ⟨z, 10, none⟩ (.int .i64 x0)).setCell ⟨z, 11, none⟩ (.int .i64 x1)).setCell ⟨z, 12, none⟩ (.int .i64 x2)).setCell ⟨z, 0, none⟩ (.int .i64 2)) B z 2 (setHs c [9, 10, 11] [x0, x1, x2]) X T lv n Q := (((HDu.out.setH 9 (by decide) (by decide) x0).setH 10 (by decide) (by decide) x1).setH 11 (by decide) (by decide) x2).part 2;have hbq : Below B w ((((u1.setCell ⟨z, 10, none⟩ (.int .i64 x0)).setCell ⟨z, 11, none⟩ (.int .i64 x1)).setCell ⟨z, 12, none⟩ (.int .i64 x2)).setCell ⟨z, 0, none⟩ (.int .i64 2)) := Below.setCell (Below.setCell (Below.setCell (Below.setCell (HBu.out.mono HBw.out) (p := ⟨z, 10, none⟩) HDu.out.bz _) (p := ⟨z, 11, none⟩) HDu.out.bz _) (p := ⟨z, 12, none⟩) HDu.out.bz _) (p := ⟨z, 0, none⟩) HDu.out.bz _;clear hk9 hk0 hk1 hk2 hf0 hf10 hf11 hf12 HDu HBu;generalize (((u1.setCell ⟨z, 10, none⟩ (.int .i64 x0)).setCell ⟨z, 11, none⟩ (.int .i64 x1)).setCell ⟨z, 12, none⟩ (.int .i64 x2)).setCell ⟨z, 0, none⟩ (.int .i64 2) = wq at *;have HDq := hid hdq;have HBq := hid hbq;clear hdq hbq;have HDD := hid (show docOf (setHs c [9, 10, 11] [x0, x1, x2]) X T n Q = D2 from HH2.out);have HNN := hid (numN_of (c := (setHs c [9, 10, 11] [x0, x1, x2])) (X := X) (T := T) (n := n) (Q := Q) (by rw [HDD.out]; exact HMM2.out.n) (by rw [HDD.out]; exact HMM2.out.z) HDq.out.eq);have HLn := hid (show (textS (docOf (setHs c [9, 10, 11] [x0, x1, x2]) X T n Q)).length ≤ 1000000 by rw [HDD.out]; have := HMM2.out.l; omega);clear HH2;generalize (setHs c [9, 10, 11] [x0, x1, x2]) = c2 at *;have HX4 := hid (textS_len D2);have HSq := hid (show B ≤ wq.heap.size from Nat.le_trans HBw.out HBq.out.size);obtain ⟨a9, cc9, hlv9, hncc9, hnm9, htr9⟩ := HDq.out.trR;have HK24 := hid (fun (u : World) (hb : Below wq.heap.size wq u) => HT.out c2 X T a9 n cc9 Q u (HDq.out.cfIn.mono hb) (htr9.mono hb) hnm9 HNN.out HLn.out);rw [hlv9] at HDq;clear htr9 hlv9;rw [HDD.out] at HK24;unfold cfv at HK24
   refine wp_region_peelF 0 8 (fun i v u => match i with
    | 0 => v = .pointer (some ⟨z, 0, none⟩)
    | 1 => v = .pointer (some ⟨z, 0, none⟩)
    | 2 => v = .pointer (some ⟨z, 1, none⟩)
    | 3 => v = .agg (cfs c2).toArray
    | 4 => v = .pointer (some ⟨z, 0, none⟩)
    | 5 => v = .pointer (some ⟨z, 0, none⟩)
    | 6 => v = .pointer (some ⟨z, 21, none⟩)
    | 7 => v = .slice a9 n cc9
    | _ => True) (by kernel_rfl) (by kernel_rfl) rfl (fun _ _ d _ _ h => by cases d <;> exact h) ?_ ?_ ?_
   · intro i v w1 w2 hb h
     match i with
     | 0 => exact h
     | 1 => exact h
     | 2 => exact h
     | 3 => exact h
     | 4 => exact h
     | 5 => exact h
     | 6 => exact h
     | 7 => exact h
     | k + 8 => exact h
   · intro i o hp hi ho vf u1 hb hd;have hi' : i = 0 ∨ i = 1 ∨ i = 2 ∨ i = 3 ∨ i = 4 ∨ i = 5 ∨ i = 6 ∨ i = 7 := by omega
     rcases hi' with rfl | rfl | rfl | rfl | rfl | rfl | rfl | rfl
     all_goals obtain rfl := oI ho
     all_goals simp only [fillA, fA, fB, fC, fD, fH, Nat.reduceAdd]
     · clear hd;go_wp2;exact ⟨rfl, bR, rfl⟩
     · have f0 := hd 0 (by omega) (by omega) (by kernel_rfl);clear hd;go_wp2;exact ⟨rfl, bR, rfl⟩
     · have f1 := hd 1 (by omega) (by omega) (by kernel_rfl);clear hd;go_wp2;exact ⟨rfl, bR, rfl⟩
     · have f2 : vf 2 = .pointer (some ⟨z, 1, none⟩) := hd 2 (by omega) (by omega) (by kernel_rfl);clear hd;have hrg := range_docR ((hb.block z (heap_lt HDq.out.hz)).trans HDq.out.hz);simp only [Act.put, fE, fF, fG];generalize vf 2 = v2 at *;subst f2;refine wpList_load_mid rfl 37 (.tmp 428) rfl z 1 rfl (cfs c2) _ hrg Tryz.underlying37 rfl (by kernel_rfl) ?_
       go_wp2;exact ⟨rfl, bR, rfl⟩
     · clear hd;go_wp2;exact ⟨rfl, bR, rfl⟩
     · have f4 := hd 4 (by omega) (by omega) (by kernel_rfl);clear hd;go_wp2;exact ⟨rfl, bR, rfl⟩
     · have f5 := hd 5 (by omega) (by omega) (by kernel_rfl);clear hd;go_wp2;exact ⟨rfl, bR, rfl⟩
     · have f6 := hd 6 (by omega) (by omega) (by kernel_rfl);clear hd;have hcc := cell_box ((hb.block z (heap_lt HDq.out.hz)).trans HDq.out.hz) (k := 21) (v := .slice a9 n cc9) rfl;go_wp2;exact ⟨rfl, bR, rfl⟩
   · intro vf u1 hb hd;have f3 : vf 3 = .agg (cfs c2).toArray := hd 3 (by omega) (by omega);have f7 : vf 7 = .slice a9 n cc9 := hd 7 (by omega) (by omega);clear hd;simp only [fillA, fA, fB, fC, fD, fH, Nat.reduceAdd, Act.put, fE, fF, fG];generalize vf 3 = v3 at *;generalize vf 7 = v7 at *;subst f3 f7;have HBu := hid hb;clear hb;have KK := hid (HK24.out u1 HBu.out);clear HK24;go_wp2_with (go_at_call 24; refine KK.out.mono ?_; rintro e w6 ⟨v, rfl, ho6, hb6⟩; obtain ⟨a6, c6, b6, rfl, hc6, hp6, hs6⟩ := ho6.slice; have HP6 := hid hp6; have HS6 := hid hs6; have HB6 := hid (bthen' HBu.out hb6); clear hb6 ho6 hs6 hp6; refine Hid.out ?_);refine hid ?_
     have hz6 := (HB6.out.block z (heap_lt HDq.out.hz)).trans HDq.out.hz;have hc0 := cell_box hz6 (k := 0) (v := .int .i64 2) rfl;have HR6 := hid (show Below B w w6 from bthen HBq.out HB6.out HSq.out);have HD6 := hid (HDq.out.mono HB6.out);clear hz6 KK;have h4 := HX4.out;obtain ⟨e9, -, -⟩ := HP6.out (by omega);subst e9;have hcx := HS6.out 1 (by omega);rw [Nat.zero_add] at hcx;have HRF := hid (refOk_head (D := D2) (s := L) (word := wPatience) (by decide) (p := 2) (by decide));generalize hx : (textS D2).getD 1 [] = x at *;clear hx;generalize (textS D2).length = lx at *;by_cases hq : x = L
     · have hq2 : (x == L) = true := by simp [hq]
       have e2 := HRF.out.trans (decide_eq_true hq);clear hq HRF;go_wp2;go_ret
       have eo := HO.out;rw [e2, if_pos rfl] at eo;subst eo;exact ⟨rfl, ⟨_, _, _, _, _, _, HD6.out, HDD.out⟩, HR6.out⟩
     · have hq2 : (x == L) = false := by simp [hq]
       have e2 := HRF.out.trans (decide_eq_false hq);clear hq HRF;go_wp2;go_ret
       have eo := HO.out;rw [e2, if_neg (by decide)] at eo;subst eo;exact ⟨rfl, HR6.out⟩
end
section
open Go.RowKit Go.Sort
open Tm
attribute [local go_sem] gcell bs_tl
set_option maxRecDepth 100000 in
set_option maxHeartbeats 16000000 in
theorem read_rule (HT0 : Text24) (L : List UInt8) (hs : (bs L).size ≤ 900000) (w : World) (B z : Nat) (c : Cf) (X : Nat → Ch.Fd) (T : Nat → Te) (lv : Value) (n : Nat) (Q : Nat → Tr) (D : DocR w B z 2 c X T lv n Q) (hBw : B ≤ w.heap.size) (hW : (spl 32 L).headD [] = wRule)
 (D2 : DocS) (h2 : { docOf c X T n Q with h2 := refNums L 3 } = D2) (m : Nat) (HM : DocM D2 m) (hm : m ≤ 900000) (o : Option (Nat × DocS)) (ho : o = if refOk wRule 3 D2 L = true then some (3, D2) else none) :
 Calls Tryz.prog 39 #[.pointer (some ⟨z, 0, none⟩), .string (bs L)] w (RdPost w B z o) := by
 have HO := hid ho;clear ho;have HT := hid HT0;have HH2 := hid h2;have HMM2 := hid HM;clear HT0 h2 HM;have KC := hid (cut38 (bs L) hs 32 w);rw [bs_toList] at KC;have HW := hid (head_of (spl_ne 32 L) hW);have HLL := hid hs;generalize hMM : spl 32 L = M at *;have HMM := hid hMM;clear hW hMM;have HD := hid D;have HBw := hid hBw;have hc := cell_box D.hz (k := 0) (v := .int .i64 2) rfl;clear D hBw;go_enter Tryz.func39, Tryz.ntmps39;go_wp2_with (go_at_call 38; refine KC.out.mono ?_; rintro e w1 ⟨v, rfl, ho1, hb1⟩; obtain ⟨a1, c1, b1, rfl, hc1, hp1, hs1⟩ := ho1.slice; obtain ⟨e9, -, -⟩ := hp1 HW.out.2; subst e9; have hc2 := hs1 0 HW.out.2; rw [Nat.zero_add, HW.out.1] at hc2; have hc3 := up hb1 hc; have hl1 := HW.out.2; have HB1 := hid hb1; clear hb1 ho1 hs1 hp1 hc; refine Hid.out ?_);refine hid ?_
 have HD1 := hid (HD.out.mono HB1.out);clear HD KC;unfold wRule at hc2;have KN := hid (nums60 (bs L) hs 3 (by omega));rw [bs_toList] at KN;have HR3 := hid (refNums_len L 3);generalize refNums L 3 = ns at *;go_wp2_with (go_at_call 60; refine (KN.out _).mono ?_; rintro e w2 ⟨b2, rfl, hge2, hn2, hb2⟩; have HB2 := hid (bthen' HB1.out hb2); have HN2 := hid hn2; have HG2 := hid hge2; have HD2 := hid (HD1.out.mono hb2); clear hb2 hn2 hge2; refine Hid.out ?_);refine hid ?_
 clear hc2 hc3 KN HD1
 obtain ⟨x0, x1, x2, rfl⟩ : ∃ x0 x1 x2, ns = [x0, x1, x2] := by
  have := HR3.out
  match ns, this with
  | [x0, x1, x2], _ => exact ⟨_, _, _, rfl⟩
 have hx0 := HN2.out 0 (by simp);have hx1 := HN2.out 1 (by simp);have hx2 := HN2.out 2 (by simp);clear HN2;go_upto_region 14 with fail
 refine wp_region_peelF 0 11 (fun i v u => match i with
  | 0 => v = .pointer (some ⟨z, 0, none⟩)
  | 1 => v = .slice (some ⟨b2, 0, none⟩) 3 3
  | 2 => v = .pointer (some ⟨b2, 0, none⟩)
  | 3 => v = .int .i64 x0
  | 4 => v = .slice (some ⟨b2, 0, none⟩) 3 3
  | 5 => v = .pointer (some ⟨b2, 1, none⟩)
  | 6 => v = .int .i64 x1
  | 7 => v = .slice (some ⟨b2, 0, none⟩) 3 3
  | 8 => v = .pointer (some ⟨b2, 2, none⟩)
  | 9 => v = .int .i64 x2
  | 10 => v = .agg #[.int .i64 x0, .int .i64 x1, .int .i64 x2]
  | _ => True) (by kernel_rfl) (by kernel_rfl) rfl (fun _ _ d _ _ h => by cases d <;> exact h) ?_ ?_ ?_
 · intro i v w1 w2 hb h
   match i with
   | 0 => exact h
   | 1 => exact h
   | 2 => exact h
   | 3 => exact h
   | 4 => exact h
   | 5 => exact h
   | 6 => exact h
   | 7 => exact h
   | 8 => exact h
   | 9 => exact h
   | 10 => exact h
   | k + 11 => exact h
 · intro i o hp hi ho vf u1 hb hd;have hi' : i = 0 ∨ i = 1 ∨ i = 2 ∨ i = 3 ∨ i = 4 ∨ i = 5 ∨ i = 6 ∨ i = 7 ∨ i = 8 ∨ i = 9 ∨ i = 10 := by omega
   rcases hi' with rfl | rfl | rfl | rfl | rfl | rfl | rfl | rfl | rfl | rfl | rfl
   all_goals obtain rfl := oI ho
   all_goals simp only [fillA, fA, fB, fC, fD, fH, Nat.reduceAdd]
   · clear hd;go_wp2;exact ⟨rfl, bR, rfl⟩
   · clear hd;go_wp2;exact ⟨rfl, bR, rfl⟩
   · have f1 := hd 1 (by omega) (by omega) (by kernel_rfl);clear hd;go_wp2;exact ⟨rfl, bR, rfl⟩
   · have f2 := hd 2 (by omega) (by omega) (by kernel_rfl);clear hd;have hcc := up hb hx0;go_wp2;exact ⟨rfl, bR, rfl⟩
   · clear hd;go_wp2;exact ⟨rfl, bR, rfl⟩
   · have f4 := hd 4 (by omega) (by omega) (by kernel_rfl);clear hd;go_wp2;exact ⟨rfl, bR, rfl⟩
   · have f5 := hd 5 (by omega) (by omega) (by kernel_rfl);clear hd;have hcc := up hb hx1;go_wp2;exact ⟨rfl, bR, rfl⟩
   · clear hd;go_wp2;exact ⟨rfl, bR, rfl⟩
   · have f7 := hd 7 (by omega) (by omega) (by kernel_rfl);clear hd;go_wp2;exact ⟨rfl, bR, rfl⟩
   · have f8 := hd 8 (by omega) (by omega) (by kernel_rfl);clear hd;have hcc := up hb hx2;go_wp2;exact ⟨rfl, bR, rfl⟩
   · have f3 := hd 3 (by omega) (by omega) (by kernel_rfl);have f6 := hd 6 (by omega) (by omega) (by kernel_rfl);have f9 := hd 9 (by omega) (by omega) (by kernel_rfl);clear hd;go_wp2;exact ⟨rfl, bR, rfl⟩
 · intro vf u1 hb hd;have fn : vf 10 = .agg #[.int .i64 x0, .int .i64 x1, .int .i64 x2] := hd 10 (by omega) (by omega);have f0 : vf 0 = .pointer (some ⟨z, 0, none⟩) := hd 0 (by omega) (by omega);clear hd;simp only [fillA, fA, fB, fC, fD, fH, Nat.reduceAdd, Act.put, fE, fF, fG];generalize vf 10 = vn at *;generalize vf 0 = v0 at *;subst fn f0;have HDu := hid (HD2.out.mono hb);have HBu := hid (bthen' HB2.out hb);clear hb hx0 hx1 hx2 HD2;have hk0 := cell_box HDu.out.hz (k := 13) (v := .int .i64 (c.h 12)) rfl;have hk1 := cell_box HDu.out.hz (k := 14) (v := .int .i64 (c.h 13)) rfl;have hk2 := cell_box HDu.out.hz (k := 15) (v := .int .i64 (c.h 14)) rfl;have hk9 := cell_box HDu.out.hz (k := 0) (v := .int .i64 2) rfl;have hf0 := frozen_of_row u1 z 0 _ _ HDu.out.hz;have hf13 := frozen_of_row u1 z 13 _ _ HDu.out.hz;have hf14 := frozen_of_row u1 z 14 _ _ HDu.out.hz;have hf15 := frozen_of_row u1 z 15 _ _ HDu.out.hz;go_upto_region 37 with fail
   have hdq : DocR ((((u1.setCell ⟨z, 13, none⟩ (.int .i64 x0)).setCell ⟨z, 14, none⟩ (.int .i64 x1)).setCell ⟨z, 15, none⟩ (.int .i64 x2)).setCell ⟨z, 0, none⟩ (.int .i64 3)) B z 3 (setHs c [12, 13, 14] [x0, x1, x2]) X T lv n Q := (((HDu.out.setH 12 (by decide) (by decide) x0).setH 13 (by decide) (by decide) x1).setH 14 (by decide) (by decide) x2).part 3;have hbq : Below B w ((((u1.setCell ⟨z, 13, none⟩ (.int .i64 x0)).setCell ⟨z, 14, none⟩ (.int .i64 x1)).setCell ⟨z, 15, none⟩ (.int .i64 x2)).setCell ⟨z, 0, none⟩ (.int .i64 3)) := Below.setCell (Below.setCell (Below.setCell (Below.setCell (HBu.out.mono HBw.out) (p := ⟨z, 13, none⟩) HDu.out.bz _) (p := ⟨z, 14, none⟩) HDu.out.bz _) (p := ⟨z, 15, none⟩) HDu.out.bz _) (p := ⟨z, 0, none⟩) HDu.out.bz _;clear hk9 hk0 hk1 hk2 hf0 hf13 hf14 hf15 HDu HBu;generalize (((u1.setCell ⟨z, 13, none⟩ (.int .i64 x0)).setCell ⟨z, 14, none⟩ (.int .i64 x1)).setCell ⟨z, 15, none⟩ (.int .i64 x2)).setCell ⟨z, 0, none⟩ (.int .i64 3) = wq at *;have HDq := hid hdq;have HBq := hid hbq;clear hdq hbq;have HDD := hid (show docOf (setHs c [12, 13, 14] [x0, x1, x2]) X T n Q = D2 from HH2.out);have HNN := hid (numN_of (c := (setHs c [12, 13, 14] [x0, x1, x2])) (X := X) (T := T) (n := n) (Q := Q) (by rw [HDD.out]; exact HMM2.out.n) (by rw [HDD.out]; exact HMM2.out.z) HDq.out.eq);have HLn := hid (show (textS (docOf (setHs c [12, 13, 14] [x0, x1, x2]) X T n Q)).length ≤ 1000000 by rw [HDD.out]; have := HMM2.out.l; omega);clear HH2;generalize (setHs c [12, 13, 14] [x0, x1, x2]) = c2 at *;have HX4 := hid (textS_len D2);have HSq := hid (show B ≤ wq.heap.size from Nat.le_trans HBw.out HBq.out.size);obtain ⟨a9, cc9, hlv9, hncc9, hnm9, htr9⟩ := HDq.out.trR;have HK24 := hid (fun (u : World) (hb : Below wq.heap.size wq u) => HT.out c2 X T a9 n cc9 Q u (HDq.out.cfIn.mono hb) (htr9.mono hb) hnm9 HNN.out HLn.out);rw [hlv9] at HDq;clear htr9 hlv9;rw [HDD.out] at HK24;unfold cfv at HK24
   refine wp_region_peelF 0 8 (fun i v u => match i with
    | 0 => v = .pointer (some ⟨z, 0, none⟩)
    | 1 => v = .pointer (some ⟨z, 0, none⟩)
    | 2 => v = .pointer (some ⟨z, 1, none⟩)
    | 3 => v = .agg (cfs c2).toArray
    | 4 => v = .pointer (some ⟨z, 0, none⟩)
    | 5 => v = .pointer (some ⟨z, 0, none⟩)
    | 6 => v = .pointer (some ⟨z, 21, none⟩)
    | 7 => v = .slice a9 n cc9
    | _ => True) (by kernel_rfl) (by kernel_rfl) rfl (fun _ _ d _ _ h => by cases d <;> exact h) ?_ ?_ ?_
   · intro i v w1 w2 hb h
     match i with
     | 0 => exact h
     | 1 => exact h
     | 2 => exact h
     | 3 => exact h
     | 4 => exact h
     | 5 => exact h
     | 6 => exact h
     | 7 => exact h
     | k + 8 => exact h
   · intro i o hp hi ho vf u1 hb hd;have hi' : i = 0 ∨ i = 1 ∨ i = 2 ∨ i = 3 ∨ i = 4 ∨ i = 5 ∨ i = 6 ∨ i = 7 := by omega
     rcases hi' with rfl | rfl | rfl | rfl | rfl | rfl | rfl | rfl
     all_goals obtain rfl := oI ho
     all_goals simp only [fillA, fA, fB, fC, fD, fH, Nat.reduceAdd]
     · clear hd;go_wp2;exact ⟨rfl, bR, rfl⟩
     · have f0 := hd 0 (by omega) (by omega) (by kernel_rfl);clear hd;go_wp2;exact ⟨rfl, bR, rfl⟩
     · have f1 := hd 1 (by omega) (by omega) (by kernel_rfl);clear hd;go_wp2;exact ⟨rfl, bR, rfl⟩
     · have f2 : vf 2 = .pointer (some ⟨z, 1, none⟩) := hd 2 (by omega) (by omega) (by kernel_rfl);clear hd;have hrg := range_docR ((hb.block z (heap_lt HDq.out.hz)).trans HDq.out.hz);simp only [Act.put, fE, fF, fG];generalize vf 2 = v2 at *;subst f2;refine wpList_load_mid rfl 37 (.tmp 428) rfl z 1 rfl (cfs c2) _ hrg Tryz.underlying37 rfl (by kernel_rfl) ?_
       go_wp2;exact ⟨rfl, bR, rfl⟩
     · clear hd;go_wp2;exact ⟨rfl, bR, rfl⟩
     · have f4 := hd 4 (by omega) (by omega) (by kernel_rfl);clear hd;go_wp2;exact ⟨rfl, bR, rfl⟩
     · have f5 := hd 5 (by omega) (by omega) (by kernel_rfl);clear hd;go_wp2;exact ⟨rfl, bR, rfl⟩
     · have f6 := hd 6 (by omega) (by omega) (by kernel_rfl);clear hd;have hcc := cell_box ((hb.block z (heap_lt HDq.out.hz)).trans HDq.out.hz) (k := 21) (v := .slice a9 n cc9) rfl;go_wp2;exact ⟨rfl, bR, rfl⟩
   · intro vf u1 hb hd;have f3 : vf 3 = .agg (cfs c2).toArray := hd 3 (by omega) (by omega);have f7 : vf 7 = .slice a9 n cc9 := hd 7 (by omega) (by omega);clear hd;simp only [fillA, fA, fB, fC, fD, fH, Nat.reduceAdd, Act.put, fE, fF, fG];generalize vf 3 = v3 at *;generalize vf 7 = v7 at *;subst f3 f7;have HBu := hid hb;clear hb;have KK := hid (HK24.out u1 HBu.out);clear HK24;go_wp2_with (go_at_call 24; refine KK.out.mono ?_; rintro e w6 ⟨v, rfl, ho6, hb6⟩; obtain ⟨a6, c6, b6, rfl, hc6, hp6, hs6⟩ := ho6.slice; have HP6 := hid hp6; have HS6 := hid hs6; have HB6 := hid (bthen' HBu.out hb6); clear hb6 ho6 hs6 hp6; refine Hid.out ?_);refine hid ?_
     have hz6 := (HB6.out.block z (heap_lt HDq.out.hz)).trans HDq.out.hz;have hc0 := cell_box hz6 (k := 0) (v := .int .i64 3) rfl;have HR6 := hid (show Below B w w6 from bthen HBq.out HB6.out HSq.out);have HD6 := hid (HDq.out.mono HB6.out);clear hz6 KK;have h4 := HX4.out;obtain ⟨e9, -, -⟩ := HP6.out (by omega);subst e9;have hcx := HS6.out 2 (by omega);rw [Nat.zero_add] at hcx;have HRF := hid (refOk_head (D := D2) (s := L) (word := wRule) (by decide) (p := 3) (by decide));generalize hx : (textS D2).getD 2 [] = x at *;clear hx;generalize (textS D2).length = lx at *;by_cases hq : x = L
     · have hq2 : (x == L) = true := by simp [hq]
       have e2 := HRF.out.trans (decide_eq_true hq);clear hq HRF;go_wp2;go_ret
       have eo := HO.out;rw [e2, if_pos rfl] at eo;subst eo;exact ⟨rfl, ⟨_, _, _, _, _, _, HD6.out, HDD.out⟩, HR6.out⟩
     · have hq2 : (x == L) = false := by simp [hq]
       have e2 := HRF.out.trans (decide_eq_false hq);clear hq HRF;go_wp2;go_ret
       have eo := HO.out;rw [e2, if_neg (by decide)] at eo;subst eo;exact ⟨rfl, HR6.out⟩
end
section
open Go.RowKit Go.Sort
open Tm
attribute [local go_sem] gcell bs_tl
set_option maxRecDepth 100000 in
set_option maxHeartbeats 16000000 in
theorem read_outer (HT0 : Text24) (L : List UInt8) (hs : (bs L).size ≤ 900000) (w : World) (B z : Nat) (c : Cf) (X : Nat → Ch.Fd) (T : Nat → Te) (lv : Value) (n : Nat) (Q : Nat → Tr) (D : DocR w B z 3 c X T lv n Q) (hBw : B ≤ w.heap.size) (hW : (spl 32 L).headD [] = wOuter)
 (D2 : DocS) (h2 : { docOf c X T n Q with h3 := refNums L 2 } = D2) (m : Nat) (HM : DocM D2 m) (hm : m ≤ 900000) (o : Option (Nat × DocS)) (ho : o = if refOk wOuter 4 D2 L = true then some (4, D2) else none) :
 Calls Tryz.prog 39 #[.pointer (some ⟨z, 0, none⟩), .string (bs L)] w (RdPost w B z o) := by
 have HO := hid ho;clear ho;have HT := hid HT0;have HH2 := hid h2;have HMM2 := hid HM;clear HT0 h2 HM;have KC := hid (cut38 (bs L) hs 32 w);rw [bs_toList] at KC;have HW := hid (head_of (spl_ne 32 L) hW);have HLL := hid hs;generalize hMM : spl 32 L = M at *;have HMM := hid hMM;clear hW hMM;have HD := hid D;have HBw := hid hBw;have hc := cell_box D.hz (k := 0) (v := .int .i64 3) rfl;clear D hBw;go_enter Tryz.func39, Tryz.ntmps39;go_wp2_with (go_at_call 38; refine KC.out.mono ?_; rintro e w1 ⟨v, rfl, ho1, hb1⟩; obtain ⟨a1, c1, b1, rfl, hc1, hp1, hs1⟩ := ho1.slice; obtain ⟨e9, -, -⟩ := hp1 HW.out.2; subst e9; have hc2 := hs1 0 HW.out.2; rw [Nat.zero_add, HW.out.1] at hc2; have hc3 := up hb1 hc; have hl1 := HW.out.2; have HB1 := hid hb1; clear hb1 ho1 hs1 hp1 hc; refine Hid.out ?_);refine hid ?_
 have HD1 := hid (HD.out.mono HB1.out);clear HD KC;unfold wOuter at hc2;have KN := hid (nums60 (bs L) hs 2 (by omega));rw [bs_toList] at KN;have HR3 := hid (refNums_len L 2);generalize refNums L 2 = ns at *;go_wp2_with (go_at_call 60; refine (KN.out _).mono ?_; rintro e w2 ⟨b2, rfl, hge2, hn2, hb2⟩; have HB2 := hid (bthen' HB1.out hb2); have HN2 := hid hn2; have HG2 := hid hge2; have HD2 := hid (HD1.out.mono hb2); clear hb2 hn2 hge2; refine Hid.out ?_);refine hid ?_
 clear hc2 hc3 KN HD1
 obtain ⟨x0, x1, rfl⟩ : ∃ x0 x1, ns = [x0, x1] := by
  have := HR3.out
  match ns, this with
  | [x0, x1], _ => exact ⟨_, _, rfl⟩
 have hx0 := HN2.out 0 (by simp);have hx1 := HN2.out 1 (by simp);clear HN2;go_upto_region 18 with fail
 refine wp_region_peelF 0 8 (fun i v u => match i with
  | 0 => v = .pointer (some ⟨z, 0, none⟩)
  | 1 => v = .slice (some ⟨b2, 0, none⟩) 2 2
  | 2 => v = .pointer (some ⟨b2, 0, none⟩)
  | 3 => v = .int .i64 x0
  | 4 => v = .slice (some ⟨b2, 0, none⟩) 2 2
  | 5 => v = .pointer (some ⟨b2, 1, none⟩)
  | 6 => v = .int .i64 x1
  | 7 => v = .agg #[.int .i64 0, .int .i64 x0, .int .i64 x1]
  | _ => True) (by kernel_rfl) (by kernel_rfl) rfl (fun _ _ d _ _ h => by cases d <;> exact h) ?_ ?_ ?_
 · intro i v w1 w2 hb h
   match i with
   | 0 => exact h
   | 1 => exact h
   | 2 => exact h
   | 3 => exact h
   | 4 => exact h
   | 5 => exact h
   | 6 => exact h
   | 7 => exact h
   | k + 8 => exact h
 · intro i o hp hi ho vf u1 hb hd;have hi' : i = 0 ∨ i = 1 ∨ i = 2 ∨ i = 3 ∨ i = 4 ∨ i = 5 ∨ i = 6 ∨ i = 7 := by omega
   rcases hi' with rfl | rfl | rfl | rfl | rfl | rfl | rfl | rfl
   all_goals obtain rfl := oI ho
   all_goals simp only [fillA, fA, fB, fC, fD, fH, Nat.reduceAdd]
   · clear hd;go_wp2;exact ⟨rfl, bR, rfl⟩
   · clear hd;go_wp2;exact ⟨rfl, bR, rfl⟩
   · have f1 := hd 1 (by omega) (by omega) (by kernel_rfl);clear hd;go_wp2;exact ⟨rfl, bR, rfl⟩
   · have f2 := hd 2 (by omega) (by omega) (by kernel_rfl);clear hd;have hcc := up hb hx0;go_wp2;exact ⟨rfl, bR, rfl⟩
   · clear hd;go_wp2;exact ⟨rfl, bR, rfl⟩
   · have f4 := hd 4 (by omega) (by omega) (by kernel_rfl);clear hd;go_wp2;exact ⟨rfl, bR, rfl⟩
   · have f5 := hd 5 (by omega) (by omega) (by kernel_rfl);clear hd;have hcc := up hb hx1;go_wp2;exact ⟨rfl, bR, rfl⟩
   · have f3 := hd 3 (by omega) (by omega) (by kernel_rfl);have f6 := hd 6 (by omega) (by omega) (by kernel_rfl);clear hd;go_wp2;exact ⟨rfl, bR, rfl⟩
 · intro vf u1 hb hd;have fn : vf 7 = .agg #[.int .i64 0, .int .i64 x0, .int .i64 x1] := hd 7 (by omega) (by omega);have f0 : vf 0 = .pointer (some ⟨z, 0, none⟩) := hd 0 (by omega) (by omega);clear hd;simp only [fillA, fA, fB, fC, fD, fH, Nat.reduceAdd, Act.put, fE, fF, fG];generalize vf 7 = vn at *;generalize vf 0 = v0 at *;subst fn f0;have HDu := hid (HD2.out.mono hb);have HBu := hid (bthen' HB2.out hb);clear hb hx0 hx1 HD2;have hk0 := cell_box HDu.out.hz (k := 16) (v := .int .i64 (c.h 15)) rfl;have hk1 := cell_box HDu.out.hz (k := 17) (v := .int .i64 (c.h 16)) rfl;have hk2 := cell_box HDu.out.hz (k := 18) (v := .int .i64 (c.h 17)) rfl;have hk9 := cell_box HDu.out.hz (k := 0) (v := .int .i64 3) rfl;have hf0 := frozen_of_row u1 z 0 _ _ HDu.out.hz;have hf16 := frozen_of_row u1 z 16 _ _ HDu.out.hz;have hf17 := frozen_of_row u1 z 17 _ _ HDu.out.hz;have hf18 := frozen_of_row u1 z 18 _ _ HDu.out.hz;go_upto_region 37 with fail
   have hdq : DocR ((((u1.setCell ⟨z, 16, none⟩ (.int .i64 0)).setCell ⟨z, 17, none⟩ (.int .i64 x0)).setCell ⟨z, 18, none⟩ (.int .i64 x1)).setCell ⟨z, 0, none⟩ (.int .i64 4)) B z 4 (setHs c [16, 17] [x0, x1]) X T lv n Q := ((HDu.out.set15.setH 16 (by decide) (by decide) x0).setH 17 (by decide) (by decide) x1).part 4;have hbq : Below B w ((((u1.setCell ⟨z, 16, none⟩ (.int .i64 0)).setCell ⟨z, 17, none⟩ (.int .i64 x0)).setCell ⟨z, 18, none⟩ (.int .i64 x1)).setCell ⟨z, 0, none⟩ (.int .i64 4)) := Below.setCell (Below.setCell (Below.setCell (Below.setCell (HBu.out.mono HBw.out) (p := ⟨z, 16, none⟩) HDu.out.bz _) (p := ⟨z, 17, none⟩) HDu.out.bz _) (p := ⟨z, 18, none⟩) HDu.out.bz _) (p := ⟨z, 0, none⟩) HDu.out.bz _;clear hk9 hk0 hk1 hk2 hf0 hf16 hf17 hf18 HDu HBu;generalize (((u1.setCell ⟨z, 16, none⟩ (.int .i64 0)).setCell ⟨z, 17, none⟩ (.int .i64 x0)).setCell ⟨z, 18, none⟩ (.int .i64 x1)).setCell ⟨z, 0, none⟩ (.int .i64 4) = wq at *;have HDq := hid hdq;have HBq := hid hbq;clear hdq hbq;have HDD := hid (show docOf (setHs c [16, 17] [x0, x1]) X T n Q = D2 from HH2.out);have HNN := hid (numN_of (c := (setHs c [16, 17] [x0, x1])) (X := X) (T := T) (n := n) (Q := Q) (by rw [HDD.out]; exact HMM2.out.n) (by rw [HDD.out]; exact HMM2.out.z) HDq.out.eq);have HLn := hid (show (textS (docOf (setHs c [16, 17] [x0, x1]) X T n Q)).length ≤ 1000000 by rw [HDD.out]; have := HMM2.out.l; omega);clear HH2;generalize (setHs c [16, 17] [x0, x1]) = c2 at *;have HX4 := hid (textS_len D2);have HSq := hid (show B ≤ wq.heap.size from Nat.le_trans HBw.out HBq.out.size);obtain ⟨a9, cc9, hlv9, hncc9, hnm9, htr9⟩ := HDq.out.trR;have HK24 := hid (fun (u : World) (hb : Below wq.heap.size wq u) => HT.out c2 X T a9 n cc9 Q u (HDq.out.cfIn.mono hb) (htr9.mono hb) hnm9 HNN.out HLn.out);rw [hlv9] at HDq;clear htr9 hlv9;rw [HDD.out] at HK24;unfold cfv at HK24
   refine wp_region_peelF 0 8 (fun i v u => match i with
    | 0 => v = .pointer (some ⟨z, 0, none⟩)
    | 1 => v = .pointer (some ⟨z, 0, none⟩)
    | 2 => v = .pointer (some ⟨z, 1, none⟩)
    | 3 => v = .agg (cfs c2).toArray
    | 4 => v = .pointer (some ⟨z, 0, none⟩)
    | 5 => v = .pointer (some ⟨z, 0, none⟩)
    | 6 => v = .pointer (some ⟨z, 21, none⟩)
    | 7 => v = .slice a9 n cc9
    | _ => True) (by kernel_rfl) (by kernel_rfl) rfl (fun _ _ d _ _ h => by cases d <;> exact h) ?_ ?_ ?_
   · intro i v w1 w2 hb h
     match i with
     | 0 => exact h
     | 1 => exact h
     | 2 => exact h
     | 3 => exact h
     | 4 => exact h
     | 5 => exact h
     | 6 => exact h
     | 7 => exact h
     | k + 8 => exact h
   · intro i o hp hi ho vf u1 hb hd;have hi' : i = 0 ∨ i = 1 ∨ i = 2 ∨ i = 3 ∨ i = 4 ∨ i = 5 ∨ i = 6 ∨ i = 7 := by omega
     rcases hi' with rfl | rfl | rfl | rfl | rfl | rfl | rfl | rfl
     all_goals obtain rfl := oI ho
     all_goals simp only [fillA, fA, fB, fC, fD, fH, Nat.reduceAdd]
     · clear hd;go_wp2;exact ⟨rfl, bR, rfl⟩
     · have f0 := hd 0 (by omega) (by omega) (by kernel_rfl);clear hd;go_wp2;exact ⟨rfl, bR, rfl⟩
     · have f1 := hd 1 (by omega) (by omega) (by kernel_rfl);clear hd;go_wp2;exact ⟨rfl, bR, rfl⟩
     · have f2 : vf 2 = .pointer (some ⟨z, 1, none⟩) := hd 2 (by omega) (by omega) (by kernel_rfl);clear hd;have hrg := range_docR ((hb.block z (heap_lt HDq.out.hz)).trans HDq.out.hz);simp only [Act.put, fE, fF, fG];generalize vf 2 = v2 at *;subst f2;refine wpList_load_mid rfl 37 (.tmp 428) rfl z 1 rfl (cfs c2) _ hrg Tryz.underlying37 rfl (by kernel_rfl) ?_
       go_wp2;exact ⟨rfl, bR, rfl⟩
     · clear hd;go_wp2;exact ⟨rfl, bR, rfl⟩
     · have f4 := hd 4 (by omega) (by omega) (by kernel_rfl);clear hd;go_wp2;exact ⟨rfl, bR, rfl⟩
     · have f5 := hd 5 (by omega) (by omega) (by kernel_rfl);clear hd;go_wp2;exact ⟨rfl, bR, rfl⟩
     · have f6 := hd 6 (by omega) (by omega) (by kernel_rfl);clear hd;have hcc := cell_box ((hb.block z (heap_lt HDq.out.hz)).trans HDq.out.hz) (k := 21) (v := .slice a9 n cc9) rfl;go_wp2;exact ⟨rfl, bR, rfl⟩
   · intro vf u1 hb hd;have f3 : vf 3 = .agg (cfs c2).toArray := hd 3 (by omega) (by omega);have f7 : vf 7 = .slice a9 n cc9 := hd 7 (by omega) (by omega);clear hd;simp only [fillA, fA, fB, fC, fD, fH, Nat.reduceAdd, Act.put, fE, fF, fG];generalize vf 3 = v3 at *;generalize vf 7 = v7 at *;subst f3 f7;have HBu := hid hb;clear hb;have KK := hid (HK24.out u1 HBu.out);clear HK24;go_wp2_with (go_at_call 24; refine KK.out.mono ?_; rintro e w6 ⟨v, rfl, ho6, hb6⟩; obtain ⟨a6, c6, b6, rfl, hc6, hp6, hs6⟩ := ho6.slice; have HP6 := hid hp6; have HS6 := hid hs6; have HB6 := hid (bthen' HBu.out hb6); clear hb6 ho6 hs6 hp6; refine Hid.out ?_);refine hid ?_
     have hz6 := (HB6.out.block z (heap_lt HDq.out.hz)).trans HDq.out.hz;have hc0 := cell_box hz6 (k := 0) (v := .int .i64 4) rfl;have HR6 := hid (show Below B w w6 from bthen HBq.out HB6.out HSq.out);have HD6 := hid (HDq.out.mono HB6.out);clear hz6 KK;have h4 := HX4.out;have HRF := hid (refOk_tail (D := D2) (s := L) (word := wOuter) (by decide) (p := 4) (by decide));have hln := HLn.out;rw [HDD.out] at hln;obtain ⟨ly, hly, hly3⟩ : ∃ ly, (textS D2).length = ly + 1 ∧ 3 ≤ ly := ⟨(textS D2).length - 1, by omega, by omega⟩
     rw [hly] at hln h4 HRF HP6 hc6 ⊢;rw [show max (ly + 1 - 1) 3 = ly by omega] at HRF;obtain ⟨e9, -, -⟩ := HP6.out (by omega);subst e9;have hcx := HS6.out ly (by rw [hly]; omega);rw [Nat.zero_add] at hcx;clear HLn HX4 hly HP6 HS6;have hmx : max (ly : Int) 3 = ly := by omega
     generalize (textS D2).getD ly [] = x at *;by_cases hq : x = L
     · have hq2 : (x == L) = true := by simp [hq]
       have e2 := HRF.out.trans (decide_eq_true hq);clear hq HRF;go_wp2;go_ret
       have eo := HO.out;rw [e2, if_pos rfl] at eo;subst eo;exact ⟨rfl, ⟨_, _, _, _, _, _, HD6.out, HDD.out⟩, HR6.out⟩
     · have hq2 : (x == L) = false := by simp [hq]
       have e2 := HRF.out.trans (decide_eq_false hq);clear hq HRF;go_wp2;go_ret
       have eo := HO.out;rw [e2, if_neg (by decide)] at eo;subst eo;exact ⟨rfl, HR6.out⟩
end
end Go.Proofs.YtgflfdnajchjaaaGreatDoor
