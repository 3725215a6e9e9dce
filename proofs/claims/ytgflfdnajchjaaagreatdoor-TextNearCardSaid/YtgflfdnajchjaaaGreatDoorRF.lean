import Derived.Test.YtgflfdnajchjaaaGreatDoorPZ
set_option linter.unusedVariables false
set_option linter.unusedSimpArgs false
namespace Go.Proofs.YtgflfdnajchjaaaGreatDoor
open Go.Lib (hid)
open Go.RowKit
section
open Go.RowKit Go.Sort
open Tm
attribute [local go_sem] gcell bs_tl
set_option maxRecDepth 100000 in
set_option maxHeartbeats 16000000 in
theorem read_bearer (HT0 : Text24) (L : List UInt8) (hs : (bs L).size ≤ 900000) (w : World) (B z : Nat) (c : Cf) (X : Nat → Ch.Fd) (T : Nat → Te) (lv : Value) (n : Nat) (Q : Nat → Tr) (D : DocR w B z 5 c X T lv n Q) (hBw : B ≤ w.heap.size) (hW : (spl 32 L).headD [] = wBearer) (ht0 : 0 < c.tn)
 (D2 : DocS) (h2 : putB (docOf c X T n Q) (refNums L 15) = D2) (m : Nat) (HM : DocM D2 m) (hm : m ≤ 900000) (o : Option (Nat × DocS)) (ho : o = if refOk wBearer 5 D2 L = true then some (5, D2) else none) :
 Calls Tryz.prog 39 #[.pointer (some ⟨z, 0, none⟩), .string (bs L)] w (RdPost w B z o) := by
 have HO := hid ho;clear ho;have HT := hid HT0;have HH2 := hid h2;have HMM2 := hid HM;clear HT0 h2 HM;obtain ⟨k0, hk0⟩ : ∃ k, k + 1 = c.tn := ⟨c.tn - 1, by omega⟩
 obtain ⟨g, hta⟩ : ∃ g, c.ta = some ⟨g, 0, none⟩ := by
  obtain ⟨a, cc, e, -, -, h⟩ := own_slice D.t;injection e with e1
  obtain ⟨g, hg, -⟩ := h ht0;exact ⟨g, e1.trans hg⟩
 have hkt : k0 < c.tn := by omega
 have HTA := hid hta;have HK0 := hid hk0;have HKT := hid hkt;have hm6 : (textS D2).length ≤ 1000000 := by have := HMM2.out.l; omega
 have hD2t : D2.terms.length = k0 + 1 := by
  rw [← HH2.out]
  have e : (docOf c X T n Q).terms = (List.range k0).map (fun k => teS (T k)) ++ [teS (T k0)] := by
   show (List.range c.tn).map _ = _
   rw [← hk0, List.range_succ, List.map_append]
   rfl
  rw [putB_terms e];simp
 have hD2b : (T k0).bn + 1 ≤ (textS D2).length := by
  have e : (docOf c X T n Q).terms = (List.range k0).map (fun k => teS (T k)) ++ [teS (T k0)] := by
   show (List.range c.tn).map _ = _
   rw [← hk0, List.range_succ, List.map_append]
   rfl
  have h5 := (text_bounds D2).2.2.2 ⟨(teS (T k0)).ns, (teS (T k0)).bs ++ [refNums L 15]⟩ (by rw [← HH2.out, putB_terms e]; simp);simp [teS] at h5;exact h5
 have HTB := hid (show k0 + 1 ≤ 1000000 by have := (text_bounds D2).2.1; omega);have HBB := hid (show (T k0).bn + 1 ≤ 1000000 by omega);clear hta hk0 hkt hm6 hD2t hD2b ht0;have KC := hid (cut38 (bs L) hs 32 w);rw [bs_toList] at KC;have HW := hid (head_of (spl_ne 32 L) hW);have HLL := hid hs;generalize hMM : spl 32 L = M at *;have HMM := hid hMM;clear hW hMM;have HD := hid D;have HBw := hid hBw;have hc := cell_box D.hz (k := 0) (v := .int .i64 5) rfl;clear D hBw;go_enter Tryz.func39, Tryz.ntmps39;go_wp2_with (go_at_call 38; refine KC.out.mono ?_; rintro e w1 ⟨v, rfl, ho1, hb1⟩; obtain ⟨a1, c1, b1, rfl, hc1, hp1, hs1⟩ := ho1.slice; obtain ⟨e9, -, -⟩ := hp1 HW.out.2; subst e9; have hc2 := hs1 0 HW.out.2; rw [Nat.zero_add, HW.out.1] at hc2; have hc3 := up hb1 hc; have hl1 := HW.out.2; have HB1 := hid hb1; clear hb1 ho1 hs1 hp1 hc; refine Hid.out ?_);refine hid ?_
 have HD1 := hid (HD.out.mono HB1.out);clear KC;unfold wBearer at hc2;have KN := hid (nums60 (bs L) hs 15 (by omega));rw [bs_toList] at KN;have HR3 := hid (refNums_len L 15);generalize refNums L 15 = ns at *;go_wp2_with (go_at_call 60; refine (KN.out _).mono ?_; rintro e w2 ⟨b2, rfl, hge2, hn2, hb2⟩; have HB2 := hid (bthen' HB1.out hb2); have HN2 := hid hn2; have HG2 := hid hge2; have HD2 := hid (HD1.out.mono hb2); clear hb2 hn2 hge2; refine Hid.out ?_);refine hid ?_
 clear hc2 hc3 KN HD1
 obtain ⟨x0, x1, x2, x3, x4, x5, x6, x7, x8, x9, x10, x11, x12, x13, x14, rfl⟩ : ∃ x0 x1 x2 x3 x4 x5 x6 x7 x8 x9 x10 x11 x12 x13 x14, ns = [x0, x1, x2, x3, x4, x5, x6, x7, x8, x9, x10, x11, x12, x13, x14] := by
  have := HR3.out
  match ns, this with
  | [x0, x1, x2, x3, x4, x5, x6, x7, x8, x9, x10, x11, x12, x13, x14], _ => exact ⟨_, _, _, _, _, _, _, _, _, _, _, _, _, _, _, rfl⟩
 have hx0 := HN2.out 0 (by simp);have hx1 := HN2.out 1 (by simp);have hx2 := HN2.out 2 (by simp);have hx3 := HN2.out 3 (by simp);have hx4 := HN2.out 4 (by simp);have hx5 := HN2.out 5 (by simp);have hx6 := HN2.out 6 (by simp);have hx7 := HN2.out 7 (by simp);have hx8 := HN2.out 8 (by simp);have hx9 := HN2.out 9 (by simp);have hx10 := HN2.out 10 (by simp);have hx11 := HN2.out 11 (by simp);have hx12 := HN2.out 12 (by simp);have hx13 := HN2.out 13 (by simp);have hx14 := HN2.out 14 (by simp);clear HN2;have HX := hid (show _ ∧ _ ∧ _ ∧ _ ∧ _ ∧ _ ∧ _ ∧ _ ∧ _ ∧ _ ∧ _ ∧ _ ∧ _ ∧ _ ∧ _ from ⟨hx0, hx1, hx2, hx3, hx4, hx5, hx6, hx7, hx8, hx9, hx10, hx11, hx12, hx13, hx14⟩);clear hx0 hx1 hx2 hx3 hx4 hx5 hx6 hx7 hx8 hx9 hx10 hx11 hx12 hx13 hx14;have hgt : (Value.slice c.ta c.tn c.tc).ownBlock = some g := by rw [HTA.out]; rfl
 have HBb := hid (HD2.out.b k0 HKT.out);have HBk := hid (HD2.out.u k0 HKT.out);have HEq := hid (HD2.out.eq k0 HKT.out);have HGb := hid (show (bV (T k0)).ownBlock ≠ some g from fun e => own_apart HBb.out HD2.out.t (by decide) e hgt);have HGk := hid (show (kV (T k0)).ownBlock ≠ some g from fun e => own_apart HBk.out HD2.out.t (by decide) e hgt);have HGlt := hid (HD2.out.t.lt g hgt);obtain ⟨gcs, hgcs⟩ := (own_tag HD2.out.t hgt).2.2;have HGC := hid hgcs;have HGZ := hid (show g ≠ z from own_ne HD2.out.t HD2.out.hz (by decide) hgt);have HB2b := hid (show (bV (T k0)).ownBlock ≠ some b2 from fun e => by have h1 := ((HD.out.mono HB1.out).b k0 HKT.out).lt b2 e; have h2 := HG2.out; omega);have HB2g := hid (show b2 ≠ g from fun e => by have h1 := ((HD.out.mono HB1.out).t).lt g hgt; have h2 := HG2.out; omega);have HZb := hid (show (bV (T k0)).ownBlock ≠ some z from fun e => own_ne HBb.out HD2.out.hz (by decide) e rfl);have HZk := hid (show (kV (T k0)).ownBlock ≠ some z from fun e => own_ne HBk.out HD2.out.hz (by decide) e rfl)
 have HC2 := hid (show w2.cell? ⟨g, k0 * 14 + 2, none⟩ = some (bV (T k0)) from by
  have h1 := HD2.out.t;rw [HTA.out] at h1;rw [h1.cellAt (k0 * 14 + 2) (by have := HK0.out; omega), List.getElem?_map, List.getElem?_range (by have := HK0.out; omega), Option.map_some, tev_at _ _ _ (by omega)]
  rfl)
 have HC3 := hid (show w2.cell? ⟨g, k0 * 14 + 3, none⟩ = some (kV (T k0)) from by
  have h1 := HD2.out.t;rw [HTA.out] at h1;rw [h1.cellAt (k0 * 14 + 3) (by have := HK0.out; omega), List.getElem?_map, List.getElem?_range (by have := HK0.out; omega), Option.map_some, tev_at _ _ _ (by omega)]
  rfl)
 have hc20 := cell_box HD2.out.hz (k := 20) (v := .slice c.ta c.tn c.tc) rfl;rw [HTA.out, ← HK0.out] at hc20;have hkb := HTB.out;clear hgt hgcs;have HC20 := hid hc20;clear hc20;go_upto_region 29 with fail
 refine wp_region_peelF 0 13 (fun i v u => match i with
  | 0 => v = .pointer (some ⟨z, 0, none⟩)
  | 1 => v = .pointer (some ⟨z, 0, none⟩)
  | 2 => v = .pointer (some ⟨z, 1, none⟩)
  | 3 => v = .pointer (some ⟨z, 20, none⟩)
  | 4 => v = .slice (some ⟨g, 0, none⟩) (k0 + 1) c.tc
  | 5 => v = .pointer (some ⟨z, 0, none⟩)
  | 6 => v = .pointer (some ⟨z, 0, none⟩)
  | 7 => v = .pointer (some ⟨z, 1, none⟩)
  | 8 => v = .pointer (some ⟨z, 20, none⟩)
  | 9 => v = .slice (some ⟨g, 0, none⟩) (k0 + 1) c.tc
  | 10 => v = .int .i64 ((k0 : Int) + 1)
  | 11 => v = .int .i64 (k0 : Int)
  | 12 => v = .pointer (some ⟨g, k0 * 14, none⟩)
  | _ => True) (by kernel_rfl) (by kernel_rfl) rfl (fun _ _ d _ _ h => by cases d <;> exact h) ?_ ?_ ?_
 · intro i v w1 w2 hb h
   match i with
   | 0 => exact h
   | 1 => exact h
   | 2 => exact h
   | 3 => exact h
   | 4 => exact h
   | 5 => exact h
   | 6 => exact h
   | 7 => exact h
   | 8 => exact h
   | 9 => exact h
   | 10 => exact h
   | 11 => exact h
   | 12 => exact h
   | k + 13 => exact h
 · intro i o hp hi ho vf u1 hb hd;have hi' : i = 0 ∨ i = 1 ∨ i = 2 ∨ i = 3 ∨ i = 4 ∨ i = 5 ∨ i = 6 ∨ i = 7 ∨ i = 8 ∨ i = 9 ∨ i = 10 ∨ i = 11 ∨ i = 12 := by omega
   rcases hi' with rfl | rfl | rfl | rfl | rfl | rfl | rfl | rfl | rfl | rfl | rfl | rfl | rfl
   all_goals obtain rfl := oI ho
   all_goals simp only [fillA, fA, fB, fC, fD, fH, Nat.reduceAdd]
   · clear hd;go_wp2;exact ⟨rfl, bR, rfl⟩
   · have f0 := hd 0 (by omega) (by omega) (by kernel_rfl);clear hd;go_wp2;exact ⟨rfl, bR, rfl⟩
   · have f1 := hd 1 (by omega) (by omega) (by kernel_rfl);clear hd;go_wp2;exact ⟨rfl, bR, rfl⟩
   · have f2 := hd 2 (by omega) (by omega) (by kernel_rfl);clear hd;go_wp2;exact ⟨rfl, bR, rfl⟩
   · have f3 := hd 3 (by omega) (by omega) (by kernel_rfl);clear hd;have hcc := up hb HC20.out;go_wp2;exact ⟨rfl, bR, rfl⟩
   · clear hd;go_wp2;exact ⟨rfl, bR, rfl⟩
   · have f5 := hd 5 (by omega) (by omega) (by kernel_rfl);clear hd;go_wp2;exact ⟨rfl, bR, rfl⟩
   · have f6 := hd 6 (by omega) (by omega) (by kernel_rfl);clear hd;go_wp2;exact ⟨rfl, bR, rfl⟩
   · have f7 := hd 7 (by omega) (by omega) (by kernel_rfl);clear hd;go_wp2;exact ⟨rfl, bR, rfl⟩
   · have f8 := hd 8 (by omega) (by omega) (by kernel_rfl);clear hd;have hcc := up hb HC20.out;go_wp2;exact ⟨rfl, bR, rfl⟩
   · have f9 := hd 9 (by omega) (by omega) (by kernel_rfl);clear hd;go_wp2;exact ⟨rfl, bR, rfl⟩
   · have f10 := hd 10 (by omega) (by omega) (by kernel_rfl);clear hd;have hwk : IntKind.i64.wrap (k0 : Int) = k0 := IntWalk.i64_in _ ⟨by omega, by omega⟩;go_wp2;exact ⟨rfl, bR, rfl⟩
   · have f4 := hd 4 (by omega) (by omega) (by kernel_rfl);have f11 := hd 11 (by omega) (by omega) (by kernel_rfl);clear hd;go_wp2;exact ⟨rfl, bR, rfl⟩
 · intro vf u1 hb hd;have f12 : vf 12 = .pointer (some ⟨g, k0 * 14, none⟩) := hd 12 (by omega) (by omega);clear hd;simp only [fillA, fA, fB, fC, fD, fH, Nat.reduceAdd, Act.put, fE, fF, fG];generalize vf 12 = v12 at *;subst f12;have HXu := hid (show ∀ j y, w2.cell? ⟨b2, j, none⟩ = some y → u1.cell? ⟨b2, j, none⟩ = some y from fun j y h => up hb h);have HD2 := hid (HD2.out.mono hb);have HB2 := hid (bthen' HB2.out hb);have HBb := hid (own_below HBb.out hb);have HBk := hid (own_below HBk.out hb);have HGlt := hid (show B ≤ g ∧ g < u1.heap.size from ⟨HGlt.out.1, Nat.lt_of_lt_of_le HGlt.out.2 hb.size⟩);have HGC := hid ((hb.block g (heap_lt HGC.out)).trans HGC.out);have HC2 := hid (up hb HC2.out);have HC3 := hid (up hb HC3.out);have HXn := hid (show _ ∧ _ ∧ _ ∧ _ ∧ _ ∧ _ ∧ _ ∧ _ ∧ _ ∧ _ ∧ _ ∧ _ ∧ _ ∧ _ ∧ _ from ⟨HXu.out _ _ (HX.out.1), HXu.out _ _ (HX.out.2.1), HXu.out _ _ (HX.out.2.2.1), HXu.out _ _ (HX.out.2.2.2.1), HXu.out _ _ (HX.out.2.2.2.2.1), HXu.out _ _ (HX.out.2.2.2.2.2.1), HXu.out _ _ (HX.out.2.2.2.2.2.2.1), HXu.out _ _ (HX.out.2.2.2.2.2.2.2.1), HXu.out _ _ (HX.out.2.2.2.2.2.2.2.2.1), HXu.out _ _ (HX.out.2.2.2.2.2.2.2.2.2.1), HXu.out _ _ (HX.out.2.2.2.2.2.2.2.2.2.2.1), HXu.out _ _ (HX.out.2.2.2.2.2.2.2.2.2.2.2.1), HXu.out _ _ (HX.out.2.2.2.2.2.2.2.2.2.2.2.2.1), HXu.out _ _ (HX.out.2.2.2.2.2.2.2.2.2.2.2.2.2.1), HXu.out _ _ (HX.out.2.2.2.2.2.2.2.2.2.2.2.2.2.2)⟩);clear HX HXu;have HX := HXn;clear HXn hb hkb HC20;generalize u1 = u0 at *;go_upto_region 30 with fail
   refine wp_region_peelF 1 41 (fun i v u => match i with
    | 1 => v = .pointer (some ⟨g, k0 * 14, none⟩)
    | 2 => v = .pointer (some ⟨g, k0 * 14, none⟩)
    | 3 => v = .pointer (some ⟨g, k0 * 14 + 2, none⟩)
    | 4 => v = bV (T k0)
    | 5 => v = .slice (some ⟨b2, 0, none⟩) 15 15
    | 6 => v = .pointer (some ⟨b2, 0, none⟩)
    | 7 => v = .int .i64 x0
    | 8 => v = .slice (some ⟨b2, 0, none⟩) 15 15
    | 9 => v = .pointer (some ⟨b2, 1, none⟩)
    | 10 => v = .int .i64 x1
    | 11 => v = .slice (some ⟨b2, 0, none⟩) 15 15
    | 12 => v = .pointer (some ⟨b2, 2, none⟩)
    | 13 => v = .int .i64 x2
    | 14 => v = .slice (some ⟨b2, 0, none⟩) 15 15
    | 15 => v = .pointer (some ⟨b2, 3, none⟩)
    | 16 => v = .int .i64 x3
    | 17 => v = .slice (some ⟨b2, 0, none⟩) 15 15
    | 18 => v = .pointer (some ⟨b2, 4, none⟩)
    | 19 => v = .int .i64 x4
    | 20 => v = .slice (some ⟨b2, 0, none⟩) 15 15
    | 21 => v = .pointer (some ⟨b2, 5, none⟩)
    | 22 => v = .int .i64 x5
    | 23 => v = .slice (some ⟨b2, 0, none⟩) 15 15
    | 24 => v = .pointer (some ⟨b2, 6, none⟩)
    | 25 => v = .int .i64 x6
    | 26 => v = .slice (some ⟨b2, 0, none⟩) 15 15
    | 27 => v = .pointer (some ⟨b2, 7, none⟩)
    | 28 => v = .int .i64 x7
    | 29 => v = .slice (some ⟨b2, 0, none⟩) 15 15
    | 30 => v = .pointer (some ⟨b2, 8, none⟩)
    | 31 => v = .int .i64 x8
    | 32 => v = .slice (some ⟨b2, 0, none⟩) 15 15
    | 33 => v = .pointer (some ⟨b2, 9, none⟩)
    | 34 => v = .int .i64 x9
    | 35 => v = .slice (some ⟨b2, 0, none⟩) 15 15
    | 36 => v = .pointer (some ⟨b2, 10, none⟩)
    | 37 => v = .int .i64 x10
    | 38 => v = .agg #[.int .i64 x5, .int .i64 x6, .int .i64 x7, .int .i64 x8, .int .i64 x9, .int .i64 x10]
    | 39 => v = .agg #[.int .i64 x0, .int .i64 x1, .int .i64 x2, .int .i64 x3, .int .i64 x4, .int .i64 x5, .int .i64 x6, .int .i64 x7, .int .i64 x8, .int .i64 x9, .int .i64 x10]
    | 40 => ∃ bb, v = .slice (some ⟨bb, 0, none⟩) 1 1 ∧ u.heap[bb]? = some (.cells #[.int .i64 x0, .int .i64 x1, .int .i64 x2, .int .i64 x3, .int .i64 x4, .int .i64 x5, .int .i64 x6, .int .i64 x7, .int .i64 x8, .int .i64 x9, .int .i64 x10] 71 (0, 0))
    | _ => True) (by kernel_rfl) (by kernel_rfl) ⟨.pointer (some ⟨g, k0 * 14, none⟩), Or.inl ⟨rfl, fun _ => rfl⟩, rfl⟩ (fun _ _ d _ _ h => by cases d <;> exact h) ?_ ?_ ?_
   · intro i v w1 u0 hb h
     match i with
     | 1 => exact h
     | 2 => exact h
     | 3 => exact h
     | 4 => exact h
     | 5 => exact h
     | 6 => exact h
     | 7 => exact h
     | 8 => exact h
     | 9 => exact h
     | 10 => exact h
     | 11 => exact h
     | 12 => exact h
     | 13 => exact h
     | 14 => exact h
     | 15 => exact h
     | 16 => exact h
     | 17 => exact h
     | 18 => exact h
     | 19 => exact h
     | 20 => exact h
     | 21 => exact h
     | 22 => exact h
     | 23 => exact h
     | 24 => exact h
     | 25 => exact h
     | 26 => exact h
     | 27 => exact h
     | 28 => exact h
     | 29 => exact h
     | 30 => exact h
     | 31 => exact h
     | 32 => exact h
     | 33 => exact h
     | 34 => exact h
     | 35 => exact h
     | 36 => exact h
     | 37 => exact h
     | 38 => exact h
     | 39 => exact h
     | 40 =>
       obtain ⟨bb, e1, e2⟩ := h;exact ⟨bb, e1, (hb.block bb (heap_lt e2)).trans e2⟩
     | 0 => exact h
     | k + 41 => exact h
   · intro i o hp hi ho vf u1 hb hd;have hi' : i = 1 ∨ i = 2 ∨ i = 3 ∨ i = 4 ∨ i = 5 ∨ i = 6 ∨ i = 7 ∨ i = 8 ∨ i = 9 ∨ i = 10 ∨ i = 11 ∨ i = 12 ∨ i = 13 ∨ i = 14 ∨ i = 15 ∨ i = 16 ∨ i = 17 ∨ i = 18 ∨ i = 19 ∨ i = 20 ∨ i = 21 ∨ i = 22 ∨ i = 23 ∨ i = 24 ∨ i = 25 ∨ i = 26 ∨ i = 27 ∨ i = 28 ∨ i = 29 ∨ i = 30 ∨ i = 31 ∨ i = 32 ∨ i = 33 ∨ i = 34 ∨ i = 35 ∨ i = 36 ∨ i = 37 ∨ i = 38 ∨ i = 39 ∨ i = 40 := by omega
     rcases hi' with rfl | rfl | rfl | rfl | rfl | rfl | rfl | rfl | rfl | rfl | rfl | rfl | rfl | rfl | rfl | rfl | rfl | rfl | rfl | rfl | rfl | rfl | rfl | rfl | rfl | rfl | rfl | rfl | rfl | rfl | rfl | rfl | rfl | rfl | rfl | rfl | rfl | rfl | rfl | rfl
     all_goals obtain rfl := oI ho
     all_goals simp only [fillA, fA, fB, fC, fD, fH, Nat.reduceAdd]
     · clear hd;go_wp2;exact ⟨rfl, bR, rfl⟩
     · have f1 := hd 1 (by omega) (by omega) (by kernel_rfl);clear hd;go_wp2;exact ⟨rfl, bR, rfl⟩
     · have f2 := hd 2 (by omega) (by omega) (by kernel_rfl);clear hd;go_wp2;exact ⟨rfl, bR, rfl⟩
     · have f3 := hd 3 (by omega) (by omega) (by kernel_rfl);clear hd;have hcc := up hb HC2.out;go_wp2;exact ⟨rfl, bR, rfl⟩
     · clear hd;go_wp2;exact ⟨rfl, bR, rfl⟩
     · have f5 := hd 5 (by omega) (by omega) (by kernel_rfl);clear hd;go_wp2;exact ⟨rfl, bR, rfl⟩
     · have f6 := hd 6 (by omega) (by omega) (by kernel_rfl);clear hd;have hcc := up hb HX.out.1;go_wp2;exact ⟨rfl, bR, rfl⟩
     · clear hd;go_wp2;exact ⟨rfl, bR, rfl⟩
     · have f8 := hd 8 (by omega) (by omega) (by kernel_rfl);clear hd;go_wp2;exact ⟨rfl, bR, rfl⟩
     · have f9 := hd 9 (by omega) (by omega) (by kernel_rfl);clear hd;have hcc := up hb HX.out.2.1;go_wp2;exact ⟨rfl, bR, rfl⟩
     · clear hd;go_wp2;exact ⟨rfl, bR, rfl⟩
     · have f11 := hd 11 (by omega) (by omega) (by kernel_rfl);clear hd;go_wp2;exact ⟨rfl, bR, rfl⟩
     · have f12 := hd 12 (by omega) (by omega) (by kernel_rfl);clear hd;have hcc := up hb HX.out.2.2.1;go_wp2;exact ⟨rfl, bR, rfl⟩
     · clear hd;go_wp2;exact ⟨rfl, bR, rfl⟩
     · have f14 := hd 14 (by omega) (by omega) (by kernel_rfl);clear hd;go_wp2;exact ⟨rfl, bR, rfl⟩
     · have f15 := hd 15 (by omega) (by omega) (by kernel_rfl);clear hd;have hcc := up hb HX.out.2.2.2.1;go_wp2;exact ⟨rfl, bR, rfl⟩
     · clear hd;go_wp2;exact ⟨rfl, bR, rfl⟩
     · have f17 := hd 17 (by omega) (by omega) (by kernel_rfl);clear hd;go_wp2;exact ⟨rfl, bR, rfl⟩
     · have f18 := hd 18 (by omega) (by omega) (by kernel_rfl);clear hd;have hcc := up hb HX.out.2.2.2.2.1;go_wp2;exact ⟨rfl, bR, rfl⟩
     · clear hd;go_wp2;exact ⟨rfl, bR, rfl⟩
     · have f20 := hd 20 (by omega) (by omega) (by kernel_rfl);clear hd;go_wp2;exact ⟨rfl, bR, rfl⟩
     · have f21 := hd 21 (by omega) (by omega) (by kernel_rfl);clear hd;have hcc := up hb HX.out.2.2.2.2.2.1;go_wp2;exact ⟨rfl, bR, rfl⟩
     · clear hd;go_wp2;exact ⟨rfl, bR, rfl⟩
     · have f23 := hd 23 (by omega) (by omega) (by kernel_rfl);clear hd;go_wp2;exact ⟨rfl, bR, rfl⟩
     · have f24 := hd 24 (by omega) (by omega) (by kernel_rfl);clear hd;have hcc := up hb HX.out.2.2.2.2.2.2.1;go_wp2;exact ⟨rfl, bR, rfl⟩
     · clear hd;go_wp2;exact ⟨rfl, bR, rfl⟩
     · have f26 := hd 26 (by omega) (by omega) (by kernel_rfl);clear hd;go_wp2;exact ⟨rfl, bR, rfl⟩
     · have f27 := hd 27 (by omega) (by omega) (by kernel_rfl);clear hd;have hcc := up hb HX.out.2.2.2.2.2.2.2.1;go_wp2;exact ⟨rfl, bR, rfl⟩
     · clear hd;go_wp2;exact ⟨rfl, bR, rfl⟩
     · have f29 := hd 29 (by omega) (by omega) (by kernel_rfl);clear hd;go_wp2;exact ⟨rfl, bR, rfl⟩
     · have f30 := hd 30 (by omega) (by omega) (by kernel_rfl);clear hd;have hcc := up hb HX.out.2.2.2.2.2.2.2.2.1;go_wp2;exact ⟨rfl, bR, rfl⟩
     · clear hd;go_wp2;exact ⟨rfl, bR, rfl⟩
     · have f32 := hd 32 (by omega) (by omega) (by kernel_rfl);clear hd;go_wp2;exact ⟨rfl, bR, rfl⟩
     · have f33 := hd 33 (by omega) (by omega) (by kernel_rfl);clear hd;have hcc := up hb HX.out.2.2.2.2.2.2.2.2.2.1;go_wp2;exact ⟨rfl, bR, rfl⟩
     · clear hd;go_wp2;exact ⟨rfl, bR, rfl⟩
     · have f35 := hd 35 (by omega) (by omega) (by kernel_rfl);clear hd;go_wp2;exact ⟨rfl, bR, rfl⟩
     · have f36 := hd 36 (by omega) (by omega) (by kernel_rfl);clear hd;have hcc := up hb HX.out.2.2.2.2.2.2.2.2.2.2.1;go_wp2;exact ⟨rfl, bR, rfl⟩
     · have f22 := hd 22 (by omega) (by omega) (by kernel_rfl);have f25 := hd 25 (by omega) (by omega) (by kernel_rfl);have f28 := hd 28 (by omega) (by omega) (by kernel_rfl);have f31 := hd 31 (by omega) (by omega) (by kernel_rfl);have f34 := hd 34 (by omega) (by omega) (by kernel_rfl);have f37 := hd 37 (by omega) (by omega) (by kernel_rfl);clear hd;go_wp2;exact ⟨rfl, bR, rfl⟩
     · have f7 := hd 7 (by omega) (by omega) (by kernel_rfl);have f10 := hd 10 (by omega) (by omega) (by kernel_rfl);have f13 := hd 13 (by omega) (by omega) (by kernel_rfl);have f16 := hd 16 (by omega) (by omega) (by kernel_rfl);have f19 := hd 19 (by omega) (by omega) (by kernel_rfl);have f38 := hd 38 (by omega) (by omega) (by kernel_rfl);clear hd;go_wp2;exact ⟨rfl, bR, rfl⟩
     · have f39 := hd 39 (by omega) (by omega) (by kernel_rfl);clear hd;go_wp2;exact ⟨rfl, (bR).alloc (Nat.le_refl _) _, _, rfl, (MapKept.heap_alloc u1 _).1⟩
   · intro vf u1 hb hd;have f4 : vf 4 = bV (T k0) := hd 4 (by omega) (by omega);obtain ⟨bb, f40, hcell⟩ := hd 40 (by omega) (by omega);clear hd;simp only [fillA, fA, fB, fC, fD, fH, Nat.reduceAdd, Act.put, fE, fF, fG];generalize vf 40 = v40 at *;generalize vf 4 = v4 at *;subst f40 f4;have HU1 := hid hb;clear hb
     have HX1 := hid (show ∀ j, j < 11 → (#[.int .i64 x0, .int .i64 x1, .int .i64 x2, .int .i64 x3, .int .i64 x4, .int .i64 x5, .int .i64 x6, .int .i64 x7, .int .i64 x8, .int .i64 x9, .int .i64 x10] : Array Value)[j]? = some (bev' (addBe (T k0).be (T k0).bn [x0, x1, x2, x3, x4, x5, x6, x7, x8, x9, x10, x11, x12, x13, x14]) ((T k0).bn * 11 + j)) from fun j hj => by
      rw [bev_at _ _ _ hj];unfold addBe;rw [if_pos rfl];have : j = 0 ∨ j = 1 ∨ j = 2 ∨ j = 3 ∨ j = 4 ∨ j = 5 ∨ j = 6 ∨ j = 7 ∨ j = 8 ∨ j = 9 ∨ j = 10 := by omega
      rcases this with rfl | rfl | rfl | rfl | rfl | rfl | rfl | rfl | rfl | rfl | rfl <;> rfl)
     have HX2 := hid (show ∀ j, j < (T k0).bn * 11 → bev' (addBe (T k0).be (T k0).bn [x0, x1, x2, x3, x4, x5, x6, x7, x8, x9, x10, x11, x12, x13, x14]) j = bev' (T k0).be j from fun j hj => by
      unfold bev' addBe;rw [if_neg (by omega)])
     have HBz := hid (show B ≤ u1.heap.size from Nat.le_trans HBw.out (Nat.le_trans HB2.out.size HU1.out.size));have HOb := hid (own_below HBb.out HU1.out);refine wpList_append_at u1 B rfl (.tmp 318) (.tmp 354) 50 rfl 71 (.agg #[.int .i64 0, .int .i64 0, .int .i64 0, .int .i64 0, .int .i64 0, .int .i64 0, .int .i64 0, .int .i64 0, .int .i64 0, .int .i64 0, .int .i64 0]) 11 88 Tryz.underlying50 pz71 rfl (by decide) (by decide) _ (T k0).bn (bev' (T k0).be) rfl bb #[.int .i64 x0, .int .i64 x1, .int .i64 x2, .int .i64 x3, .int .i64 x4, .int .i64 x5, .int .i64 x6, .int .i64 x7, .int .i64 x8, .int .i64 x9, .int .i64 x10] (0, 0) rfl hcell rfl (by intro y hy; simp at hy; rcases hy with rfl | rfl | rfl | rfl | rfl | rfl | rfl | rfl | rfl | rfl | rfl <;> rfl) (bev' (addBe (T k0).be (T k0).bn [x0, x1, x2, x3, x4, x5, x6, x7, x8, x9, x10, x11, x12, x13, x14])) HX2.out HX1.out HOb.out HBz.out HBB.out ?_
     intro v' w5 hown hgrow hnew;obtain ⟨a1', c1', rfl, -, -, -⟩ := own_slice hown;have hg5 : w5.heap[g]? = some (.cells gcs 57 (0, 0)) := (hgrow.block g (by have := HGlt.out; have := HU1.out.size; omega) (fun e => HGb.out e.symm)).trans ((HU1.out.block g HGlt.out.2).trans HGC.out);have hc2 := (World.cell?_of_block (w := u0) (a := ⟨g, k0 * 14 + 2, none⟩) (hg5.trans HGC.out.symm)).trans HC2.out;have hf2 := frozen_of_row w5 g (k0 * 14 + 2) _ _ hg5;have HOW := hid hown;have HGR := hid hgrow;have HNW := hid hnew;have HG5 := hid hg5;clear hown hgrow hnew hg5 hcell;unfold bV at hc2;go_upto_region 31 with fail
     clear hc2 hf2;have hg6 := heap_set_same HG5.out (k := k0 * 14 + 2) (.slice a1' ((T k0).bn + 1) c1');have ho6 : ∀ i, i ≠ g → (w5.setCell ⟨g, k0 * 14 + 2, none⟩ (.slice a1' ((T k0).bn + 1) c1')).heap[i]? = w5.heap[i]? := fun i hi => heap_set_other _ hi
     have hs6 : (w5.setCell ⟨g, k0 * 14 + 2, none⟩ (.slice a1' ((T k0).bn + 1) c1')).heap.size = w5.heap.size := by simp [World.setCell]
     have hb6 : Below B w (w5.setCell ⟨g, k0 * 14 + 2, none⟩ (.slice a1' ((T k0).bn + 1) c1')) := (((HB2.out.mono HBw.out).trans (HU1.out.mono (Nat.le_trans HBw.out HB2.out.size))).grown HGR.out HBz.out (fun k hk => (HOb.out.lt k hk).1)).setCell (p := ⟨g, k0 * 14 + 2, none⟩) HGlt.out.1 _;generalize w5.setCell ⟨g, k0 * 14 + 2, none⟩ (.slice a1' ((T k0).bn + 1) c1') = w6 at *;have HB6 := hid hb6;have HG6 := hid hg6;have HS6x := hid (show u0.heap.size ≤ w6.heap.size by rw [hs6]; exact Nat.le_trans HU1.out.size HGR.out.size);have HK6 := hid (show ∀ i, i < u0.heap.size → (bV (T k0)).ownBlock ≠ some i → i ≠ g → w6.heap[i]? = u0.heap[i]? from fun i hi h1 h2 => (ho6 i h2).trans ((HGR.out.block i (Nat.lt_of_lt_of_le hi HU1.out.size) (fun e => h1 e.symm)).trans (HU1.out.block i hi)));have HOW6 := hid (own_kept HOW.out fun i hi => ho6 i (own_ne HOW.out HG5.out (by decide) hi))
     have HN1 := hid (show ∀ i, (Value.slice a1' ((T k0).bn + 1) c1').ownBlock = some i → (bV (T k0)).ownBlock = some i ∨ u0.heap.size ≤ i from fun i hi => by
      rcases HNW.out with h | h
      · exact .inl (h.symm.trans hi)
      · rw [h] at hi; injection hi with hi; exact .inr (by rw [← hi]; exact HU1.out.size))
     have HOk6 := hid (own_kept HBk.out fun i hi => HK6.out i (HBk.out.lt i hi).2 (fun e => own_apart HBb.out HBk.out (by decide) e hi) (fun e => HGk.out (e ▸ hi)))
     have HC36 := hid (show w6.cell? ⟨g, k0 * 14 + 3, none⟩ = some (kV (T k0)) from cell_box HG6.out (by
      rw [Array.getElem?_setIfInBounds_ne (by omega)];have h1 := HC3.out;simp only [World.cell?, HGC.out] at h1;exact h1))
     have hz2 := (HK6.out z (heap_lt HD2.out.hz) HZb.out (fun e => HGZ.out e.symm)).trans HD2.out.hz;have HZ6 := hid hz2;have HX6 := hid (show ∀ j y, u0.cell? ⟨b2, j, none⟩ = some y → w6.cell? ⟨b2, j, none⟩ = some y from fun j y h => (World.cell?_of_block (w := u0) (a := ⟨b2, j, none⟩) (HK6.out b2 (World.block_lt_of_cell? _ _ h) HB2b.out HB2g.out)).trans h);clear hb6 hg6 ho6 hs6 hz2 HU1 HBz HOb HOW HGR HNW HG5 HX1 HX2
     refine wp_region_peelF 1 19 (fun i v u => match i with
      | 1 => v = .pointer (some ⟨g, k0 * 14, none⟩)
      | 2 => v = .pointer (some ⟨g, k0 * 14, none⟩)
      | 3 => v = .pointer (some ⟨g, k0 * 14 + 3, none⟩)
      | 4 => v = kV (T k0)
      | 5 => v = .slice (some ⟨b2, 0, none⟩) 15 15
      | 6 => v = .pointer (some ⟨b2, 11, none⟩)
      | 7 => v = .int .i64 x11
      | 8 => v = .slice (some ⟨b2, 0, none⟩) 15 15
      | 9 => v = .pointer (some ⟨b2, 12, none⟩)
      | 10 => v = .int .i64 x12
      | 11 => v = .slice (some ⟨b2, 0, none⟩) 15 15
      | 12 => v = .pointer (some ⟨b2, 13, none⟩)
      | 13 => v = .int .i64 x13
      | 14 => v = .slice (some ⟨b2, 0, none⟩) 15 15
      | 15 => v = .pointer (some ⟨b2, 14, none⟩)
      | 16 => v = .int .i64 x14
      | 17 => v = .agg #[.int .i64 x11, .int .i64 x12, .int .i64 x13, .int .i64 x14]
      | 18 => ∃ bb, v = .slice (some ⟨bb, 0, none⟩) 1 1 ∧ u.heap[bb]? = some (.cells #[.int .i64 x11, .int .i64 x12, .int .i64 x13, .int .i64 x14] 74 (0, 0))
      | _ => True) (by kernel_rfl) (by kernel_rfl) ⟨.pointer (some ⟨g, k0 * 14, none⟩), Or.inl ⟨rfl, fun _ => rfl⟩, rfl⟩ (fun _ _ d _ _ h => by cases d <;> exact h) ?_ ?_ ?_
     · intro i v w1 u0 hb h
       match i with
       | 1 => exact h
       | 2 => exact h
       | 3 => exact h
       | 4 => exact h
       | 5 => exact h
       | 6 => exact h
       | 7 => exact h
       | 8 => exact h
       | 9 => exact h
       | 10 => exact h
       | 11 => exact h
       | 12 => exact h
       | 13 => exact h
       | 14 => exact h
       | 15 => exact h
       | 16 => exact h
       | 17 => exact h
       | 18 =>
         obtain ⟨bb, e1, e2⟩ := h;exact ⟨bb, e1, (hb.block bb (heap_lt e2)).trans e2⟩
       | 0 => exact h
       | k + 19 => exact h
     · intro i o hp hi ho vf u1 hb hd;have hi' : i = 1 ∨ i = 2 ∨ i = 3 ∨ i = 4 ∨ i = 5 ∨ i = 6 ∨ i = 7 ∨ i = 8 ∨ i = 9 ∨ i = 10 ∨ i = 11 ∨ i = 12 ∨ i = 13 ∨ i = 14 ∨ i = 15 ∨ i = 16 ∨ i = 17 ∨ i = 18 := by omega
       rcases hi' with rfl | rfl | rfl | rfl | rfl | rfl | rfl | rfl | rfl | rfl | rfl | rfl | rfl | rfl | rfl | rfl | rfl | rfl
       all_goals obtain rfl := oI ho
       all_goals simp only [fillA, fA, fB, fC, fD, fH, Nat.reduceAdd]
       · clear hd;go_wp2;exact ⟨rfl, bR, rfl⟩
       · have f1 := hd 1 (by omega) (by omega) (by kernel_rfl);clear hd;go_wp2;exact ⟨rfl, bR, rfl⟩
       · have f2 := hd 2 (by omega) (by omega) (by kernel_rfl);clear hd;go_wp2;exact ⟨rfl, bR, rfl⟩
       · have f3 := hd 3 (by omega) (by omega) (by kernel_rfl);clear hd;have hcc := up hb HC36.out;go_wp2;exact ⟨rfl, bR, rfl⟩
       · clear hd;go_wp2;exact ⟨rfl, bR, rfl⟩
       · have f5 := hd 5 (by omega) (by omega) (by kernel_rfl);clear hd;go_wp2;exact ⟨rfl, bR, rfl⟩
       · have f6 := hd 6 (by omega) (by omega) (by kernel_rfl);clear hd;have hcc := up hb (HX6.out 11 _ HX.out.2.2.2.2.2.2.2.2.2.2.2.1);go_wp2;exact ⟨rfl, bR, rfl⟩
       · clear hd;go_wp2;exact ⟨rfl, bR, rfl⟩
       · have f8 := hd 8 (by omega) (by omega) (by kernel_rfl);clear hd;go_wp2;exact ⟨rfl, bR, rfl⟩
       · have f9 := hd 9 (by omega) (by omega) (by kernel_rfl);clear hd;have hcc := up hb (HX6.out 12 _ HX.out.2.2.2.2.2.2.2.2.2.2.2.2.1);go_wp2;exact ⟨rfl, bR, rfl⟩
       · clear hd;go_wp2;exact ⟨rfl, bR, rfl⟩
       · have f11 := hd 11 (by omega) (by omega) (by kernel_rfl);clear hd;go_wp2;exact ⟨rfl, bR, rfl⟩
       · have f12 := hd 12 (by omega) (by omega) (by kernel_rfl);clear hd;have hcc := up hb (HX6.out 13 _ HX.out.2.2.2.2.2.2.2.2.2.2.2.2.2.1);go_wp2;exact ⟨rfl, bR, rfl⟩
       · clear hd;go_wp2;exact ⟨rfl, bR, rfl⟩
       · have f14 := hd 14 (by omega) (by omega) (by kernel_rfl);clear hd;go_wp2;exact ⟨rfl, bR, rfl⟩
       · have f15 := hd 15 (by omega) (by omega) (by kernel_rfl);clear hd;have hcc := up hb (HX6.out 14 _ HX.out.2.2.2.2.2.2.2.2.2.2.2.2.2.2);go_wp2;exact ⟨rfl, bR, rfl⟩
       · have f7 := hd 7 (by omega) (by omega) (by kernel_rfl);have f10 := hd 10 (by omega) (by omega) (by kernel_rfl);have f13 := hd 13 (by omega) (by omega) (by kernel_rfl);have f16 := hd 16 (by omega) (by omega) (by kernel_rfl);clear hd;go_wp2;exact ⟨rfl, bR, rfl⟩
       · have f17 := hd 17 (by omega) (by omega) (by kernel_rfl);clear hd;go_wp2;exact ⟨rfl, (bR).alloc (Nat.le_refl _) _, _, rfl, (MapKept.heap_alloc u1 _).1⟩
     · intro vf u1 hb hd;have f4 : vf 4 = kV (T k0) := hd 4 (by omega) (by omega);obtain ⟨bb, f18, hcell⟩ := hd 18 (by omega) (by omega);clear hd;simp only [fillA, fA, fB, fC, fD, fH, Nat.reduceAdd, Act.put, fE, fF, fG];generalize vf 18 = v18 at *;generalize vf 4 = v4 at *;subst f18 f4;have HU1 := hid hb;clear hb
       have HX3 := hid (show ∀ j, j < 4 → (#[.int .i64 x11, .int .i64 x12, .int .i64 x13, .int .i64 x14] : Array Value)[j]? = some (buv (addI (T k0).P (T k0).bn x11) (addI (T k0).R (T k0).bn x12) (addI (T k0).M (T k0).bn x13) (addI (T k0).T (T k0).bn x14) ((T k0).bn * 4 + j)) from fun j hj => by
        rw [buv_at _ _ _ _ _ _ hj];unfold addI;rw [if_pos rfl, if_pos rfl, if_pos rfl, if_pos rfl];have : j = 0 ∨ j = 1 ∨ j = 2 ∨ j = 3 := by omega
        rcases this with rfl | rfl | rfl | rfl <;> rfl)
       have HX4' := hid (show ∀ j, j < (T k0).bn * 4 → buv (addI (T k0).P (T k0).bn x11) (addI (T k0).R (T k0).bn x12) (addI (T k0).M (T k0).bn x13) (addI (T k0).T (T k0).bn x14) j = buv (T k0).P (T k0).R (T k0).M (T k0).T j from fun j hj => by
        unfold buv addI;rw [if_neg (by omega), if_neg (by omega), if_neg (by omega), if_neg (by omega)])
       have HBz := hid (show B ≤ u1.heap.size from Nat.le_trans HBw.out (Nat.le_trans HB6.out.size HU1.out.size));have hok := own_below HOk6.out HU1.out;rw [HEq.out] at hok;have HOk := hid hok;clear hok;refine wpList_append_at u1 B rfl (.tmp 362) (.tmp 376) 51 rfl 74 (.agg #[.int .i64 0, .int .i64 0, .int .i64 0, .int .i64 0]) 4 32 Tryz.underlying51 pz74 rfl (by decide) (by decide) _ (T k0).bn (buv (T k0).P (T k0).R (T k0).M (T k0).T) rfl bb #[.int .i64 x11, .int .i64 x12, .int .i64 x13, .int .i64 x14] (0, 0) rfl hcell rfl (by intro y hy; simp at hy; rcases hy with rfl | rfl | rfl | rfl <;> rfl) (buv (addI (T k0).P (T k0).bn x11) (addI (T k0).R (T k0).bn x12) (addI (T k0).M (T k0).bn x13) (addI (T k0).T (T k0).bn x14)) HX4'.out HX3.out HOk.out HBz.out HBB.out ?_
       intro v' w7 hown hgrow hnew;obtain ⟨a2', c2', rfl, -, -, -⟩ := own_slice hown;have hg7 := (hgrow.block g (by have := heap_lt HG6.out; have := HU1.out.size; omega) (fun e => HGk.out e.symm)).trans ((HU1.out.block g (heap_lt HG6.out)).trans HG6.out);have hc3 := (World.cell?_of_block (w := w6) (a := ⟨g, k0 * 14 + 3, none⟩) (hg7.trans HG6.out.symm)).trans HC36.out;have hf3 := frozen_of_row w7 g (k0 * 14 + 3) _ _ hg7;have hz7 := (hgrow.block z (by have := heap_lt HZ6.out; have := HU1.out.size; omega) (fun e => HZk.out e.symm)).trans ((HU1.out.block z (heap_lt HZ6.out)).trans HZ6.out);have HZ7 := hid hz7;have HOW := hid hown;have HGR := hid hgrow;have HNW := hid hnew;have HG7 := hid hg7;clear hown hgrow hnew hg7 hz7 hcell;unfold kV at hc3;go_upto_region 37 with fail
       clear hc3 hf3;have hg8 := heap_set_same HG7.out (k := k0 * 14 + 3) (.slice a2' ((T k0).bn + 1) c2');have ho8 : ∀ i, i ≠ g → (w7.setCell ⟨g, k0 * 14 + 3, none⟩ (.slice a2' ((T k0).bn + 1) c2')).heap[i]? = w7.heap[i]? := fun i hi => heap_set_other _ hi
       have hs8 : (w7.setCell ⟨g, k0 * 14 + 3, none⟩ (.slice a2' ((T k0).bn + 1) c2')).heap.size = w7.heap.size := by simp [World.setCell]
       have hbq : Below B w (w7.setCell ⟨g, k0 * 14 + 3, none⟩ (.slice a2' ((T k0).bn + 1) c2')) := ((HB6.out.trans (HU1.out.mono (Nat.le_trans HBw.out HB6.out.size))).grown HGR.out HBz.out (fun k hk => (HOk.out.lt k hk).1)).setCell (p := ⟨g, k0 * 14 + 3, none⟩) HGlt.out.1 _;generalize w7.setCell ⟨g, k0 * 14 + 3, none⟩ (.slice a2' ((T k0).bn + 1) c2') = wq at *;have k7 : ∀ i, i < w6.heap.size → (kV (T k0)).ownBlock ≠ some i → w7.heap[i]? = w6.heap[i]? := fun i hi h1 => (HGR.out.block i (Nat.lt_of_lt_of_le hi HU1.out.size) (fun e => h1 e.symm)).trans (HU1.out.block i hi)
       have hdq := HD2.out.addB2 (u := wq) HK0.out HTA.out (a1 := a1') (c1 := c1') (a2 := a2') (c2 := c2') (be := addBe (T k0).be (T k0).bn [x0, x1, x2, x3, x4, x5, x6, x7, x8, x9, x10, x11, x12, x13, x14]) (P := addI (T k0).P (T k0).bn x11) (R := addI (T k0).R (T k0).bn x12) (M := addI (T k0).M (T k0).bn x13) (T2 := addI (T k0).T (T k0).bn x14) HGC.out hg8
        (by rw [hs8]; exact Nat.le_trans HS6x.out (Nat.le_trans HU1.out.size HGR.out.size))
        (fun i hi h1 h2 h3 => (ho8 i h3).trans ((k7 i (Nat.lt_of_lt_of_le hi HS6x.out) h2).trans (HK6.out i hi h1 h3)))
        (own_kept HOW6.out fun i hi => (ho8 i (own_ne HOW6.out HG6.out (by decide) hi)).trans (k7 i (HOW6.out.lt i hi).2 (fun e => own_apart HOk6.out HOW6.out (by decide) e hi)))
        (own_kept HOW.out fun i hi => ho8 i (own_ne HOW.out HG7.out (by decide) hi))
        HN1.out (fun i hi => by
         rcases HNW.out with h | h
         · exact .inl (h.symm.trans hi)
         · rw [h] at hi; injection hi with hi; exact .inr (by rw [← hi]; exact Nat.le_trans HS6x.out HU1.out.size))
       have HDD := hid ((docOf_addB c X T n Q k0 HK0.out a1' c1' a2' c2' (ns := [x0, x1, x2, x3, x4, x5, x6, x7, x8, x9, x10, x11, x12, x13, x14]) rfl).trans HH2.out);have hdq : DocR wq B z 5 c X (fun k => if k = k0 then teP (T k0) a1' c1' a2' c2' [x0, x1, x2, x3, x4, x5, x6, x7, x8, x9, x10, x11, x12, x13, x14] else T k) lv n Q := hdq;clear hg8 ho8 hs8 k7 HX3 HX4' HBz HOk HU1 HOW HGR HNW HG7 HZ7 HB6 HG6 HS6x HK6 HOW6 HN1 HOk6 HC36 HZ6 HX6 HBb HBk HEq HGb HGk HGC HGZ HB2b HB2g HZb HZk HC2 HC3 HX HD2 HGlt;generalize (fun k => if k = k0 then teP (T k0) a1' c1' a2' c2' [x0, x1, x2, x3, x4, x5, x6, x7, x8, x9, x10, x11, x12, x13, x14] else T k) = T2 at *;have HDq := hid hdq;have HBq := hid hbq;clear hdq hbq;have HNN := hid (numN_of (c := c) (X := X) (T := T2) (n := n) (Q := Q) (by rw [HDD.out]; exact HMM2.out.n) (by rw [HDD.out]; exact HMM2.out.z) HDq.out.eq);have HLn := hid (show (textS (docOf c X T2 n Q)).length ≤ 1000000 by rw [HDD.out]; have := HMM2.out.l; omega);clear HH2;have HX4 := hid (textS_len D2);have HSq := hid (show B ≤ wq.heap.size from Nat.le_trans HBw.out HBq.out.size);obtain ⟨a9, cc9, hlv9, hncc9, hnm9, htr9⟩ := HDq.out.trR;have HK24 := hid (fun (u : World) (hb : Below wq.heap.size wq u) => HT.out c X T2 a9 n cc9 Q u (HDq.out.cfIn.mono hb) (htr9.mono hb) hnm9 HNN.out HLn.out);rw [hlv9] at HDq;clear htr9 hlv9;rw [HDD.out] at HK24;unfold cfv at HK24
       refine wp_region_peelF 0 8 (fun i v u => match i with
        | 0 => v = .pointer (some ⟨z, 0, none⟩)
        | 1 => v = .pointer (some ⟨z, 0, none⟩)
        | 2 => v = .pointer (some ⟨z, 1, none⟩)
        | 3 => v = .agg (cfs c).toArray
        | 4 => v = .pointer (some ⟨z, 0, none⟩)
        | 5 => v = .pointer (some ⟨z, 0, none⟩)
        | 6 => v = .pointer (some ⟨z, 21, none⟩)
        | 7 => v = .slice a9 n cc9
        | _ => True) (by kernel_rfl) (by kernel_rfl) rfl (fun _ _ d _ _ h => by cases d <;> exact h) ?_ ?_ ?_
       · intro i v w1 u0 hb h
         match i with
         | 0 => exact h
         | 1 => exact h
         | 2 => exact h
         | 3 => exact h
         | 4 => exact h
         | 5 => exact h
         | 6 => exact h
         | 7 => exact h
         | k + 8 => exact h
       · intro i o hp hi ho vf u1 hb hd;have hi' : i = 0 ∨ i = 1 ∨ i = 2 ∨ i = 3 ∨ i = 4 ∨ i = 5 ∨ i = 6 ∨ i = 7 := by omega
         rcases hi' with rfl | rfl | rfl | rfl | rfl | rfl | rfl | rfl
         all_goals obtain rfl := oI ho
         all_goals simp only [fillA, fA, fB, fC, fD, fH, Nat.reduceAdd]
         · clear hd;go_wp2;exact ⟨rfl, bR, rfl⟩
         · have f0 := hd 0 (by omega) (by omega) (by kernel_rfl);clear hd;go_wp2;exact ⟨rfl, bR, rfl⟩
         · have f1 := hd 1 (by omega) (by omega) (by kernel_rfl);clear hd;go_wp2;exact ⟨rfl, bR, rfl⟩
         · have f2 : vf 2 = .pointer (some ⟨z, 1, none⟩) := hd 2 (by omega) (by omega) (by kernel_rfl);clear hd;have hrg := range_docR ((hb.block z (heap_lt HDq.out.hz)).trans HDq.out.hz);simp only [Act.put, fE, fF, fG];generalize vf 2 = v2 at *;subst f2;refine wpList_load_mid rfl 37 (.tmp 428) rfl z 1 rfl (cfs c) _ hrg Tryz.underlying37 rfl (by kernel_rfl) ?_
           go_wp2;exact ⟨rfl, bR, rfl⟩
         · clear hd;go_wp2;exact ⟨rfl, bR, rfl⟩
         · have f4 := hd 4 (by omega) (by omega) (by kernel_rfl);clear hd;go_wp2;exact ⟨rfl, bR, rfl⟩
         · have f5 := hd 5 (by omega) (by omega) (by kernel_rfl);clear hd;go_wp2;exact ⟨rfl, bR, rfl⟩
         · have f6 := hd 6 (by omega) (by omega) (by kernel_rfl);clear hd;have hcc := cell_box ((hb.block z (heap_lt HDq.out.hz)).trans HDq.out.hz) (k := 21) (v := .slice a9 n cc9) rfl;go_wp2;exact ⟨rfl, bR, rfl⟩
       · intro vf u1 hb hd;have f3 : vf 3 = .agg (cfs c).toArray := hd 3 (by omega) (by omega);have f7 : vf 7 = .slice a9 n cc9 := hd 7 (by omega) (by omega);clear hd;simp only [fillA, fA, fB, fC, fD, fH, Nat.reduceAdd, Act.put, fE, fF, fG];generalize vf 3 = v3 at *;generalize vf 7 = v7 at *;subst f3 f7;have HBu := hid hb;clear hb;have KK := hid (HK24.out u1 HBu.out);clear HK24;go_wp2_with (go_at_call 24; refine KK.out.mono ?_; rintro e w6 ⟨v, rfl, ho6, hb6⟩; obtain ⟨a6, c6, b6, rfl, hc6, hp6, hs6⟩ := ho6.slice; have HP6 := hid hp6; have HS6 := hid hs6; have HB6 := hid (bthen' HBu.out hb6); clear hb6 ho6 hs6 hp6; refine Hid.out ?_);refine hid ?_
         have hz6 := (HB6.out.block z (heap_lt HDq.out.hz)).trans HDq.out.hz;have hc0 := cell_box hz6 (k := 0) (v := .int .i64 5) rfl;have HR6 := hid (show Below B w w6 from bthen HBq.out HB6.out HSq.out);have HD6 := hid (HDq.out.mono HB6.out);clear hz6 KK;have h4 := HX4.out;have HRF := hid (refOk_tail (D := D2) (s := L) (word := wBearer) (by decide) (p := 5) (by decide));have hln := HLn.out;rw [HDD.out] at hln;obtain ⟨ly, hly, hly3⟩ : ∃ ly, (textS D2).length = ly + 1 ∧ 3 ≤ ly := ⟨(textS D2).length - 1, by omega, by omega⟩
         rw [hly] at hln h4 HRF HP6 hc6 ⊢;rw [show max (ly + 1 - 1) 3 = ly by omega] at HRF;obtain ⟨e9, -, -⟩ := HP6.out (by omega);subst e9;have hcx := HS6.out ly (by rw [hly]; omega);rw [Nat.zero_add] at hcx;clear HLn HX4 hly HP6 HS6;have hmx : max (ly : Int) 3 = ly := by omega
         generalize (textS D2).getD ly [] = x at *;by_cases hq : x = L
         · have hq2 : (x == L) = true := by simp [hq]
           have e2 := HRF.out.trans (decide_eq_true hq);clear hq HRF;go_wp2;go_ret
           have eo := HO.out;rw [e2, if_pos rfl] at eo;subst eo;exact ⟨rfl, ⟨_, _, _, _, _, _, HD6.out, HDD.out⟩, HR6.out⟩
         · have hq2 : (x == L) = false := by simp [hq]
           have e2 := HRF.out.trans (decide_eq_false hq);clear hq HRF;go_wp2;go_ret
           have eo := HO.out;rw [e2, if_neg (by decide)] at eo;subst eo;exact ⟨rfl, HR6.out⟩
end
end Go.Proofs.YtgflfdnajchjaaaGreatDoor
