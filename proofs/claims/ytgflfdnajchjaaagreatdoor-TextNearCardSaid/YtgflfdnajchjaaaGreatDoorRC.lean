import Derived.Test.YtgflfdnajchjaaaGreatDoorPZ
set_option linter.unusedVariables false
set_option linter.unusedSimpArgs false
namespace Go.Proofs.YtgflfdnajchjaaaGreatDoor
open Go.Lib (hid)
open Go.RowKit
section
open Go.RowKit Go.Sort
open Tm
attribute [local go_sem] gcell bs_tl
set_option maxRecDepth 100000 in
set_option maxHeartbeats 64000000 in
theorem read_terminalS (st : Int) (hst : st = 4 ∨ st = 5) (HT0 : Text24) (L : List UInt8) (hs : (bs L).size ≤ 900000) (w : World) (B z : Nat) (c : Cf) (X : Nat → Ch.Fd) (T : Nat → Te) (lv : Value) (n : Nat) (Q : Nat → Tr) (D : DocR w B z st c X T lv n Q) (hBw : B ≤ w.heap.size) (hW : (spl 32 L).headD [] = wTerminal)
 (D2 : DocS) (h2 : { docOf c X T n Q with terms := (docOf c X T n Q).terms ++ [⟨refNums L 12, []⟩] } = D2) (m : Nat) (HM : DocM D2 m) (hm : m ≤ 900000) (o : Option (Nat × DocS)) (ho : o = if refOk wTerminal 5 D2 L = true then some (5, D2) else none) :
 Calls Tryz.prog 39 #[.pointer (some ⟨z, 0, none⟩), .string (bs L)] w (RdPost w B z o) := by
 rcases hst with rfl | rfl
 all_goals
  have HO := hid ho;clear ho;have HT := hid HT0;have HH2 := hid h2;have HMM2 := hid HM;clear HT0 h2 HM;have KC := hid (cut38 (bs L) hs 32 w);rw [bs_toList] at KC;have HW := hid (head_of (spl_ne 32 L) hW);have HLL := hid hs;generalize hMM : spl 32 L = M at *;have HMM := hid hMM;clear hW hMM;have HD := hid D;have HBw := hid hBw;have hc := cell_box D.hz (k := 0) (v := .int .i64 _) rfl;clear D hBw;go_enter Tryz.func39, Tryz.ntmps39;go_wp2_with (go_at_call 38; refine KC.out.mono ?_; rintro e w1 ⟨v, rfl, ho1, hb1⟩; obtain ⟨a1, c1, b1, rfl, hc1, hp1, hs1⟩ := ho1.slice; obtain ⟨e9, -, -⟩ := hp1 HW.out.2; subst e9; have hc2 := hs1 0 HW.out.2; rw [Nat.zero_add, HW.out.1] at hc2; have hc3 := up hb1 hc; have hl1 := HW.out.2; have HB1 := hid hb1; clear hb1 ho1 hs1 hp1 hc; refine Hid.out ?_);refine hid ?_
  have HD1 := hid (HD.out.mono HB1.out);clear HD KC;unfold wTerminal at hc2;have KN := hid (nums60 (bs L) hs 12 (by omega));rw [bs_toList] at KN;have HR3 := hid (refNums_len L 12);generalize refNums L 12 = ns at *;go_wp2_with (go_at_call 60; refine (KN.out _).mono ?_; rintro e w2 ⟨b2, rfl, hge2, hn2, hb2⟩; have HB2 := hid (bthen' HB1.out hb2); have HN2 := hid hn2; have HG2 := hid hge2; have HD2 := hid (HD1.out.mono hb2); clear hb2 hn2 hge2; refine Hid.out ?_);refine hid ?_
  clear hc2 hc3 KN HD1
  obtain ⟨x0, x1, x2, x3, x4, x5, x6, x7, x8, x9, x10, x11, rfl⟩ : ∃ x0 x1 x2 x3 x4 x5 x6 x7 x8 x9 x10 x11, ns = [x0, x1, x2, x3, x4, x5, x6, x7, x8, x9, x10, x11] := by
   have := HR3.out
   match ns, this with
   | [x0, x1, x2, x3, x4, x5, x6, x7, x8, x9, x10, x11], _ => exact ⟨_, _, _, _, _, _, _, _, _, _, _, _, rfl⟩
  have hx0 := HN2.out 0 (by simp);have hx1 := HN2.out 1 (by simp);have hx2 := HN2.out 2 (by simp);have hx3 := HN2.out 3 (by simp);have hx4 := HN2.out 4 (by simp);have hx5 := HN2.out 5 (by simp);have hx6 := HN2.out 6 (by simp);have hx7 := HN2.out 7 (by simp);have hx8 := HN2.out 8 (by simp);have hx9 := HN2.out 9 (by simp);have hx10 := HN2.out 10 (by simp);have hx11 := HN2.out 11 (by simp);clear HN2;go_upto_region 25 with fail
  refine wp_region_peelF 1 46 (fun i v u => match i with
   | 1 => v = .pointer (some ⟨z, 0, none⟩)
   | 2 => v = .pointer (some ⟨z, 0, none⟩)
   | 3 => v = .pointer (some ⟨z, 1, none⟩)
   | 4 => v = .pointer (some ⟨z, 20, none⟩)
   | 5 => v = .slice c.ta c.tn c.tc
   | 6 => v = .slice (some ⟨b2, 0, none⟩) 12 12
   | 7 => v = .pointer (some ⟨b2, 0, none⟩)
   | 8 => v = .int .i64 x0
   | 9 => v = .slice (some ⟨b2, 0, none⟩) 12 12
   | 10 => v = .pointer (some ⟨b2, 1, none⟩)
   | 11 => v = .int .i64 x1
   | 12 => v = .slice (some ⟨b2, 0, none⟩) 12 12
   | 13 => v = .pointer (some ⟨b2, 2, none⟩)
   | 14 => v = .int .i64 x2
   | 15 => v = .slice (some ⟨b2, 0, none⟩) 12 12
   | 16 => v = .pointer (some ⟨b2, 3, none⟩)
   | 17 => v = .int .i64 x3
   | 18 => v = .slice (some ⟨b2, 0, none⟩) 12 12
   | 19 => v = .pointer (some ⟨b2, 4, none⟩)
   | 20 => v = .int .i64 x4
   | 21 => v = .slice (some ⟨b2, 0, none⟩) 12 12
   | 22 => v = .pointer (some ⟨b2, 5, none⟩)
   | 23 => v = .int .i64 x5
   | 24 => v = .agg #[.int .i64 x3, .int .i64 x4, .int .i64 x5]
   | 25 => v = .slice (some ⟨b2, 0, none⟩) 12 12
   | 26 => v = .pointer (some ⟨b2, 6, none⟩)
   | 27 => v = .int .i64 x6
   | 28 => v = .slice (some ⟨b2, 0, none⟩) 12 12
   | 29 => v = .pointer (some ⟨b2, 7, none⟩)
   | 30 => v = .int .i64 x7
   | 31 => v = .slice (some ⟨b2, 0, none⟩) 12 12
   | 32 => v = .pointer (some ⟨b2, 8, none⟩)
   | 33 => v = .int .i64 x8
   | 34 => v = .slice (some ⟨b2, 0, none⟩) 12 12
   | 35 => v = .pointer (some ⟨b2, 9, none⟩)
   | 36 => v = .int .i64 x9
   | 37 => v = .slice (some ⟨b2, 0, none⟩) 12 12
   | 38 => v = .pointer (some ⟨b2, 10, none⟩)
   | 39 => v = .int .i64 x10
   | 40 => v = .slice (some ⟨b2, 0, none⟩) 12 12
   | 41 => v = .pointer (some ⟨b2, 11, none⟩)
   | 42 => v = .int .i64 x11
   | 43 => v = .agg #[.int .i64 x6, .int .i64 x7, .int .i64 x8, .int .i64 x9, .int .i64 x10, .int .i64 x11]
   | 44 => v = .agg #[.int .i64 x0, .int .i64 x1, .slice none 0 0, .slice none 0 0, .int .i64 x3, .int .i64 x4, .int .i64 x5, .int .i64 x6, .int .i64 x7, .int .i64 x8, .int .i64 x9, .int .i64 x10, .int .i64 x11, .int .i64 x2]
   | 45 => ∃ bb, v = .slice (some ⟨bb, 0, none⟩) 1 1 ∧ u.heap[bb]? = some (.cells #[.int .i64 x0, .int .i64 x1, .slice none 0 0, .slice none 0 0, .int .i64 x3, .int .i64 x4, .int .i64 x5, .int .i64 x6, .int .i64 x7, .int .i64 x8, .int .i64 x9, .int .i64 x10, .int .i64 x11, .int .i64 x2] 57 (0, 0))
   | _ => True) (by kernel_rfl) (by kernel_rfl) ⟨.pointer (some ⟨z, 0, none⟩), Or.inl ⟨rfl, fun _ => rfl⟩, rfl⟩ (fun _ _ d _ _ h => by cases d <;> exact h) ?_ ?_ ?_
  · intro i v w1 w2 hb h
    match i with
    | 1 => exact h
    | 2 => exact h
    | 3 => exact h
    | 4 => exact h
    | 5 => exact h
    | 6 => exact h
    | 7 => exact h
    | 8 => exact h
    | 9 => exact h
    | 10 => exact h
    | 11 => exact h
    | 12 => exact h
    | 13 => exact h
    | 14 => exact h
    | 15 => exact h
    | 16 => exact h
    | 17 => exact h
    | 18 => exact h
    | 19 => exact h
    | 20 => exact h
    | 21 => exact h
    | 22 => exact h
    | 23 => exact h
    | 24 => exact h
    | 25 => exact h
    | 26 => exact h
    | 27 => exact h
    | 28 => exact h
    | 29 => exact h
    | 30 => exact h
    | 31 => exact h
    | 32 => exact h
    | 33 => exact h
    | 34 => exact h
    | 35 => exact h
    | 36 => exact h
    | 37 => exact h
    | 38 => exact h
    | 39 => exact h
    | 40 => exact h
    | 41 => exact h
    | 42 => exact h
    | 43 => exact h
    | 44 => exact h
    | 45 =>
      obtain ⟨bb, e1, e2⟩ := h;exact ⟨bb, e1, (hb.block bb (heap_lt e2)).trans e2⟩
    | 0 => exact h
    | k + 46 => exact h
  · intro i o hp hi ho vf u1 hb hd;have hi' : i = 1 ∨ i = 2 ∨ i = 3 ∨ i = 4 ∨ i = 5 ∨ i = 6 ∨ i = 7 ∨ i = 8 ∨ i = 9 ∨ i = 10 ∨ i = 11 ∨ i = 12 ∨ i = 13 ∨ i = 14 ∨ i = 15 ∨ i = 16 ∨ i = 17 ∨ i = 18 ∨ i = 19 ∨ i = 20 ∨ i = 21 ∨ i = 22 ∨ i = 23 ∨ i = 24 ∨ i = 25 ∨ i = 26 ∨ i = 27 ∨ i = 28 ∨ i = 29 ∨ i = 30 ∨ i = 31 ∨ i = 32 ∨ i = 33 ∨ i = 34 ∨ i = 35 ∨ i = 36 ∨ i = 37 ∨ i = 38 ∨ i = 39 ∨ i = 40 ∨ i = 41 ∨ i = 42 ∨ i = 43 ∨ i = 44 ∨ i = 45 := by omega
    rcases hi' with rfl | rfl | rfl | rfl | rfl | rfl | rfl | rfl | rfl | rfl | rfl | rfl | rfl | rfl | rfl | rfl | rfl | rfl | rfl | rfl | rfl | rfl | rfl | rfl | rfl | rfl | rfl | rfl | rfl | rfl | rfl | rfl | rfl | rfl | rfl | rfl | rfl | rfl | rfl | rfl | rfl | rfl | rfl | rfl | rfl
    all_goals obtain rfl := oI ho
    all_goals simp only [fillA, fA, fB, fC, fD, fH, Nat.reduceAdd]
    · clear hd;go_wp2;exact ⟨rfl, bR, rfl⟩
    · have f1 := hd 1 (by omega) (by omega) (by kernel_rfl);clear hd;go_wp2;exact ⟨rfl, bR, rfl⟩
    · have f2 := hd 2 (by omega) (by omega) (by kernel_rfl);clear hd;go_wp2;exact ⟨rfl, bR, rfl⟩
    · have f3 := hd 3 (by omega) (by omega) (by kernel_rfl);clear hd;go_wp2;exact ⟨rfl, bR, rfl⟩
    · have f4 := hd 4 (by omega) (by omega) (by kernel_rfl);clear hd;have hcc := cell_box (HD2.out.mono hb).hz (k := 20) (v := .slice c.ta c.tn c.tc) rfl;go_wp2;exact ⟨rfl, bR, rfl⟩
    · clear hd;go_wp2;exact ⟨rfl, bR, rfl⟩
    · have f6 := hd 6 (by omega) (by omega) (by kernel_rfl);clear hd;go_wp2;exact ⟨rfl, bR, rfl⟩
    · have f7 := hd 7 (by omega) (by omega) (by kernel_rfl);clear hd;have hcc := up hb hx0;go_wp2;exact ⟨rfl, bR, rfl⟩
    · clear hd;go_wp2;exact ⟨rfl, bR, rfl⟩
    · have f9 := hd 9 (by omega) (by omega) (by kernel_rfl);clear hd;go_wp2;exact ⟨rfl, bR, rfl⟩
    · have f10 := hd 10 (by omega) (by omega) (by kernel_rfl);clear hd;have hcc := up hb hx1;go_wp2;exact ⟨rfl, bR, rfl⟩
    · clear hd;go_wp2;exact ⟨rfl, bR, rfl⟩
    · have f12 := hd 12 (by omega) (by omega) (by kernel_rfl);clear hd;go_wp2;exact ⟨rfl, bR, rfl⟩
    · have f13 := hd 13 (by omega) (by omega) (by kernel_rfl);clear hd;have hcc := up hb hx2;go_wp2;exact ⟨rfl, bR, rfl⟩
    · clear hd;go_wp2;exact ⟨rfl, bR, rfl⟩
    · have f15 := hd 15 (by omega) (by omega) (by kernel_rfl);clear hd;go_wp2;exact ⟨rfl, bR, rfl⟩
    · have f16 := hd 16 (by omega) (by omega) (by kernel_rfl);clear hd;have hcc := up hb hx3;go_wp2;exact ⟨rfl, bR, rfl⟩
    · clear hd;go_wp2;exact ⟨rfl, bR, rfl⟩
    · have f18 := hd 18 (by omega) (by omega) (by kernel_rfl);clear hd;go_wp2;exact ⟨rfl, bR, rfl⟩
    · have f19 := hd 19 (by omega) (by omega) (by kernel_rfl);clear hd;have hcc := up hb hx4;go_wp2;exact ⟨rfl, bR, rfl⟩
    · clear hd;go_wp2;exact ⟨rfl, bR, rfl⟩
    · have f21 := hd 21 (by omega) (by omega) (by kernel_rfl);clear hd;go_wp2;exact ⟨rfl, bR, rfl⟩
    · have f22 := hd 22 (by omega) (by omega) (by kernel_rfl);clear hd;have hcc := up hb hx5;go_wp2;exact ⟨rfl, bR, rfl⟩
    · have f17 := hd 17 (by omega) (by omega) (by kernel_rfl);have f20 := hd 20 (by omega) (by omega) (by kernel_rfl);have f23 := hd 23 (by omega) (by omega) (by kernel_rfl);clear hd;go_wp2;exact ⟨rfl, bR, rfl⟩
    · clear hd;go_wp2;exact ⟨rfl, bR, rfl⟩
    · have f25 := hd 25 (by omega) (by omega) (by kernel_rfl);clear hd;go_wp2;exact ⟨rfl, bR, rfl⟩
    · have f26 := hd 26 (by omega) (by omega) (by kernel_rfl);clear hd;have hcc := up hb hx6;go_wp2;exact ⟨rfl, bR, rfl⟩
    · clear hd;go_wp2;exact ⟨rfl, bR, rfl⟩
    · have f28 := hd 28 (by omega) (by omega) (by kernel_rfl);clear hd;go_wp2;exact ⟨rfl, bR, rfl⟩
    · have f29 := hd 29 (by omega) (by omega) (by kernel_rfl);clear hd;have hcc := up hb hx7;go_wp2;exact ⟨rfl, bR, rfl⟩
    · clear hd;go_wp2;exact ⟨rfl, bR, rfl⟩
    · have f31 := hd 31 (by omega) (by omega) (by kernel_rfl);clear hd;go_wp2;exact ⟨rfl, bR, rfl⟩
    · have f32 := hd 32 (by omega) (by omega) (by kernel_rfl);clear hd;have hcc := up hb hx8;go_wp2;exact ⟨rfl, bR, rfl⟩
    · clear hd;go_wp2;exact ⟨rfl, bR, rfl⟩
    · have f34 := hd 34 (by omega) (by omega) (by kernel_rfl);clear hd;go_wp2;exact ⟨rfl, bR, rfl⟩
    · have f35 := hd 35 (by omega) (by omega) (by kernel_rfl);clear hd;have hcc := up hb hx9;go_wp2;exact ⟨rfl, bR, rfl⟩
    · clear hd;go_wp2;exact ⟨rfl, bR, rfl⟩
    · have f37 := hd 37 (by omega) (by omega) (by kernel_rfl);clear hd;go_wp2;exact ⟨rfl, bR, rfl⟩
    · have f38 := hd 38 (by omega) (by omega) (by kernel_rfl);clear hd;have hcc := up hb hx10;go_wp2;exact ⟨rfl, bR, rfl⟩
    · clear hd;go_wp2;exact ⟨rfl, bR, rfl⟩
    · have f40 := hd 40 (by omega) (by omega) (by kernel_rfl);clear hd;go_wp2;exact ⟨rfl, bR, rfl⟩
    · have f41 := hd 41 (by omega) (by omega) (by kernel_rfl);clear hd;have hcc := up hb hx11;go_wp2;exact ⟨rfl, bR, rfl⟩
    · have f27 := hd 27 (by omega) (by omega) (by kernel_rfl);have f30 := hd 30 (by omega) (by omega) (by kernel_rfl);have f33 := hd 33 (by omega) (by omega) (by kernel_rfl);have f36 := hd 36 (by omega) (by omega) (by kernel_rfl);have f39 := hd 39 (by omega) (by omega) (by kernel_rfl);have f42 := hd 42 (by omega) (by omega) (by kernel_rfl);clear hd;go_wp2;exact ⟨rfl, bR, rfl⟩
    · have f8 := hd 8 (by omega) (by omega) (by kernel_rfl);have f11 := hd 11 (by omega) (by omega) (by kernel_rfl);have f14 := hd 14 (by omega) (by omega) (by kernel_rfl);have f24 := hd 24 (by omega) (by omega) (by kernel_rfl);have f43 := hd 43 (by omega) (by omega) (by kernel_rfl);clear hd;go_wp2;exact ⟨rfl, bR, rfl⟩
    · have f44 := hd 44 (by omega) (by omega) (by kernel_rfl);clear hd;go_wp2;exact ⟨rfl, (bR).alloc (Nat.le_refl _) _, _, rfl, (MapKept.heap_alloc u1 _).1⟩
  · intro vf u1 hb hd;have f5 : vf 5 = .slice c.ta c.tn c.tc := hd 5 (by omega) (by omega);obtain ⟨bb, f45, hcell⟩ := hd 45 (by omega) (by omega);clear hd;simp only [fillA, fA, fB, fC, fD, fH, Nat.reduceAdd, Act.put, fE, fF, fG];generalize vf 45 = v45 at *;generalize vf 5 = v5 at *;subst f45 f5;have HD5 := hid (HD2.out.mono hb);have HB5 := hid (bthen' HB2.out hb)
    have HX := hid (show ∀ j, j < 14 → (#[.int .i64 x0, .int .i64 x1, .slice none 0 0, .slice none 0 0, .int .i64 x3, .int .i64 x4, .int .i64 x5, .int .i64 x6, .int .i64 x7, .int .i64 x8, .int .i64 x9, .int .i64 x10, .int .i64 x11, .int .i64 x2] : Array Value)[j]? = some (tev' (addTm T c.tn [x0, x1, x2, x3, x4, x5, x6, x7, x8, x9, x10, x11]) (c.tn * 14 + j)) from fun j hj => by
     rw [tev_at _ _ _ hj];unfold addTm;rw [if_pos rfl];have : j = 0 ∨ j = 1 ∨ j = 2 ∨ j = 3 ∨ j = 4 ∨ j = 5 ∨ j = 6 ∨ j = 7 ∨ j = 8 ∨ j = 9 ∨ j = 10 ∨ j = 11 ∨ j = 12 ∨ j = 13 := by omega
     rcases this with rfl | rfl | rfl | rfl | rfl | rfl | rfl | rfl | rfl | rfl | rfl | rfl | rfl | rfl <;> rfl)
    have HX2 := hid (show ∀ j, j < c.tn * 14 → tev' (addTm T c.tn [x0, x1, x2, x3, x4, x5, x6, x7, x8, x9, x10, x11]) j = tev' T j from fun j hj => by
     unfold tev' addTm;rw [if_neg (by omega)])
    have HBz := hid (Nat.le_trans HBw.out HB5.out.size)
    have HF := hid (show c.tn + 1 ≤ 1000000 from by
     have h1 := (text_bounds D2).2.1;have h2 := HMM2.out.l;have h3 : D2.terms.length = c.tn + 1 := by rw [← HH2.out]; simp [docOf]
     omega)
    clear hb hx0 hx1 hx2 hx3 hx4 hx5 hx6 hx7 hx8 hx9 hx10 hx11 HD2;refine wpList_append_at u1 B rfl (.tmp 241) (.tmp 281) 35 rfl 57 (.agg #[.int .i64 0, .int .i64 0, .slice none 0 0, .slice none 0 0, .int .i64 0, .int .i64 0, .int .i64 0, .int .i64 0, .int .i64 0, .int .i64 0, .int .i64 0, .int .i64 0, .int .i64 0, .int .i64 0]) 14 144 Tryz.underlying35 pz57 rfl (by decide) (by decide) _ c.tn (tev' T) rfl bb #[.int .i64 x0, .int .i64 x1, .slice none 0 0, .slice none 0 0, .int .i64 x3, .int .i64 x4, .int .i64 x5, .int .i64 x6, .int .i64 x7, .int .i64 x8, .int .i64 x9, .int .i64 x10, .int .i64 x11, .int .i64 x2] (0, 0) rfl hcell rfl (by intro y hy; simp at hy; rcases hy with rfl | rfl | rfl | rfl | rfl | rfl | rfl | rfl | rfl | rfl | rfl | rfl | rfl <;> rfl) (tev' (addTm T c.tn [x0, x1, x2, x3, x4, x5, x6, x7, x8, x9, x10, x11])) HX2.out HX.out HD5.out.t HBz.out HF.out ?_
    intro v' w5 hown hgrow _;obtain ⟨a', c', rfl, -, -, -⟩ := own_slice hown;have HN := hid (HD5.out.addT (T' := addTm T c.tn [x0, x1, x2, x3, x4, x5, x6, x7, x8, x9, x10, x11]) (fun k hk => if_neg (Nat.ne_of_lt hk)) (by show bV (if c.tn = c.tn then teN [x0, x1, x2, x3, x4, x5, x6, x7, x8, x9, x10, x11] else T c.tn) = _; rw [if_pos rfl]; rfl) (by show kV (if c.tn = c.tn then teN [x0, x1, x2, x3, x4, x5, x6, x7, x8, x9, x10, x11] else T c.tn) = _; rw [if_pos rfl]; rfl) hown hgrow);have hz5 := (hgrow.block z (heap_lt HD5.out.hz) (fun e => own_ne HD5.out.t HD5.out.hz (by decide) e.symm rfl)).trans HD5.out.hz;have hc19 := cell_box hz5 (k := 20) (v := .slice c.ta c.tn c.tc) rfl;have hc00 := cell_box hz5 (k := 0) (v := .int .i64 _) rfl;have hf19 := frozen_of_row w5 z 20 _ _ hz5;have hf00 := frozen_of_row w5 z 0 _ _ hz5;have HB6 := hid ((HB5.out.mono HBw.out).grown hgrow HBz.out (fun k hk => (HD5.out.t.lt k hk).1));clear hown hgrow hz5 hcell;go_upto_region 37 with fail
    have hdq := HN.out.part 5;have hbq := (HB6.out.setCell (p := ⟨z, 20, none⟩) HD5.out.bz (.slice a' (c.tn + 1) c')).setCell (p := ⟨z, 0, none⟩) HD5.out.bz (.int .i64 5);have HDD := hid ((docOf_addT c X T n Q a' c' (ns := [x0, x1, x2, x3, x4, x5, x6, x7, x8, x9, x10, x11]) rfl).trans HH2.out);clear hc19 hf19 hc00 hf00 HN HB6 HD5 HB5 HX HX2 HBz HF;generalize (w5.setCell ⟨z, 20, none⟩ (.slice a' (c.tn + 1) c')).setCell ⟨z, 0, none⟩ (.int .i64 5) = wq at *;generalize addTm T c.tn [x0, x1, x2, x3, x4, x5, x6, x7, x8, x9, x10, x11] = T2 at *;generalize ({ c with ta := a', tn := c.tn + 1, tc := c' } : Cf) = c2 at *;have HDq := hid hdq;have HBq := hid hbq;clear hdq hbq;have HNN := hid (numN_of (c := c2) (X := X) (T := T2) (n := n) (Q := Q) (by rw [HDD.out]; exact HMM2.out.n) (by rw [HDD.out]; exact HMM2.out.z) HDq.out.eq);have HLn := hid (show (textS (docOf c2 X T2 n Q)).length ≤ 1000000 by rw [HDD.out]; have := HMM2.out.l; omega);clear HH2;have HX4 := hid (textS_len D2);have HSq := hid (show B ≤ wq.heap.size from Nat.le_trans HBw.out HBq.out.size);obtain ⟨a9, cc9, hlv9, hncc9, hnm9, htr9⟩ := HDq.out.trR;have HK24 := hid (fun (u : World) (hb : Below wq.heap.size wq u) => HT.out c2 X T2 a9 n cc9 Q u (HDq.out.cfIn.mono hb) (htr9.mono hb) hnm9 HNN.out HLn.out);rw [hlv9] at HDq;clear htr9 hlv9;rw [HDD.out] at HK24;unfold cfv at HK24
    refine wp_region_peelF 0 8 (fun i v u => match i with
     | 0 => v = .pointer (some ⟨z, 0, none⟩)
     | 1 => v = .pointer (some ⟨z, 0, none⟩)
     | 2 => v = .pointer (some ⟨z, 1, none⟩)
     | 3 => v = .agg (cfs c2).toArray
     | 4 => v = .pointer (some ⟨z, 0, none⟩)
     | 5 => v = .pointer (some ⟨z, 0, none⟩)
     | 6 => v = .pointer (some ⟨z, 21, none⟩)
     | 7 => v = .slice a9 n cc9
     | _ => True) (by kernel_rfl) (by kernel_rfl) rfl (fun _ _ d _ _ h => by cases d <;> exact h) ?_ ?_ ?_
    · intro i v w1 w2 hb h
      match i with
      | 0 => exact h
      | 1 => exact h
      | 2 => exact h
      | 3 => exact h
      | 4 => exact h
      | 5 => exact h
      | 6 => exact h
      | 7 => exact h
      | k + 8 => exact h
    · intro i o hp hi ho vf u1 hb hd;have hi' : i = 0 ∨ i = 1 ∨ i = 2 ∨ i = 3 ∨ i = 4 ∨ i = 5 ∨ i = 6 ∨ i = 7 := by omega
      rcases hi' with rfl | rfl | rfl | rfl | rfl | rfl | rfl | rfl
      all_goals obtain rfl := oI ho
      all_goals simp only [fillA, fA, fB, fC, fD, fH, Nat.reduceAdd]
      · clear hd;go_wp2;exact ⟨rfl, bR, rfl⟩
      · have f0 := hd 0 (by omega) (by omega) (by kernel_rfl);clear hd;go_wp2;exact ⟨rfl, bR, rfl⟩
      · have f1 := hd 1 (by omega) (by omega) (by kernel_rfl);clear hd;go_wp2;exact ⟨rfl, bR, rfl⟩
      · have f2 : vf 2 = .pointer (some ⟨z, 1, none⟩) := hd 2 (by omega) (by omega) (by kernel_rfl);clear hd;have hrg := range_docR ((hb.block z (heap_lt HDq.out.hz)).trans HDq.out.hz);simp only [Act.put, fE, fF, fG];generalize vf 2 = v2 at *;subst f2;refine wpList_load_mid rfl 37 (.tmp 428) rfl z 1 rfl (cfs c2) _ hrg Tryz.underlying37 rfl (by kernel_rfl) ?_
        go_wp2;exact ⟨rfl, bR, rfl⟩
      · clear hd;go_wp2;exact ⟨rfl, bR, rfl⟩
      · have f4 := hd 4 (by omega) (by omega) (by kernel_rfl);clear hd;go_wp2;exact ⟨rfl, bR, rfl⟩
      · have f5 := hd 5 (by omega) (by omega) (by kernel_rfl);clear hd;go_wp2;exact ⟨rfl, bR, rfl⟩
      · have f6 := hd 6 (by omega) (by omega) (by kernel_rfl);clear hd;have hcc := cell_box ((hb.block z (heap_lt HDq.out.hz)).trans HDq.out.hz) (k := 21) (v := .slice a9 n cc9) rfl;go_wp2;exact ⟨rfl, bR, rfl⟩
    · intro vf u1 hb hd;have f3 : vf 3 = .agg (cfs c2).toArray := hd 3 (by omega) (by omega);have f7 : vf 7 = .slice a9 n cc9 := hd 7 (by omega) (by omega);clear hd;simp only [fillA, fA, fB, fC, fD, fH, Nat.reduceAdd, Act.put, fE, fF, fG];generalize vf 3 = v3 at *;generalize vf 7 = v7 at *;subst f3 f7;have HBu := hid hb;clear hb;have KK := hid (HK24.out u1 HBu.out);clear HK24;go_wp2_with (go_at_call 24; refine KK.out.mono ?_; rintro e w6 ⟨v, rfl, ho6, hb6⟩; obtain ⟨a6, c6, b6, rfl, hc6, hp6, hs6⟩ := ho6.slice; have HP6 := hid hp6; have HS6 := hid hs6; have HB6 := hid (bthen' HBu.out hb6); clear hb6 ho6 hs6 hp6; refine Hid.out ?_);refine hid ?_
      have hz6 := (HB6.out.block z (heap_lt HDq.out.hz)).trans HDq.out.hz;have hc0 := cell_box hz6 (k := 0) (v := .int .i64 5) rfl;have HR6 := hid (show Below B w w6 from bthen HBq.out HB6.out HSq.out);have HD6 := hid (HDq.out.mono HB6.out);clear hz6 KK;have h4 := HX4.out;have HRF := hid (refOk_tail (D := D2) (s := L) (word := wTerminal) (by decide) (p := 5) (by decide));have hln := HLn.out;rw [HDD.out] at hln;obtain ⟨ly, hly, hly3⟩ : ∃ ly, (textS D2).length = ly + 1 ∧ 3 ≤ ly := ⟨(textS D2).length - 1, by omega, by omega⟩
      rw [hly] at hln h4 HRF HP6 hc6 ⊢;rw [show max (ly + 1 - 1) 3 = ly by omega] at HRF;obtain ⟨e9, -, -⟩ := HP6.out (by omega);subst e9;have hcx := HS6.out ly (by rw [hly]; omega);rw [Nat.zero_add] at hcx;clear HLn HX4 hly HP6 HS6;have hmx : max (ly : Int) 3 = ly := by omega
      generalize (textS D2).getD ly [] = x at *;by_cases hq : x = L
      · have hq2 : (x == L) = true := by simp [hq]
        have e2 := HRF.out.trans (decide_eq_true hq);clear hq HRF;go_wp2;go_ret
        have eo := HO.out;rw [e2, if_pos rfl] at eo;subst eo;exact ⟨rfl, ⟨_, _, _, _, _, _, HD6.out, HDD.out⟩, HR6.out⟩
      · have hq2 : (x == L) = false := by simp [hq]
        have e2 := HRF.out.trans (decide_eq_false hq);clear hq HRF;go_wp2;go_ret
        have eo := HO.out;rw [e2, if_neg (by decide)] at eo;subst eo;exact ⟨rfl, HR6.out⟩
end
end Go.Proofs.YtgflfdnajchjaaaGreatDoor
