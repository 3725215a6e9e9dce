import Derived.Test.YtgflfdnajchjaaaGreatDoorPZ
set_option linter.unusedVariables false
set_option linter.unusedSimpArgs false
namespace Go.Proofs.YtgflfdnajchjaaaGreatDoor
open Go.Lib (hid)
open Go.RowKit
section
open Go.RowKit Go.Sort
open Tm
attribute [local go_sem] gcell bs_tl
theorem nat9r {k : Nat} (h : k < 9) : k = 0 ∨ k = 1 ∨ k = 2 ∨ k = 3 ∨ k = 4 ∨ k = 5 ∨ k = 6 ∨ k = 7 ∨ k = 8 := by omega
set_option maxRecDepth 100000 in
set_option maxHeartbeats 16000000 in
theorem read_network (HT0 : Text24) (L : List UInt8) (hs : (bs L).size ≤ 900000) (w : World) (B z : Nat) (c : Cf) (X : Nat → Ch.Fd) (T : Nat → Te) (lv : Value) (n : Nat) (Q : Nat → Tr) (D : DocR w B z 0 c X T lv n Q) (hBw : B ≤ w.heap.size) (hW : (spl 32 L).headD [] = wNetwork)
 (D2 : DocS) (h2 : { docOf c X T n Q with h0 := refNums L 9 } = D2) (m : Nat) (HM : DocM D2 m) (hm : m ≤ 900000) (o : Option (Nat × DocS)) (ho : o = if refOk wNetwork 1 D2 L = true then some (1, D2) else none) :
 Calls Tryz.prog 39 #[.pointer (some ⟨z, 0, none⟩), .string (bs L)] w (RdPost w B z o) := by
 have HO := hid ho;clear ho;have HT := hid HT0;have HH2 := hid h2;have HMM2 := hid HM;clear HT0 h2 HM;have KC := hid (cut38 (bs L) hs 32 w);rw [bs_toList] at KC;have HW := hid (head_of (spl_ne 32 L) hW);have HLL := hid hs;generalize hMM : spl 32 L = M at *;have HMM := hid hMM;clear hW hMM;have HD := hid D;have HBw := hid hBw;have hc := cell_box D.hz (k := 0) (v := .int .i64 0) rfl;clear D hBw;go_enter Tryz.func39, Tryz.ntmps39;go_wp2_with (go_at_call 38; refine KC.out.mono ?_; rintro e w1 ⟨v, rfl, ho1, hb1⟩; obtain ⟨a1, c1, b1, rfl, hc1, hp1, hs1⟩ := ho1.slice; obtain ⟨e9, -, -⟩ := hp1 HW.out.2; subst e9; have hc2 := hs1 0 HW.out.2; rw [Nat.zero_add, HW.out.1] at hc2; have hc3 := up hb1 hc; have hl1 := HW.out.2; have HB1 := hid hb1; clear hb1 ho1 hs1 hp1 hc; refine Hid.out ?_);refine hid ?_
 have HD1 := hid (HD.out.mono HB1.out);clear KC;unfold wNetwork at hc2;have KN := hid (nums60 (bs L) hs 9 (by omega));rw [bs_toList] at KN;have HR3 := hid (refNums_len L 9);generalize refNums L 9 = ns at *;go_wp2_with (go_at_call 60; refine (KN.out _).mono ?_; rintro e w2 ⟨b2, rfl, hge2, hn2, hb2⟩; have HB2 := hid (bthen' HB1.out hb2); have HN2 := hid hn2; have HG2 := hid hge2; have HD2 := hid (HD1.out.mono hb2); clear hb2 hn2 hge2; refine Hid.out ?_);refine hid ?_
 clear hc2 hc3 KN HD1
 obtain ⟨x0, x1, x2, x3, x4, x5, x6, x7, x8, rfl⟩ : ∃ x0 x1 x2 x3 x4 x5 x6 x7 x8, ns = [x0, x1, x2, x3, x4, x5, x6, x7, x8] := by
  have := HR3.out
  match ns, this with
  | [x0, x1, x2, x3, x4, x5, x6, x7, x8], _ => exact ⟨_, _, _, _, _, _, _, _, _, rfl⟩
 have hx0 := HN2.out 0 (by simp);have hx1 := HN2.out 1 (by simp);have hx2 := HN2.out 2 (by simp);have hx3 := HN2.out 3 (by simp);have hx4 := HN2.out 4 (by simp);have hx5 := HN2.out 5 (by simp);have hx6 := HN2.out 6 (by simp);have hx7 := HN2.out 7 (by simp);have hx8 := HN2.out 8 (by simp);clear HN2;have HNE := hid (show b2 ≠ z from fun e => by have := heap_lt HD.out.hz; have := HB1.out.size; have := HG2.out; omega);go_upto_region 6 with fail
 refine wp_region_stores 0 62 (fun i v => match i with
  | 0 => v = .pointer (some ⟨z, 1, none⟩)
  | 1 => v = .pointer (some ⟨z, 1, none⟩)
  | 2 => v = .pointer (some ⟨z, 1, none⟩)
  | 3 => v = .pointer (some ⟨z, 1, none⟩)
  | 4 => v = .pointer (some ⟨z, 1, none⟩)
  | 5 => v = .pointer (some ⟨z, 1, none⟩)
  | 6 => v = .pointer (some ⟨z, 1, none⟩)
  | 7 => v = .pointer (some ⟨z, 1, none⟩)
  | 8 => v = .pointer (some ⟨z, 1, none⟩)
  | 9 => v = .slice (some ⟨b2, 0, none⟩) 9 9
  | 10 => v = .pointer (some ⟨b2, 0, none⟩)
  | 11 => v = .int .i64 x0
  | 12 => v = .slice (some ⟨b2, 0, none⟩) 9 9
  | 13 => v = .pointer (some ⟨b2, 1, none⟩)
  | 14 => v = .int .i64 x1
  | 15 => v = .slice (some ⟨b2, 0, none⟩) 9 9
  | 16 => v = .pointer (some ⟨b2, 2, none⟩)
  | 17 => v = .int .i64 x2
  | 18 => v = .slice (some ⟨b2, 0, none⟩) 9 9
  | 19 => v = .pointer (some ⟨b2, 3, none⟩)
  | 20 => v = .int .i64 x3
  | 21 => v = .slice (some ⟨b2, 0, none⟩) 9 9
  | 22 => v = .pointer (some ⟨b2, 4, none⟩)
  | 23 => v = .int .i64 x4
  | 24 => v = .slice (some ⟨b2, 0, none⟩) 9 9
  | 25 => v = .pointer (some ⟨b2, 5, none⟩)
  | 26 => v = .int .i64 x5
  | 27 => v = .slice (some ⟨b2, 0, none⟩) 9 9
  | 28 => v = .pointer (some ⟨b2, 6, none⟩)
  | 29 => v = .int .i64 x6
  | 30 => v = .slice (some ⟨b2, 0, none⟩) 9 9
  | 31 => v = .pointer (some ⟨b2, 7, none⟩)
  | 32 => v = .int .i64 x7
  | 33 => v = .slice (some ⟨b2, 0, none⟩) 9 9
  | 34 => v = .pointer (some ⟨b2, 8, none⟩)
  | 35 => v = .int .i64 x8
  | 36 => v = .pointer (some ⟨z, 1, none⟩)
  | 37 => v = .pointer (some ⟨z, 1, none⟩)
  | 39 => v = .pointer (some ⟨z, 1, none⟩)
  | 40 => v = .pointer (some ⟨z, 2, none⟩)
  | 42 => v = .pointer (some ⟨z, 1, none⟩)
  | 43 => v = .pointer (some ⟨z, 3, none⟩)
  | 45 => v = .pointer (some ⟨z, 1, none⟩)
  | 46 => v = .pointer (some ⟨z, 4, none⟩)
  | 48 => v = .pointer (some ⟨z, 1, none⟩)
  | 49 => v = .pointer (some ⟨z, 5, none⟩)
  | 51 => v = .pointer (some ⟨z, 1, none⟩)
  | 52 => v = .pointer (some ⟨z, 6, none⟩)
  | 54 => v = .pointer (some ⟨z, 1, none⟩)
  | 55 => v = .pointer (some ⟨z, 7, none⟩)
  | 57 => v = .pointer (some ⟨z, 1, none⟩)
  | 58 => v = .pointer (some ⟨z, 8, none⟩)
  | 60 => v = .pointer (some ⟨z, 1, none⟩)
  | 61 => v = .pointer (some ⟨z, 9, none⟩)
  | _ => True) z 105 (docRs 0 c lv) [⟨38, 1, .int .i64 x0⟩, ⟨41, 2, .int .i64 x1⟩, ⟨44, 3, .int .i64 x2⟩, ⟨47, 4, .int .i64 x3⟩, ⟨50, 5, .int .i64 x4⟩, ⟨53, 6, .int .i64 x5⟩, ⟨56, 7, .int .i64 x6⟩, ⟨59, 8, .int .i64 x7⟩] (by kernel_rfl) (by kernel_rfl) (by kernel_rfl) rfl (fun _ _ d _ _ h => by cases d <;> exact h) HD2.out.hz ?_ ?_ ?_
 · intro i o _ hi ho hni vf u hku hd;have hni2 : i ∉ ([38, 41, 44, 47, 50, 53, 56, 59] : List Nat) := hni;simp only [List.mem_cons, List.not_mem_nil, or_false, not_or] at hni2;have hi' : i = 0 ∨ i = 1 ∨ i = 2 ∨ i = 3 ∨ i = 4 ∨ i = 5 ∨ i = 6 ∨ i = 7 ∨ i = 8 ∨ i = 9 ∨ i = 10 ∨ i = 11 ∨ i = 12 ∨ i = 13 ∨ i = 14 ∨ i = 15 ∨ i = 16 ∨ i = 17 ∨ i = 18 ∨ i = 19 ∨ i = 20 ∨ i = 21 ∨ i = 22 ∨ i = 23 ∨ i = 24 ∨ i = 25 ∨ i = 26 ∨ i = 27 ∨ i = 28 ∨ i = 29 ∨ i = 30 ∨ i = 31 ∨ i = 32 ∨ i = 33 ∨ i = 34 ∨ i = 35 ∨ i = 36 ∨ i = 37 ∨ i = 39 ∨ i = 40 ∨ i = 42 ∨ i = 43 ∨ i = 45 ∨ i = 46 ∨ i = 48 ∨ i = 49 ∨ i = 51 ∨ i = 52 ∨ i = 54 ∨ i = 55 ∨ i = 57 ∨ i = 58 ∨ i = 60 ∨ i = 61 := by omega
   clear hni hni2;rcases hi' with rfl | rfl | rfl | rfl | rfl | rfl | rfl | rfl | rfl | rfl | rfl | rfl | rfl | rfl | rfl | rfl | rfl | rfl | rfl | rfl | rfl | rfl | rfl | rfl | rfl | rfl | rfl | rfl | rfl | rfl | rfl | rfl | rfl | rfl | rfl | rfl | rfl | rfl | rfl | rfl | rfl | rfl | rfl | rfl | rfl | rfl | rfl | rfl | rfl | rfl | rfl | rfl | rfl | rfl
   all_goals obtain rfl := oI ho
   all_goals simp only [fillA, fA, fB, fC, fD, fH, Nat.reduceAdd]
   · clear hd;clear hku;go_wp2;exact ⟨rfl, rfl, rfl⟩
   · clear hd;clear hku;go_wp2;exact ⟨rfl, rfl, rfl⟩
   · clear hd;clear hku;go_wp2;exact ⟨rfl, rfl, rfl⟩
   · clear hd;clear hku;go_wp2;exact ⟨rfl, rfl, rfl⟩
   · clear hd;clear hku;go_wp2;exact ⟨rfl, rfl, rfl⟩
   · clear hd;clear hku;go_wp2;exact ⟨rfl, rfl, rfl⟩
   · clear hd;clear hku;go_wp2;exact ⟨rfl, rfl, rfl⟩
   · clear hd;clear hku;go_wp2;exact ⟨rfl, rfl, rfl⟩
   · clear hd;clear hku;go_wp2;exact ⟨rfl, rfl, rfl⟩
   · clear hd;clear hku;go_wp2;exact ⟨rfl, rfl, rfl⟩
   · have f9 := hd 9 (by omega) (by omega) (by show (9 : Nat) ∉ ([38, 41, 44, 47, 50, 53, 56, 59] : List Nat); decide) (by kernel_rfl);clear hd;clear hku;go_wp2;exact ⟨rfl, rfl, rfl⟩
   · have f10 := hd 10 (by omega) (by omega) (by show (10 : Nat) ∉ ([38, 41, 44, 47, 50, 53, 56, 59] : List Nat); decide) (by kernel_rfl);clear hd;have hcc : u.cell? ⟨b2, 0, none⟩ = some (.int .i64 x0) := (World.cell?_of_block (w := w2) (hku b2 HNE.out)).trans hx0;clear hku;go_wp2;exact ⟨rfl, rfl, rfl⟩
   · clear hd;clear hku;go_wp2;exact ⟨rfl, rfl, rfl⟩
   · have f12 := hd 12 (by omega) (by omega) (by show (12 : Nat) ∉ ([38, 41, 44, 47, 50, 53, 56, 59] : List Nat); decide) (by kernel_rfl);clear hd;clear hku;go_wp2;exact ⟨rfl, rfl, rfl⟩
   · have f13 := hd 13 (by omega) (by omega) (by show (13 : Nat) ∉ ([38, 41, 44, 47, 50, 53, 56, 59] : List Nat); decide) (by kernel_rfl);clear hd;have hcc : u.cell? ⟨b2, 1, none⟩ = some (.int .i64 x1) := (World.cell?_of_block (w := w2) (hku b2 HNE.out)).trans hx1;clear hku;go_wp2;exact ⟨rfl, rfl, rfl⟩
   · clear hd;clear hku;go_wp2;exact ⟨rfl, rfl, rfl⟩
   · have f15 := hd 15 (by omega) (by omega) (by show (15 : Nat) ∉ ([38, 41, 44, 47, 50, 53, 56, 59] : List Nat); decide) (by kernel_rfl);clear hd;clear hku;go_wp2;exact ⟨rfl, rfl, rfl⟩
   · have f16 := hd 16 (by omega) (by omega) (by show (16 : Nat) ∉ ([38, 41, 44, 47, 50, 53, 56, 59] : List Nat); decide) (by kernel_rfl);clear hd;have hcc : u.cell? ⟨b2, 2, none⟩ = some (.int .i64 x2) := (World.cell?_of_block (w := w2) (hku b2 HNE.out)).trans hx2;clear hku;go_wp2;exact ⟨rfl, rfl, rfl⟩
   · clear hd;clear hku;go_wp2;exact ⟨rfl, rfl, rfl⟩
   · have f18 := hd 18 (by omega) (by omega) (by show (18 : Nat) ∉ ([38, 41, 44, 47, 50, 53, 56, 59] : List Nat); decide) (by kernel_rfl);clear hd;clear hku;go_wp2;exact ⟨rfl, rfl, rfl⟩
   · have f19 := hd 19 (by omega) (by omega) (by show (19 : Nat) ∉ ([38, 41, 44, 47, 50, 53, 56, 59] : List Nat); decide) (by kernel_rfl);clear hd;have hcc : u.cell? ⟨b2, 3, none⟩ = some (.int .i64 x3) := (World.cell?_of_block (w := w2) (hku b2 HNE.out)).trans hx3;clear hku;go_wp2;exact ⟨rfl, rfl, rfl⟩
   · clear hd;clear hku;go_wp2;exact ⟨rfl, rfl, rfl⟩
   · have f21 := hd 21 (by omega) (by omega) (by show (21 : Nat) ∉ ([38, 41, 44, 47, 50, 53, 56, 59] : List Nat); decide) (by kernel_rfl);clear hd;clear hku;go_wp2;exact ⟨rfl, rfl, rfl⟩
   · have f22 := hd 22 (by omega) (by omega) (by show (22 : Nat) ∉ ([38, 41, 44, 47, 50, 53, 56, 59] : List Nat); decide) (by kernel_rfl);clear hd;have hcc : u.cell? ⟨b2, 4, none⟩ = some (.int .i64 x4) := (World.cell?_of_block (w := w2) (hku b2 HNE.out)).trans hx4;clear hku;go_wp2;exact ⟨rfl, rfl, rfl⟩
   · clear hd;clear hku;go_wp2;exact ⟨rfl, rfl, rfl⟩
   · have f24 := hd 24 (by omega) (by omega) (by show (24 : Nat) ∉ ([38, 41, 44, 47, 50, 53, 56, 59] : List Nat); decide) (by kernel_rfl);clear hd;clear hku;go_wp2;exact ⟨rfl, rfl, rfl⟩
   · have f25 := hd 25 (by omega) (by omega) (by show (25 : Nat) ∉ ([38, 41, 44, 47, 50, 53, 56, 59] : List Nat); decide) (by kernel_rfl);clear hd;have hcc : u.cell? ⟨b2, 5, none⟩ = some (.int .i64 x5) := (World.cell?_of_block (w := w2) (hku b2 HNE.out)).trans hx5;clear hku;go_wp2;exact ⟨rfl, rfl, rfl⟩
   · clear hd;clear hku;go_wp2;exact ⟨rfl, rfl, rfl⟩
   · have f27 := hd 27 (by omega) (by omega) (by show (27 : Nat) ∉ ([38, 41, 44, 47, 50, 53, 56, 59] : List Nat); decide) (by kernel_rfl);clear hd;clear hku;go_wp2;exact ⟨rfl, rfl, rfl⟩
   · have f28 := hd 28 (by omega) (by omega) (by show (28 : Nat) ∉ ([38, 41, 44, 47, 50, 53, 56, 59] : List Nat); decide) (by kernel_rfl);clear hd;have hcc : u.cell? ⟨b2, 6, none⟩ = some (.int .i64 x6) := (World.cell?_of_block (w := w2) (hku b2 HNE.out)).trans hx6;clear hku;go_wp2;exact ⟨rfl, rfl, rfl⟩
   · clear hd;clear hku;go_wp2;exact ⟨rfl, rfl, rfl⟩
   · have f30 := hd 30 (by omega) (by omega) (by show (30 : Nat) ∉ ([38, 41, 44, 47, 50, 53, 56, 59] : List Nat); decide) (by kernel_rfl);clear hd;clear hku;go_wp2;exact ⟨rfl, rfl, rfl⟩
   · have f31 := hd 31 (by omega) (by omega) (by show (31 : Nat) ∉ ([38, 41, 44, 47, 50, 53, 56, 59] : List Nat); decide) (by kernel_rfl);clear hd;have hcc : u.cell? ⟨b2, 7, none⟩ = some (.int .i64 x7) := (World.cell?_of_block (w := w2) (hku b2 HNE.out)).trans hx7;clear hku;go_wp2;exact ⟨rfl, rfl, rfl⟩
   · clear hd;clear hku;go_wp2;exact ⟨rfl, rfl, rfl⟩
   · have f33 := hd 33 (by omega) (by omega) (by show (33 : Nat) ∉ ([38, 41, 44, 47, 50, 53, 56, 59] : List Nat); decide) (by kernel_rfl);clear hd;clear hku;go_wp2;exact ⟨rfl, rfl, rfl⟩
   · have f34 := hd 34 (by omega) (by omega) (by show (34 : Nat) ∉ ([38, 41, 44, 47, 50, 53, 56, 59] : List Nat); decide) (by kernel_rfl);clear hd;have hcc : u.cell? ⟨b2, 8, none⟩ = some (.int .i64 x8) := (World.cell?_of_block (w := w2) (hku b2 HNE.out)).trans hx8;clear hku;go_wp2;exact ⟨rfl, rfl, rfl⟩
   · have f0 := hd 0 (by omega) (by omega) (by show (0 : Nat) ∉ ([38, 41, 44, 47, 50, 53, 56, 59] : List Nat); decide) (by kernel_rfl);clear hd;clear hku;go_wp2;exact ⟨rfl, rfl, rfl⟩
   · have f36 := hd 36 (by omega) (by omega) (by show (36 : Nat) ∉ ([38, 41, 44, 47, 50, 53, 56, 59] : List Nat); decide) (by kernel_rfl);clear hd;clear hku;go_wp2;exact ⟨rfl, rfl, rfl⟩
   · have f1 := hd 1 (by omega) (by omega) (by show (1 : Nat) ∉ ([38, 41, 44, 47, 50, 53, 56, 59] : List Nat); decide) (by kernel_rfl);clear hd;clear hku;go_wp2;exact ⟨rfl, rfl, rfl⟩
   · have f39 := hd 39 (by omega) (by omega) (by show (39 : Nat) ∉ ([38, 41, 44, 47, 50, 53, 56, 59] : List Nat); decide) (by kernel_rfl);clear hd;clear hku;go_wp2;exact ⟨rfl, rfl, rfl⟩
   · have f2 := hd 2 (by omega) (by omega) (by show (2 : Nat) ∉ ([38, 41, 44, 47, 50, 53, 56, 59] : List Nat); decide) (by kernel_rfl);clear hd;clear hku;go_wp2;exact ⟨rfl, rfl, rfl⟩
   · have f42 := hd 42 (by omega) (by omega) (by show (42 : Nat) ∉ ([38, 41, 44, 47, 50, 53, 56, 59] : List Nat); decide) (by kernel_rfl);clear hd;clear hku;go_wp2;exact ⟨rfl, rfl, rfl⟩
   · have f3 := hd 3 (by omega) (by omega) (by show (3 : Nat) ∉ ([38, 41, 44, 47, 50, 53, 56, 59] : List Nat); decide) (by kernel_rfl);clear hd;clear hku;go_wp2;exact ⟨rfl, rfl, rfl⟩
   · have f45 := hd 45 (by omega) (by omega) (by show (45 : Nat) ∉ ([38, 41, 44, 47, 50, 53, 56, 59] : List Nat); decide) (by kernel_rfl);clear hd;clear hku;go_wp2;exact ⟨rfl, rfl, rfl⟩
   · have f4 := hd 4 (by omega) (by omega) (by show (4 : Nat) ∉ ([38, 41, 44, 47, 50, 53, 56, 59] : List Nat); decide) (by kernel_rfl);clear hd;clear hku;go_wp2;exact ⟨rfl, rfl, rfl⟩
   · have f48 := hd 48 (by omega) (by omega) (by show (48 : Nat) ∉ ([38, 41, 44, 47, 50, 53, 56, 59] : List Nat); decide) (by kernel_rfl);clear hd;clear hku;go_wp2;exact ⟨rfl, rfl, rfl⟩
   · have f5 := hd 5 (by omega) (by omega) (by show (5 : Nat) ∉ ([38, 41, 44, 47, 50, 53, 56, 59] : List Nat); decide) (by kernel_rfl);clear hd;clear hku;go_wp2;exact ⟨rfl, rfl, rfl⟩
   · have f51 := hd 51 (by omega) (by omega) (by show (51 : Nat) ∉ ([38, 41, 44, 47, 50, 53, 56, 59] : List Nat); decide) (by kernel_rfl);clear hd;clear hku;go_wp2;exact ⟨rfl, rfl, rfl⟩
   · have f6 := hd 6 (by omega) (by omega) (by show (6 : Nat) ∉ ([38, 41, 44, 47, 50, 53, 56, 59] : List Nat); decide) (by kernel_rfl);clear hd;clear hku;go_wp2;exact ⟨rfl, rfl, rfl⟩
   · have f54 := hd 54 (by omega) (by omega) (by show (54 : Nat) ∉ ([38, 41, 44, 47, 50, 53, 56, 59] : List Nat); decide) (by kernel_rfl);clear hd;clear hku;go_wp2;exact ⟨rfl, rfl, rfl⟩
   · have f7 := hd 7 (by omega) (by omega) (by show (7 : Nat) ∉ ([38, 41, 44, 47, 50, 53, 56, 59] : List Nat); decide) (by kernel_rfl);clear hd;clear hku;go_wp2;exact ⟨rfl, rfl, rfl⟩
   · have f57 := hd 57 (by omega) (by omega) (by show (57 : Nat) ∉ ([38, 41, 44, 47, 50, 53, 56, 59] : List Nat); decide) (by kernel_rfl);clear hd;clear hku;go_wp2;exact ⟨rfl, rfl, rfl⟩
   · have f8 := hd 8 (by omega) (by omega) (by show (8 : Nat) ∉ ([38, 41, 44, 47, 50, 53, 56, 59] : List Nat); decide) (by kernel_rfl);clear hd;clear hku;go_wp2;exact ⟨rfl, rfl, rfl⟩
   · have f60 := hd 60 (by omega) (by omega) (by show (60 : Nat) ∉ ([38, 41, 44, 47, 50, 53, 56, 59] : List Nat); decide) (by kernel_rfl);clear hd;clear hku;go_wp2;exact ⟨rfl, rfl, rfl⟩
 · intro x hx o ho vf u cs hz hox hd;simp only [List.mem_cons, List.not_mem_nil, or_false] at hx;rcases hx with rfl | rfl | rfl | rfl | rfl | rfl | rfl | rfl
   all_goals obtain rfl := oI ho
   all_goals simp only [fillA, fA, fB, fC, fD, fH, Nat.reduceAdd]
   · have f37 := hd 37 (by show (0 : Nat) ≤ _; omega) (by omega) (by show (37 : Nat) ∉ ([38, 41, 44, 47, 50, 53, 56, 59] : List Nat); decide) (by kernel_rfl);have f11 := hd 11 (by show (0 : Nat) ≤ _; omega) (by omega) (by show (11 : Nat) ∉ ([38, 41, 44, 47, 50, 53, 56, 59] : List Nat); decide) (by kernel_rfl);clear hd;have hk := cell_box hz (k := 1) (Array.getElem?_eq_getElem hox);have hf := frozen_of_row u z 1 _ _ hz;generalize cs[1] = y at *;clear hz hox;go_wp2;exact ⟨rfl, rfl⟩
   · have f40 := hd 40 (by show (0 : Nat) ≤ _; omega) (by omega) (by show (40 : Nat) ∉ ([38, 41, 44, 47, 50, 53, 56, 59] : List Nat); decide) (by kernel_rfl);have f14 := hd 14 (by show (0 : Nat) ≤ _; omega) (by omega) (by show (14 : Nat) ∉ ([38, 41, 44, 47, 50, 53, 56, 59] : List Nat); decide) (by kernel_rfl);clear hd;have hk := cell_box hz (k := 2) (Array.getElem?_eq_getElem hox);have hf := frozen_of_row u z 2 _ _ hz;generalize cs[2] = y at *;clear hz hox;go_wp2;exact ⟨rfl, rfl⟩
   · have f43 := hd 43 (by show (0 : Nat) ≤ _; omega) (by omega) (by show (43 : Nat) ∉ ([38, 41, 44, 47, 50, 53, 56, 59] : List Nat); decide) (by kernel_rfl);have f17 := hd 17 (by show (0 : Nat) ≤ _; omega) (by omega) (by show (17 : Nat) ∉ ([38, 41, 44, 47, 50, 53, 56, 59] : List Nat); decide) (by kernel_rfl);clear hd;have hk := cell_box hz (k := 3) (Array.getElem?_eq_getElem hox);have hf := frozen_of_row u z 3 _ _ hz;generalize cs[3] = y at *;clear hz hox;go_wp2;exact ⟨rfl, rfl⟩
   · have f46 := hd 46 (by show (0 : Nat) ≤ _; omega) (by omega) (by show (46 : Nat) ∉ ([38, 41, 44, 47, 50, 53, 56, 59] : List Nat); decide) (by kernel_rfl);have f20 := hd 20 (by show (0 : Nat) ≤ _; omega) (by omega) (by show (20 : Nat) ∉ ([38, 41, 44, 47, 50, 53, 56, 59] : List Nat); decide) (by kernel_rfl);clear hd;have hk := cell_box hz (k := 4) (Array.getElem?_eq_getElem hox);have hf := frozen_of_row u z 4 _ _ hz;generalize cs[4] = y at *;clear hz hox;go_wp2;exact ⟨rfl, rfl⟩
   · have f49 := hd 49 (by show (0 : Nat) ≤ _; omega) (by omega) (by show (49 : Nat) ∉ ([38, 41, 44, 47, 50, 53, 56, 59] : List Nat); decide) (by kernel_rfl);have f23 := hd 23 (by show (0 : Nat) ≤ _; omega) (by omega) (by show (23 : Nat) ∉ ([38, 41, 44, 47, 50, 53, 56, 59] : List Nat); decide) (by kernel_rfl);clear hd;have hk := cell_box hz (k := 5) (Array.getElem?_eq_getElem hox);have hf := frozen_of_row u z 5 _ _ hz;generalize cs[5] = y at *;clear hz hox;go_wp2;exact ⟨rfl, rfl⟩
   · have f52 := hd 52 (by show (0 : Nat) ≤ _; omega) (by omega) (by show (52 : Nat) ∉ ([38, 41, 44, 47, 50, 53, 56, 59] : List Nat); decide) (by kernel_rfl);have f26 := hd 26 (by show (0 : Nat) ≤ _; omega) (by omega) (by show (26 : Nat) ∉ ([38, 41, 44, 47, 50, 53, 56, 59] : List Nat); decide) (by kernel_rfl);clear hd;have hk := cell_box hz (k := 6) (Array.getElem?_eq_getElem hox);have hf := frozen_of_row u z 6 _ _ hz;generalize cs[6] = y at *;clear hz hox;go_wp2;exact ⟨rfl, rfl⟩
   · have f55 := hd 55 (by show (0 : Nat) ≤ _; omega) (by omega) (by show (55 : Nat) ∉ ([38, 41, 44, 47, 50, 53, 56, 59] : List Nat); decide) (by kernel_rfl);have f29 := hd 29 (by show (0 : Nat) ≤ _; omega) (by omega) (by show (29 : Nat) ∉ ([38, 41, 44, 47, 50, 53, 56, 59] : List Nat); decide) (by kernel_rfl);clear hd;have hk := cell_box hz (k := 7) (Array.getElem?_eq_getElem hox);have hf := frozen_of_row u z 7 _ _ hz;generalize cs[7] = y at *;clear hz hox;go_wp2;exact ⟨rfl, rfl⟩
   · have f58 := hd 58 (by show (0 : Nat) ≤ _; omega) (by omega) (by show (58 : Nat) ∉ ([38, 41, 44, 47, 50, 53, 56, 59] : List Nat); decide) (by kernel_rfl);have f32 := hd 32 (by show (0 : Nat) ≤ _; omega) (by omega) (by show (32 : Nat) ∉ ([38, 41, 44, 47, 50, 53, 56, 59] : List Nat); decide) (by kernel_rfl);clear hd;have hk := cell_box hz (k := 8) (Array.getElem?_eq_getElem hox);have hf := frozen_of_row u z 8 _ _ hz;generalize cs[8] = y at *;clear hz hox;go_wp2;exact ⟨rfl, rfl⟩
 · intro vf u S;have f61 : vf 61 = .pointer (some ⟨z, 9, none⟩) := S.f 61 (by omega) (by omega) (by show (61 : Nat) ∉ ([38, 41, 44, 47, 50, 53, 56, 59] : List Nat); decide) rfl;have f35 : vf 35 = .int .i64 x8 := S.f 35 (by omega) (by omega) (by show (35 : Nat) ∉ ([38, 41, 44, 47, 50, 53, 56, 59] : List Nat); decide) rfl;obtain ⟨cs, hz, hcs, hst, hnt⟩ := S.z;have hku := S.k;have hus := S.sz;have hbz := S.b;clear S;simp only [fillA, fA, fB, fC, fD, fH, Nat.reduceAdd, Act.put, fE, fF, fG];generalize vf 61 = v61 at *;generalize vf 35 = v35 at *;subst f61 f35;have h9 : cs[9]? = some (.int .i64 (c.h 8)) := (hnt 9 (by simp)).trans rfl;have h0 : cs[0]? = some (.int .i64 0) := (hnt 0 (by simp)).trans rfl;have hk9 := cell_box hz h9;have hk0 := cell_box hz h0;have hf9 := frozen_of_row u z 9 _ _ hz;have hf0 := frozen_of_row u z 0 _ _ hz;have HS := hid (⟨hz, hcs, hst, hnt⟩ : _ ∧ _ ∧ _ ∧ _);have HK := hid (⟨hku, hus, hbz⟩ : _ ∧ _ ∧ _);clear hz hcs hst hnt hku hus hbz h9 h0 hx0 hx1 hx2 hx3 hx4 hx5 hx6 hx7 hx8;go_upto_region 37 with fail
   obtain ⟨hz, hcs, hst, hnt⟩ := HS.out;obtain ⟨hku, hus, hbz⟩ := HK.out
   have hd1 : DocR (u.setCell ⟨z, 9, none⟩ (.int .i64 x8)) B z 0 (setHs c [0, 1, 2, 3, 4, 5, 6, 7, 8] [x0, x1, x2, x3, x4, x5, x6, x7, x8]) X T lv n Q := HD2.out.rows (fun i hi hiz => (heap_set_other _ hiz).trans (hku i hiz)) (by
    rw [heap_set_same hz, docR_stores (c := c) (p := 0) (lv := lv) (ns := [x0, x1, x2, x3, x4, x5, x6, x7, x8]) rfl (cs := cs.setIfInBounds 9 (.int .i64 x8)) (by rw [Array.size_setIfInBounds, hcs]; rfl) (fun k hk => ?_) (fun k hk => ?_)]
    · rcases nat9r hk with rfl | rfl | rfl | rfl | rfl | rfl | rfl | rfl | rfl
      · rw [Array.getElem?_setIfInBounds_ne (by decide)]; exact hst ⟨38, 1, .int .i64 x0⟩ (by simp) rfl
      · rw [Array.getElem?_setIfInBounds_ne (by decide)]; exact hst ⟨41, 2, .int .i64 x1⟩ (by simp) rfl
      · rw [Array.getElem?_setIfInBounds_ne (by decide)]; exact hst ⟨44, 3, .int .i64 x2⟩ (by simp) rfl
      · rw [Array.getElem?_setIfInBounds_ne (by decide)]; exact hst ⟨47, 4, .int .i64 x3⟩ (by simp) rfl
      · rw [Array.getElem?_setIfInBounds_ne (by decide)]; exact hst ⟨50, 5, .int .i64 x4⟩ (by simp) rfl
      · rw [Array.getElem?_setIfInBounds_ne (by decide)]; exact hst ⟨53, 6, .int .i64 x5⟩ (by simp) rfl
      · rw [Array.getElem?_setIfInBounds_ne (by decide)]; exact hst ⟨56, 7, .int .i64 x6⟩ (by simp) rfl
      · rw [Array.getElem?_setIfInBounds_ne (by decide)]; exact hst ⟨59, 8, .int .i64 x7⟩ (by simp) rfl
      · show (cs.setIfInBounds 9 (.int .i64 x8))[9]? = _
        rw [Array.getElem?_setIfInBounds_self_of_lt (by rw [hcs]; show 9 < 22; omega)]
        rfl
    · rw [Array.getElem?_setIfInBounds_ne (by omega)];refine hnt k fun x hx _ => ?_
      simp only [List.mem_cons, List.not_mem_nil, or_false] at hx;rcases hx with rfl | rfl | rfl | rfl | rfl | rfl | rfl | rfl <;> (simp only; omega)) ⟨rfl, rfl, rfl⟩ ⟨rfl, rfl, rfl⟩ rfl HD2.out.h15
   have hdq := hd1.part 1;have hbq : Below B w ((u.setCell ⟨z, 9, none⟩ (.int .i64 x8)).setCell ⟨z, 0, none⟩ (.int .i64 1)) := (((HB2.out.mono HBw.out).trans (hbz.mono HD2.out.bz)).setCell (p := ⟨z, 9, none⟩) HD2.out.bz _).setCell (p := ⟨z, 0, none⟩) HD2.out.bz _;have HDD := hid (show docOf (setHs c [0, 1, 2, 3, 4, 5, 6, 7, 8] [x0, x1, x2, x3, x4, x5, x6, x7, x8]) X T n Q = D2 from HH2.out);clear hk9 hk0 hf9 hf0 hd1 hz hcs hst hnt hku hus hbz HS HK;generalize (u.setCell ⟨z, 9, none⟩ (.int .i64 x8)).setCell ⟨z, 0, none⟩ (.int .i64 1) = wq at *;generalize setHs c [0, 1, 2, 3, 4, 5, 6, 7, 8] [x0, x1, x2, x3, x4, x5, x6, x7, x8] = c2 at *;have HDq := hid hdq;have HBq := hid hbq;clear hdq hbq;have HNN := hid (numN_of (c := c2) (X := X) (T := T) (n := n) (Q := Q) (by rw [HDD.out]; exact HMM2.out.n) (by rw [HDD.out]; exact HMM2.out.z) HDq.out.eq);have HLn := hid (show (textS (docOf c2 X T n Q)).length ≤ 1000000 by rw [HDD.out]; have := HMM2.out.l; omega);clear HH2;have HX4 := hid (textS_len D2);have HSq := hid (show B ≤ wq.heap.size from Nat.le_trans HBw.out HBq.out.size);obtain ⟨a9, cc9, hlv9, hncc9, hnm9, htr9⟩ := HDq.out.trR;have HK24 := hid (fun (u : World) (hb : Below wq.heap.size wq u) => HT.out c2 X T a9 n cc9 Q u (HDq.out.cfIn.mono hb) (htr9.mono hb) hnm9 HNN.out HLn.out);rw [hlv9] at HDq;clear htr9 hlv9;rw [HDD.out] at HK24;unfold cfv at HK24
   refine wp_region_peelF 0 8 (fun i v u => match i with
    | 0 => v = .pointer (some ⟨z, 0, none⟩)
    | 1 => v = .pointer (some ⟨z, 0, none⟩)
    | 2 => v = .pointer (some ⟨z, 1, none⟩)
    | 3 => v = .agg (cfs c2).toArray
    | 4 => v = .pointer (some ⟨z, 0, none⟩)
    | 5 => v = .pointer (some ⟨z, 0, none⟩)
    | 6 => v = .pointer (some ⟨z, 21, none⟩)
    | 7 => v = .slice a9 n cc9
    | _ => True) (by kernel_rfl) (by kernel_rfl) rfl (fun _ _ d _ _ h => by cases d <;> exact h) ?_ ?_ ?_
   · intro i v w1 w2 hb h
     match i with
     | 0 => exact h
     | 1 => exact h
     | 2 => exact h
     | 3 => exact h
     | 4 => exact h
     | 5 => exact h
     | 6 => exact h
     | 7 => exact h
     | k + 8 => exact h
   · intro i o hp hi ho vf u1 hb hd;have hi' : i = 0 ∨ i = 1 ∨ i = 2 ∨ i = 3 ∨ i = 4 ∨ i = 5 ∨ i = 6 ∨ i = 7 := by omega
     rcases hi' with rfl | rfl | rfl | rfl | rfl | rfl | rfl | rfl
     all_goals obtain rfl := oI ho
     all_goals simp only [fillA, fA, fB, fC, fD, fH, Nat.reduceAdd]
     · clear hd;go_wp2;exact ⟨rfl, bR, rfl⟩
     · have f0 := hd 0 (by omega) (by omega) (by kernel_rfl);clear hd;go_wp2;exact ⟨rfl, bR, rfl⟩
     · have f1 := hd 1 (by omega) (by omega) (by kernel_rfl);clear hd;go_wp2;exact ⟨rfl, bR, rfl⟩
     · have f2 : vf 2 = .pointer (some ⟨z, 1, none⟩) := hd 2 (by omega) (by omega) (by kernel_rfl);clear hd;have hrg := range_docR ((hb.block z (heap_lt HDq.out.hz)).trans HDq.out.hz);simp only [Act.put, fE, fF, fG];generalize vf 2 = v2 at *;subst f2;refine wpList_load_mid rfl 37 (.tmp 428) rfl z 1 rfl (cfs c2) _ hrg Tryz.underlying37 rfl (by kernel_rfl) ?_
       go_wp2;exact ⟨rfl, bR, rfl⟩
     · clear hd;go_wp2;exact ⟨rfl, bR, rfl⟩
     · have f4 := hd 4 (by omega) (by omega) (by kernel_rfl);clear hd;go_wp2;exact ⟨rfl, bR, rfl⟩
     · have f5 := hd 5 (by omega) (by omega) (by kernel_rfl);clear hd;go_wp2;exact ⟨rfl, bR, rfl⟩
     · have f6 := hd 6 (by omega) (by omega) (by kernel_rfl);clear hd;have hcc := cell_box ((hb.block z (heap_lt HDq.out.hz)).trans HDq.out.hz) (k := 21) (v := .slice a9 n cc9) rfl;go_wp2;exact ⟨rfl, bR, rfl⟩
   · intro vf u1 hb hd;have f3 : vf 3 = .agg (cfs c2).toArray := hd 3 (by omega) (by omega);have f7 : vf 7 = .slice a9 n cc9 := hd 7 (by omega) (by omega);clear hd;simp only [fillA, fA, fB, fC, fD, fH, Nat.reduceAdd, Act.put, fE, fF, fG];generalize vf 3 = v3 at *;generalize vf 7 = v7 at *;subst f3 f7;have HBu := hid hb;clear hb;have KK := hid (HK24.out u1 HBu.out);clear HK24;go_wp2_with (go_at_call 24; refine KK.out.mono ?_; rintro e w6 ⟨v, rfl, ho6, hb6⟩; obtain ⟨a6, c6, b6, rfl, hc6, hp6, hs6⟩ := ho6.slice; have HP6 := hid hp6; have HS6 := hid hs6; have HB6 := hid (bthen' HBu.out hb6); clear hb6 ho6 hs6 hp6; refine Hid.out ?_);refine hid ?_
     have hz6 := (HB6.out.block z (heap_lt HDq.out.hz)).trans HDq.out.hz;have hc0 := cell_box hz6 (k := 0) (v := .int .i64 1) rfl;have HR6 := hid (show Below B w w6 from bthen HBq.out HB6.out HSq.out);have HD6 := hid (HDq.out.mono HB6.out);clear hz6 KK;have h4 := HX4.out;obtain ⟨e9, -, -⟩ := HP6.out (by omega);subst e9;have hcx := HS6.out 0 (by omega);rw [Nat.zero_add] at hcx;have HRF := hid (refOk_head (D := D2) (s := L) (word := wNetwork) (by decide) (p := 1) (by decide));generalize hx : (textS D2).getD 0 [] = x at *;clear hx;generalize (textS D2).length = lx at *;by_cases hq : x = L
     · have hq2 : (x == L) = true := by simp [hq]
       have e2 := HRF.out.trans (decide_eq_true hq);clear hq HRF;go_wp2;go_ret
       have eo := HO.out;rw [e2, if_pos rfl] at eo;subst eo;exact ⟨rfl, ⟨_, _, _, _, _, _, HD6.out, HDD.out⟩, HR6.out⟩
     · have hq2 : (x == L) = false := by simp [hq]
       have e2 := HRF.out.trans (decide_eq_false hq);clear hq HRF;go_wp2;go_ret
       have eo := HO.out;rw [e2, if_neg (by decide)] at eo;subst eo;exact ⟨rfl, HR6.out⟩
end
end Go.Proofs.YtgflfdnajchjaaaGreatDoor
