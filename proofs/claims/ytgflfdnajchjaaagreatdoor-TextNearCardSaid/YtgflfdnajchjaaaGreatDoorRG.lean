import Derived.Test.YtgflfdnajchjaaaGreatDoorPZ
set_option linter.unusedVariables false
set_option linter.unusedSimpArgs false
namespace Go.Proofs.YtgflfdnajchjaaaGreatDoor
open Go.Lib (hid)
open Go.RowKit
section
open Go.RowKit Go.Sort
open Tm
attribute [local go_sem] gcell bs_tl
theorem lastD_atk {M : List (List UInt8)} {k : Nat} (h : M.length = k + 1) : M.getLastD [] = M.getD k [] := by
 rw [List.getLastD_eq_getLast?, List.getLast?_eq_getElem?, List.getD_eq_getElem?_getD, h]
 rfl
set_option maxRecDepth 100000 in
set_option maxHeartbeats 64000000 in
theorem read_packetS (st : Int) (hst : st = 4 ∨ st = 5 ∨ st = 6) (HT0 : Text24) (L : List UInt8) (hs : (bs L).size ≤ 900000) (w : World) (B z : Nat) (c : Cf) (X : Nat → Ch.Fd) (T : Nat → Te) (lv : Value) (n : Nat) (Q : Nat → Tr) (D : DocR w B z st c X T lv n Q) (hBw : B ≤ w.heap.size) (hW : (spl 32 L).headD [] = wPacket)
 (D2 : DocS) (h2 : { docOf c X T n Q with pkts := (docOf c X T n Q).pkts ++ [(refNums L 4, hexR ((spl 32 L).getLastD []))] } = D2) (m : Nat) (HM : DocM D2 m) (hm : m ≤ 900000) (o : Option (Nat × DocS)) (ho : o = if refOk wPacket 6 D2 L = true then some (6, D2) else none) :
 Calls Tryz.prog 39 #[.pointer (some ⟨z, 0, none⟩), .string (bs L)] w (RdPost w B z o) := by
 rcases hst with rfl | rfl | rfl
 all_goals
  have HO := hid ho;clear ho;have HT := hid HT0;have HH2 := hid h2;have HMM2 := hid HM;clear HT0 h2 HM;have KC := hid (cut38 (bs L) hs 32 w);rw [bs_toList] at KC;have HW := hid (head_of (spl_ne 32 L) hW);have HLL := hid hs;generalize hMM : spl 32 L = M at *;have HMM := hid hMM;clear hW hMM;have HD := hid D;have HBw := hid hBw;have hc := cell_box D.hz (k := 0) (v := .int .i64 _) rfl;clear D hBw;go_enter Tryz.func39, Tryz.ntmps39;go_wp2_with (go_at_call 38; refine KC.out.mono ?_; rintro e w1 ⟨v, rfl, ho1, hb1⟩; obtain ⟨a1, c1, b1, rfl, hc1, hp1, hs1⟩ := ho1.slice; obtain ⟨e9, -, -⟩ := hp1 HW.out.2; subst e9; have hc2 := hs1 0 HW.out.2; rw [Nat.zero_add, HW.out.1] at hc2; have hc3 := up hb1 hc; have hl1 := HW.out.2; have HB1 := hid hb1; clear hb1 ho1 hs1 hp1 hc; refine Hid.out ?_);refine hid ?_
  have HD1 := hid (HD.out.mono HB1.out);clear HD KC;unfold wPacket at hc2;have KN := hid (nums60 (bs L) hs 4 (by omega));rw [bs_toList] at KN;have HR3 := hid (refNums_len L 4);generalize refNums L 4 = ns at *;go_wp2_with (go_at_call 60; refine (KN.out _).mono ?_; rintro e w2 ⟨b2, rfl, hge2, hn2, hb2⟩; have HB2 := hid (bthen' HB1.out hb2); have HN2 := hid hn2; have HG2 := hid hge2; have HD2 := hid (HD1.out.mono hb2); clear hb2 hn2 hge2; refine Hid.out ?_);refine hid ?_
  clear hc2 hc3 KN HD1
  obtain ⟨x0, x1, x2, x3, rfl⟩ : ∃ x0 x1 x2 x3, ns = [x0, x1, x2, x3] := by
   have := HR3.out
   match ns, this with
   | [x0, x1, x2, x3], _ => exact ⟨_, _, _, _, rfl⟩
  have hx0 := HN2.out 0 (by simp);have hx1 := HN2.out 1 (by simp);have hx2 := HN2.out 2 (by simp);have hx3 := HN2.out 3 (by simp);clear HN2;have HX := hid (show _ ∧ _ ∧ _ ∧ _ from ⟨hx0, hx1, hx2, hx3⟩);clear hx0 hx1 hx2 hx3;have KC2 := hid (fun W => cut38 (bs L) hs 32 W);rw [bs_toList] at KC2;rw [HMM.out] at KC2;obtain ⟨lm, hlm⟩ : ∃ lm, M.length = lm + 1 := ⟨M.length - 1, by omega⟩
  have HLM := hid hlm;have hmb : M.length ≤ L.length + 1 := by rw [← HMM.out]; exact spl_count 32 L
  have hLL : L.length ≤ 900000 := by have := HLL.out; rw [bs_size] at this; exact this
  have HLB := hid (show lm ≤ 900001 by omega)
  have HWB := hid (show (bs (M.getD lm [])).size ≤ 1000000 from by
   rw [bs_size]
   have hmem : M.getD lm [] ∈ spl 32 L := by
    rw [HMM.out, List.getD_eq_getElem?_getD, List.getElem?_eq_getElem (by omega), Option.getD_some];exact List.getElem_mem _
   have h5 := spl_len 32 L _ hmem
   omega)
  have HPD := hid (show M.getLastD [] = M.getD lm [] from lastD_atk hlm);rw [HPD.out] at HH2;clear hlm hmb hLL HPD;go_wp2_with (go_at_call 38; refine (KC2.out _).mono ?_; rintro e w3 ⟨v, rfl, ho3, hb3⟩; obtain ⟨a3, c3, b3, rfl, hc3, hp3, hs3⟩ := ho3.slice; obtain ⟨e9, -, -⟩ := hp3 (by have := HLM.out; omega); subst e9; have hs3 := hs3 lm (by have := HLM.out; omega); rw [Nat.zero_add] at hs3; have HS3 := hid hs3; have HD3 := hid (HD2.out.mono hb3); have HB3 := hid (bthen' HB2.out hb3); have HX3 := hid (show _ ∧ _ ∧ _ ∧ _ from ⟨up hb3 HX.out.1, up hb3 HX.out.2.1, up hb3 HX.out.2.2.1, up hb3 HX.out.2.2.2⟩); clear ho3 hb3 hp3 hs3 hc3; refine Hid.out ?_);refine hid ?_
  clear KC2 HX HD2;rw [HLM.out];have hlb := HLB.out;obtain ⟨WL, hWL⟩ : ∃ WL, M.getD lm [] = WL := ⟨_, rfl⟩
  rw [hWL] at HWB HS3 HH2;have KB := hid (bytes61 (bs WL) HWB.out);rw [bs_toList] at KB;obtain ⟨hXL, hHX⟩ : ∃ hXL, hexR WL = hXL := ⟨_, rfl⟩
  rw [hHX] at KB HH2;clear hWL hHX HWB;have hwk : IntKind.i64.wrap (lm : Int) = lm := IntWalk.i64_in _ ⟨by omega, by omega⟩;have HWK := hid hwk;clear hwk;go_upto_region 35 with fail
  refine wp_region_peelF 1 26 (fun i v u => match i with
   | 1 => v = .pointer (some ⟨z, 0, none⟩)
   | 2 => v = .pointer (some ⟨z, 0, none⟩)
   | 3 => v = .pointer (some ⟨z, 21, none⟩)
   | 4 => v = lv
   | 5 => v = .slice (some ⟨b2, 0, none⟩) 4 4
   | 6 => v = .pointer (some ⟨b2, 0, none⟩)
   | 7 => v = .int .i64 x0
   | 8 => v = .slice (some ⟨b2, 0, none⟩) 4 4
   | 9 => v = .pointer (some ⟨b2, 1, none⟩)
   | 10 => v = .int .i64 x1
   | 11 => v = .slice (some ⟨b2, 0, none⟩) 4 4
   | 12 => v = .pointer (some ⟨b2, 2, none⟩)
   | 13 => v = .int .i64 x2
   | 14 => v = .slice (some ⟨b2, 0, none⟩) 4 4
   | 15 => v = .pointer (some ⟨b2, 3, none⟩)
   | 16 => v = .int .i64 x3
   | 17 => v = .slice (some ⟨b3, 0, none⟩) (lm + 1) c3
   | 18 => v = .slice (some ⟨b3, 0, none⟩) (lm + 1) c3
   | 19 => v = .int .i64 ((lm : Int) + 1)
   | 20 => v = .int .i64 (lm : Int)
   | 21 => v = .pointer (some ⟨b3, lm, none⟩)
   | 22 => v = .string (bs WL)
   | 23 => (∃ a c, v = .slice a hXL.length c) ∧ OwnU u B v hXL
   | 24 => ∃ a c, v = .agg #[.int .i64 x0, .int .i64 x1, .int .i64 x2, .int .i64 x3, .slice a hXL.length c] ∧ OwnU u B (.slice a hXL.length c) hXL
   | 25 => ∃ bb a c, v = .slice (some ⟨bb, 0, none⟩) 1 1 ∧ u.heap[bb]? = some (.cells #[.int .i64 x0, .int .i64 x1, .int .i64 x2, .int .i64 x3, .slice a hXL.length c] 49 (0, 0)) ∧ OwnU u B (.slice a hXL.length c) hXL
   | _ => True) (by kernel_rfl) (by kernel_rfl) ⟨.pointer (some ⟨z, 0, none⟩), Or.inl ⟨rfl, fun _ => rfl⟩, rfl⟩ (fun _ _ d _ _ h => by cases d <;> exact h) ?_ ?_ ?_
  · intro i v w1 w2 hb h
    match i with
    | 1 => exact h
    | 2 => exact h
    | 3 => exact h
    | 4 => exact h
    | 5 => exact h
    | 6 => exact h
    | 7 => exact h
    | 8 => exact h
    | 9 => exact h
    | 10 => exact h
    | 11 => exact h
    | 12 => exact h
    | 13 => exact h
    | 14 => exact h
    | 15 => exact h
    | 16 => exact h
    | 17 => exact h
    | 18 => exact h
    | 19 => exact h
    | 20 => exact h
    | 21 => exact h
    | 22 => exact h
    | 23 =>
      exact ⟨h.1, own_below h.2 hb⟩
    | 24 =>
      obtain ⟨a, c, e1, e2⟩ := h;exact ⟨a, c, e1, own_below e2 hb⟩
    | 25 =>
      obtain ⟨bb, a, c, e1, e2, e3⟩ := h;exact ⟨bb, a, c, e1, (hb.block bb (heap_lt e2)).trans e2, own_below e3 hb⟩
    | 0 => exact h
    | k + 26 => exact h
  · intro i o hp hi ho vf u1 hb hd;have hi' : i = 1 ∨ i = 2 ∨ i = 3 ∨ i = 4 ∨ i = 5 ∨ i = 6 ∨ i = 7 ∨ i = 8 ∨ i = 9 ∨ i = 10 ∨ i = 11 ∨ i = 12 ∨ i = 13 ∨ i = 14 ∨ i = 15 ∨ i = 16 ∨ i = 17 ∨ i = 18 ∨ i = 19 ∨ i = 20 ∨ i = 21 ∨ i = 22 ∨ i = 23 ∨ i = 24 ∨ i = 25 := by omega
    rcases hi' with rfl | rfl | rfl | rfl | rfl | rfl | rfl | rfl | rfl | rfl | rfl | rfl | rfl | rfl | rfl | rfl | rfl | rfl | rfl | rfl | rfl | rfl | rfl | rfl | rfl
    all_goals obtain rfl := oI ho
    all_goals simp only [fillA, fA, fB, fC, fD, fH, Nat.reduceAdd]
    · clear hd;go_wp2;exact ⟨rfl, bR, rfl⟩
    · have f1 := hd 1 (by omega) (by omega) (by kernel_rfl);clear hd;go_wp2;exact ⟨rfl, bR, rfl⟩
    · have f2 := hd 2 (by omega) (by omega) (by kernel_rfl);clear hd;go_wp2;exact ⟨rfl, bR, rfl⟩
    · have f3 := hd 3 (by omega) (by omega) (by kernel_rfl);clear hd;have hcc := cell_box (HD3.out.mono hb).hz (k := 21) (v := lv) rfl;go_wp2;exact ⟨rfl, bR, rfl⟩
    · clear hd;go_wp2;exact ⟨rfl, bR, rfl⟩
    · have f5 := hd 5 (by omega) (by omega) (by kernel_rfl);clear hd;go_wp2;exact ⟨rfl, bR, rfl⟩
    · have f6 := hd 6 (by omega) (by omega) (by kernel_rfl);clear hd;have hcc := up hb (HX3.out.1);go_wp2;exact ⟨rfl, bR, rfl⟩
    · clear hd;go_wp2;exact ⟨rfl, bR, rfl⟩
    · have f8 := hd 8 (by omega) (by omega) (by kernel_rfl);clear hd;go_wp2;exact ⟨rfl, bR, rfl⟩
    · have f9 := hd 9 (by omega) (by omega) (by kernel_rfl);clear hd;have hcc := up hb (HX3.out.2.1);go_wp2;exact ⟨rfl, bR, rfl⟩
    · clear hd;go_wp2;exact ⟨rfl, bR, rfl⟩
    · have f11 := hd 11 (by omega) (by omega) (by kernel_rfl);clear hd;go_wp2;exact ⟨rfl, bR, rfl⟩
    · have f12 := hd 12 (by omega) (by omega) (by kernel_rfl);clear hd;have hcc := up hb (HX3.out.2.2.1);go_wp2;exact ⟨rfl, bR, rfl⟩
    · clear hd;go_wp2;exact ⟨rfl, bR, rfl⟩
    · have f14 := hd 14 (by omega) (by omega) (by kernel_rfl);clear hd;go_wp2;exact ⟨rfl, bR, rfl⟩
    · have f15 := hd 15 (by omega) (by omega) (by kernel_rfl);clear hd;have hcc := up hb (HX3.out.2.2.2);go_wp2;exact ⟨rfl, bR, rfl⟩
    · clear hd;go_wp2;exact ⟨rfl, bR, rfl⟩
    · clear hd;go_wp2;exact ⟨rfl, bR, rfl⟩
    · have f18 := hd 18 (by omega) (by omega) (by kernel_rfl);clear hd;go_wp2;exact ⟨rfl, bR, rfl⟩
    · have f19 := hd 19 (by omega) (by omega) (by kernel_rfl);clear hd;have hwk := HWK.out;go_wp2;exact ⟨rfl, bR, rfl⟩
    · have f17 := hd 17 (by omega) (by omega) (by kernel_rfl);have f20 := hd 20 (by omega) (by omega) (by kernel_rfl);clear hd;go_wp2;exact ⟨rfl, bR, rfl⟩
    · have f21 := hd 21 (by omega) (by omega) (by kernel_rfl);clear hd;have hcc := up hb HS3.out;go_wp2;exact ⟨rfl, bR, rfl⟩
    · have f22 : vf 22 = .string (bs WL) := hd 22 (by omega) (by omega) (by kernel_rfl);clear hd;simp only [Act.put, fE, fF, fG];generalize vf 22 = v22 at *;subst f22;go_wp2_with (go_at_call 61; refine (KB.out _).mono ?_; rintro e w4 ⟨v, rfl, ho4, hb4⟩);obtain ⟨a4, c4, e4, -, -, -⟩ := own_slice ho4;exact ⟨rfl, hb4, ⟨a4, c4, e4⟩, own_base ho4 (Nat.le_trans HBw.out (Nat.le_trans HB3.out.size hb.size))⟩
    · have f7 := hd 7 (by omega) (by omega) (by kernel_rfl);have f10 := hd 10 (by omega) (by omega) (by kernel_rfl);have f13 := hd 13 (by omega) (by omega) (by kernel_rfl);have f16 := hd 16 (by omega) (by omega) (by kernel_rfl);obtain ⟨⟨a4, c4, f23⟩, g23⟩ := hd 23 (by omega) (by omega) (by kernel_rfl);clear hd;rw [f23] at g23;have HG := hid g23;clear g23;go_wp2;exact ⟨rfl, bR, a4, c4, rfl, HG.out⟩
    · obtain ⟨a4, c4, f24, g24⟩ := hd 24 (by omega) (by omega) (by kernel_rfl);clear hd;have HG := hid g24;clear g24;go_wp2;exact ⟨rfl, (bR).alloc (Nat.le_refl _) _, _, a4, c4, rfl, (MapKept.heap_alloc u1 _).1, own_below HG.out ((bR).alloc (Nat.le_refl _) _)⟩
  · intro vf u1 hb hd;have f4 : vf 4 = lv := hd 4 (by omega) (by omega);obtain ⟨bb, ba, bc, f25, hcell, hou⟩ := hd 25 (by omega) (by omega);clear hd;simp only [fillA, fA, fB, fC, fD, fH, Nat.reduceAdd, Act.put, fE, fF, fG];generalize vf 25 = v25 at *;generalize vf 4 = v4 at *;subst f25;have HD5 := hid (HD3.out.mono hb);have HB5 := hid (bthen' HB3.out hb);have HOU := hid hou
    have HX := hid (show ∀ j, j < 5 → (#[.int .i64 x0, .int .i64 x1, .int .i64 x2, .int .i64 x3, .slice ba hXL.length bc] : Array Value)[j]? = some (trv (addQ Q n [x0, x1, x2, x3] ba hXL.length bc hXL) (n * 5 + j)) from fun j hj => by
     rw [trv_at _ _ _ hj];unfold addQ;rw [if_pos rfl];have : j = 0 ∨ j = 1 ∨ j = 2 ∨ j = 3 ∨ j = 4 := by omega
     rcases this with rfl | rfl | rfl | rfl | rfl <;> rfl)
    have HX2 := hid (show ∀ j, j < n * 5 → trv (addQ Q n [x0, x1, x2, x3] ba hXL.length bc hXL) j = trv Q j from fun j hj => by
     unfold trv addQ;rw [if_neg (by omega)])
    have HBz := hid (Nat.le_trans HBw.out HB5.out.size)
    have HNB := hid (show n + 1 ≤ 1000000 from by
     have h1 := (text_bounds D2).2.2.1;have h2 := HMM2.out.l;have h3 : D2.pkts.length = n + 1 := by rw [← HH2.out]; simp [docOf]
     omega)
    have HPL := hid (show (D2.pkts.getLastD ([], [])).2 = hXL from by rw [← HH2.out]; simp);clear hb hou HD3 HX3;refine wpList_append_at u1 B rfl (.tmp 398) (.tmp 419) 43 rfl 49 (.agg #[.int .i64 0, .int .i64 0, .int .i64 0, .int .i64 0, .slice none 0 0]) 5 56 Tryz.underlying43 pz49 rfl (by decide) (by decide) lv n (trv Q) f4 bb #[.int .i64 x0, .int .i64 x1, .int .i64 x2, .int .i64 x3, .slice ba hXL.length bc] (0, 0) rfl hcell rfl (by intro y hy; simp at hy; rcases hy with rfl | rfl | rfl | rfl | rfl <;> rfl) (trv (addQ Q n [x0, x1, x2, x3] ba hXL.length bc hXL)) HX2.out HX.out HD5.out.l HBz.out HNB.out ?_
    intro v' w5 hown hgrow _;obtain ⟨a', c', rfl, -, -, -⟩ := own_slice hown;have HN := hid (HD5.out.addP (Q' := (addQ Q n [x0, x1, x2, x3] ba hXL.length bc hXL)) (fun k hk => if_neg (Nat.ne_of_lt hk)) (by unfold addQ; rw [if_pos rfl]; exact HOU.out) hown hgrow);have hz5 := (hgrow.block z (heap_lt HD5.out.hz) (fun e => own_ne HD5.out.l HD5.out.hz (by decide) e.symm rfl)).trans HD5.out.hz;have hc21 := cell_box hz5 (k := 21) (v := lv) rfl;have hc00 := cell_box hz5 (k := 0) (v := .int .i64 _) rfl;have hf21 := frozen_of_row w5 z 21 _ _ hz5;have hf00 := frozen_of_row w5 z 0 _ _ hz5;have HB6 := hid ((HB5.out.mono HBw.out).grown hgrow HBz.out (fun k hk => (HD5.out.l.lt k hk).1));clear hown hgrow hz5 hcell f4;go_upto_region 37 with fail
    have hdq := HN.out.part 6;have hbq := (HB6.out.setCell (p := ⟨z, 21, none⟩) HD5.out.bz (.slice a' (n + 1) c')).setCell (p := ⟨z, 0, none⟩) HD5.out.bz (.int .i64 6);have HDD := hid ((docOf_addP c X T n Q ba hXL.length bc hXL (ns := [x0, x1, x2, x3]) rfl).trans HH2.out);have HQL := hid (show ((addQ Q n [x0, x1, x2, x3] ba hXL.length bc hXL) n).by' = hXL from by unfold addQ; rw [if_pos rfl]);clear hc21 hf21 hc00 hf00 HN HB6 HD5 HB5 HX HX2 HBz HOU;generalize (w5.setCell ⟨z, 21, none⟩ (.slice a' (n + 1) c')).setCell ⟨z, 0, none⟩ (.int .i64 6) = wq at *;generalize (addQ Q n [x0, x1, x2, x3] ba hXL.length bc hXL) = Q2 at *;have HDq := hid hdq;have HBq := hid hbq;clear hdq hbq;have HNN := hid (numN_of (c := c) (X := X) (T := T) (n := (n + 1)) (Q := Q2) (by rw [HDD.out]; exact HMM2.out.n) (by rw [HDD.out]; exact HMM2.out.z) HDq.out.eq);have HLn := hid (show (textS (docOf c X T (n + 1) Q2)).length ≤ 1000000 by rw [HDD.out]; have := HMM2.out.l; omega);clear HH2;have HX4 := hid (textS_len D2);have HSq := hid (show B ≤ wq.heap.size from Nat.le_trans HBw.out HBq.out.size);obtain ⟨a9, cc9, hlv9, hncc9, hnm9, htr9⟩ := HDq.out.trR;have HK24 := hid (fun (u : World) (hb : Below wq.heap.size wq u) => HT.out c X T a9 (n + 1) cc9 Q2 u (HDq.out.cfIn.mono hb) (htr9.mono hb) hnm9 HNN.out HLn.out);rw [hlv9] at HDq;clear htr9 hlv9;rw [HDD.out] at HK24;unfold cfv at HK24
    refine wp_region_peelF 0 8 (fun i v u => match i with
     | 0 => v = .pointer (some ⟨z, 0, none⟩)
     | 1 => v = .pointer (some ⟨z, 0, none⟩)
     | 2 => v = .pointer (some ⟨z, 1, none⟩)
     | 3 => v = .agg (cfs c).toArray
     | 4 => v = .pointer (some ⟨z, 0, none⟩)
     | 5 => v = .pointer (some ⟨z, 0, none⟩)
     | 6 => v = .pointer (some ⟨z, 21, none⟩)
     | 7 => v = .slice a9 (n + 1) cc9
     | _ => True) (by kernel_rfl) (by kernel_rfl) rfl (fun _ _ d _ _ h => by cases d <;> exact h) ?_ ?_ ?_
    · intro i v w1 w2 hb h
      match i with
      | 0 => exact h
      | 1 => exact h
      | 2 => exact h
      | 3 => exact h
      | 4 => exact h
      | 5 => exact h
      | 6 => exact h
      | 7 => exact h
      | k + 8 => exact h
    · intro i o hp hi ho vf u1 hb hd;have hi' : i = 0 ∨ i = 1 ∨ i = 2 ∨ i = 3 ∨ i = 4 ∨ i = 5 ∨ i = 6 ∨ i = 7 := by omega
      rcases hi' with rfl | rfl | rfl | rfl | rfl | rfl | rfl | rfl
      all_goals obtain rfl := oI ho
      all_goals simp only [fillA, fA, fB, fC, fD, fH, Nat.reduceAdd]
      · clear hd;go_wp2;exact ⟨rfl, bR, rfl⟩
      · have f0 := hd 0 (by omega) (by omega) (by kernel_rfl);clear hd;go_wp2;exact ⟨rfl, bR, rfl⟩
      · have f1 := hd 1 (by omega) (by omega) (by kernel_rfl);clear hd;go_wp2;exact ⟨rfl, bR, rfl⟩
      · have f2 : vf 2 = .pointer (some ⟨z, 1, none⟩) := hd 2 (by omega) (by omega) (by kernel_rfl);clear hd;have hrg := range_docR ((hb.block z (heap_lt HDq.out.hz)).trans HDq.out.hz);simp only [Act.put, fE, fF, fG];generalize vf 2 = v2 at *;subst f2;refine wpList_load_mid rfl 37 (.tmp 428) rfl z 1 rfl (cfs c) _ hrg Tryz.underlying37 rfl (by kernel_rfl) ?_
        go_wp2;exact ⟨rfl, bR, rfl⟩
      · clear hd;go_wp2;exact ⟨rfl, bR, rfl⟩
      · have f4 := hd 4 (by omega) (by omega) (by kernel_rfl);clear hd;go_wp2;exact ⟨rfl, bR, rfl⟩
      · have f5 := hd 5 (by omega) (by omega) (by kernel_rfl);clear hd;go_wp2;exact ⟨rfl, bR, rfl⟩
      · have f6 := hd 6 (by omega) (by omega) (by kernel_rfl);clear hd;have hcc := cell_box ((hb.block z (heap_lt HDq.out.hz)).trans HDq.out.hz) (k := 21) (v := .slice a9 (n + 1) cc9) rfl;go_wp2;exact ⟨rfl, bR, rfl⟩
    · intro vf u1 hb hd;have f3 : vf 3 = .agg (cfs c).toArray := hd 3 (by omega) (by omega);have f7 : vf 7 = .slice a9 (n + 1) cc9 := hd 7 (by omega) (by omega);clear hd;simp only [fillA, fA, fB, fC, fD, fH, Nat.reduceAdd, Act.put, fE, fF, fG];generalize vf 3 = v3 at *;generalize vf 7 = v7 at *;subst f3 f7;have HBu := hid hb;clear hb;have KK := hid (HK24.out u1 HBu.out);clear HK24;go_wp2_with (go_at_call 24; refine KK.out.mono ?_; rintro e w6 ⟨v, rfl, ho6, hb6⟩; obtain ⟨a6, c6, b6, rfl, hc6, hp6, hs6⟩ := ho6.slice; have HP6 := hid hp6; have HS6 := hid hs6; have HB6 := hid (bthen' HBu.out hb6); clear hb6 ho6 hs6 hp6; refine Hid.out ?_);refine hid ?_
      have hz6 := (HB6.out.block z (heap_lt HDq.out.hz)).trans HDq.out.hz;have hc0 := cell_box hz6 (k := 0) (v := .int .i64 6) rfl;have HR6 := hid (show Below B w w6 from bthen HBq.out HB6.out HSq.out);have HD6 := hid (HDq.out.mono HB6.out);clear hz6 KK;have h4 := HX4.out;have hln := HLn.out;rw [HDD.out] at hln;obtain ⟨ly, hly, hly3⟩ : ∃ ly, (textS D2).length = ly + 1 ∧ 3 ≤ ly := ⟨(textS D2).length - 1, by omega, by omega⟩
      have HRF := hid (refOk_packet (D := D2) (s := L) (p := 6));rw [HPL.out, lastD_atk hly] at HRF;rw [hly] at hln h4 HP6 hc6 ⊢;obtain ⟨e9, -, hl6⟩ := HP6.out (by omega);subst e9;have hcx := HS6.out ly (by rw [hly]; omega);rw [Nat.zero_add] at hcx;have HLy := hid (show ly + 1 ≤ 1000000 from hln);clear HLn HX4 hly HP6 HS6 hln;obtain ⟨a8, cc8, e8, -, -, b8, m8, h81, h82⟩ := HD6.out.trR;injection e8 with e8a e8b e8c
      subst e8a e8c;obtain ⟨-, -, -, -, q4, -, q6, -⟩ := h82 n (by omega);rw [q6, HQL.out] at q4;have e8x := h81 (by omega);clear h81 h82 q6 e8b;have hz6 := HD6.out.hz;have hc21 := cell_box hz6 (k := 21) (v := .slice a9 (n + 1) cc9) rfl;rw [e8x] at hc21;have hlz : z < w6.heap.size := heap_lt hz6;have hl8 : b8 < w6.heap.size := World.block_lt_of_cell? _ _ q4;have hnb : n + 1 ≤ 1000000 := HNB.out;have hw1 : IntKind.i64.wrap (ly : Int) = ly := IntWalk.i64_in _ ⟨by omega, by have := HLy.out; omega⟩;have hw2 : IntKind.i64.wrap (n : Int) = n := IntWalk.i64_in _ ⟨by omega, by omega⟩;clear hz6 HNB e8x;generalize hXL.length = hl at *;generalize (Q2 n).pa = pa2 at *;generalize (Q2 n).pc = pc2 at *;generalize (textS D2).getD ly [] = x at *;by_cases hq : x = L
      · have hq2 : (x == L) = true := by simp [hq]
        by_cases hp : 0 < hl
        · have e2 := HRF.out.trans (decide_eq_true ⟨hq, hp⟩);clear hq HRF;go_upto_region 39 with fail
          refine wp_region_quiet_below (by kernel_rfl) (by kernel_rfl) ?_
          repeat (go_big_quiet_step (fail))
          with_reducible refine wpQuiet_nil ?_
          intro w7 hw7;have HB7 := hid (below_of_regrown hw7);clear hw7;go_wp2;go_ret
          have eo := HO.out;rw [e2, if_pos rfl] at eo;subst eo;exact ⟨rfl, ⟨_, _, _, _, _, _, HD6.out.mono HB7.out, HDD.out⟩, bthen HR6.out HB7.out (Nat.le_trans HD6.out.bz (Nat.le_of_lt (heap_lt HD6.out.hz)))⟩
        · have e2 := HRF.out.trans (decide_eq_false fun h => hp h.2);obtain rfl : hl = 0 := by omega
          clear hq HRF hp;go_upto_region 39 with fail
          refine wp_region_quiet_below (by kernel_rfl) (by kernel_rfl) ?_
          repeat (go_big_quiet_step (fail))
          with_reducible refine wpQuiet_nil ?_
          intro w7 hw7;have HB7 := hid (below_of_regrown hw7);clear hw7;go_wp2;go_ret
          have eo := HO.out;rw [e2, if_neg (by decide)] at eo;subst eo;exact ⟨rfl, bthen HR6.out HB7.out (Nat.le_trans HD6.out.bz (Nat.le_of_lt (heap_lt HD6.out.hz)))⟩
      · have hq2 : (x == L) = false := by simp [hq]
        have e2 := HRF.out.trans (decide_eq_false fun h => hq h.1);clear hq HRF;go_upto_region 39 with fail
        refine wp_region_quiet_below (by kernel_rfl) (by kernel_rfl) ?_
        repeat (go_big_quiet_step (fail))
        with_reducible refine wpQuiet_nil ?_
        intro w7 hw7;have HB7 := hid (below_of_regrown hw7);clear hw7;go_wp2;go_ret
        have eo := HO.out;rw [e2, if_neg (by decide)] at eo;subst eo;exact ⟨rfl, bthen HR6.out HB7.out (Nat.le_trans HD6.out.bz (Nat.le_of_lt (heap_lt HD6.out.hz)))⟩
end
end Go.Proofs.YtgflfdnajchjaaaGreatDoor
