import Derived.Test.YtgflfdnajchjaaaGreatDoorRO
import Derived.Test.YtgflfdnajchjaaaGreatDoorPB
import Derived.Deep.MidRow
set_option linter.unusedVariables false
set_option linter.unusedSimpArgs false
namespace Go.Proofs.YtgflfdnajchjaaaGreatDoor
open Go.Lib (hid)
open Go.RowKit
section
open Go.RowKit Go.Sort
attribute [local go_sem] gcell
def NewB (u : World) (v : Value) (m : Nat) : Prop := ∃ b0, v = .slice (some ⟨b0, 0, none⟩) m m ∧ ∀ k, k < m → ∃ c : UInt8, u.cell? ⟨b0, 0 + k, none⟩ = some (.int .u8 (c.toNat : Int))
def ByH (w : World) (B : Nat) (v : Value) : Prop := ∃ n, 28 ≤ n ∧ n ≤ 40 ∧ ByR w B v n
def RowS (B1 n0 : Nat) (l : List Nat) (k : Nat) (v : Value) (u : World) : Prop := ByR u B1 v (n0 + l.getD k 0)
def RowS8 (B1 n0 : Nat) (v0 : Value) (k : Nat) (v : Value) (u : World) : Prop := match k with | 0 => ByR u B1 v0 n0 | 1 => ByR u B1 v0 n0 ∧ NewB u v 2 | 2 => ByR u B1 v (n0 + 2) | _ => ByR u B1 v (n0 + 4)
theorem new_lit (w : World) (l : List UInt8) : NewB (w.alloc (.cells (Lib.byteCells l).toArray 5)) (.slice (some ⟨w.heap.size, 0, none⟩) l.length l.length) l.length :=
 ⟨_, rfl, fun k hk => by
  have := new_by w (Lib.byteCells l).toArray (fun v hv => by
   obtain ⟨c, -, rfl⟩ := List.mem_map.1 (show v ∈ l.map _ from by simpa [Lib.byteCells] using hv)
   exact ⟨c, rfl⟩) k (by simpa [Lib.byteCells] using hk)
  exact this⟩
set_option maxRecDepth 100000 in
set_option maxHeartbeats 8000000 in
theorem head72 (h : Hd) (H : HdOk h) (w : World) : Calls Tryz.prog 72 #[hdv h] w fun e w' => ∃ v, e = .returned v ∧ ByH w' (w.heap.size + 1) v ∧ Below w.heap.size w w' := by
 have K71 := hid (fun W => (valid71 h H W))
 have hbl := (Below.refl w.heap.size w).alloc (Nat.le_refl _) (.cells (hdc h).toArray 121)
 have HB0 := hid hbl
 have HZ0 := hid (bx_new w (hdc h).toArray 121)
 have HK := hid H.k
 have ty0 := H.ty.1
 have ty1 := H.ty.2
 clear hbl H
 have hv : hdv h = .agg (hdc h).toArray := rfl
 rw [hv]
 clear hv
 go_enter Tryz.func72, Tryz.ntmps72
 go_upto_region 1 with fail
 have hz : w.heap.size < (w.alloc (.cells (hdc h).toArray 121)).heap.size := by simp
 generalize hw1 : w.alloc (.cells (hdc h).toArray 121) = w1 at *
 clear hw1
 generalize hzz : w.heap.size = z at *
 have HZR := hid (bx_range HZ0.out rfl)
 go_upto_region 3 with (first | (refine wpList_load_mid rfl 121 (.tmp 1) rfl z 0 rfl (hdc h) _ HZR.out Tryz.underlying121 rfl (by kernel_rfl) ?_) | (go_at_call 71; refine (K71.out _).mono ?_; rintro e w2 ⟨rfl, hb2⟩; refine Hid.out ?_))
 refine hid ?_
 have HZ := hid (fun (u : World) (hu : Below (z + 1) w1 u) (k : Nat) (v : Value) (hk : (hdc h)[k]? = some v) => (show u.cell? ⟨z, k, none⟩ = some v by
  have hb := (hu.block z (Nat.lt_succ_self z)).trans HZ0.out
  exact bx_cell hb k (by simpa using hk)))
 obtain ⟨B1, hB1⟩ : ∃ B1, B1 = z + 1 := ⟨_, rfl⟩
 have HB := hid (show Below B1 w1 w2 from hB1 ▸ hb2.mono hz)
 rw [← hB1] at HZ
 have hBw : B1 ≤ w1.heap.size := by omega
 have HB1 := hid hB1
 clear hB1
 clear hb2 HZ0 HZR K71
 have c1 := HZ.out w2 HB.out 1 _ rfl
 go_upto_region 4 with fail
 clear c1
 have hsz := HB.out.size
 have HU := hid (show ByR (w2.alloc (.cells #[.int .u8 69, .int .u8 0, .int .u8 0, .int .u8 0] 5)) B1 (.slice (some ⟨w2.heap.size, 0, none⟩) 4 4) 4 from (byr_new w2 [69, 0, 0, 0] (by decide)).base (by omega))
 replace HB := hid (HB.out.alloc (by omega) (.cells #[.int .u8 69, .int .u8 0, .int .u8 0, .int .u8 0] 5))
 generalize w2.alloc _ = w3 at *
 generalize Value.slice (some ⟨w2.heap.size, 0, none⟩) 4 4 = v0 at *
 clear hsz
 have c2 := HZ.out w3 HB.out 2 _ rfl
 go_upto_region 5 with (go_at_call 103; refine (put103 2 _ (by omega) v0 4 B1 (by omega) w3 HU.out (by have := HB.out.size; omega)).mono ?_; rintro e w4 ⟨v1, rfl, hv1, hb1⟩)
 replace HU := hid hv1
 replace HB := hid (HB.out.trans hb1)
 clear hv1 hb1 c2
 have c3 := HZ.out w4 HB.out 3 _ rfl
 have c4 := HZ.out w4 HB.out 4 _ rfl
 obtain ⟨b5, hb5, HN⟩ := new_lit w4 [0, 0, 64, 17, 0, 0]
 injection hb5 with hb5 _ _
 injection hb5 with hb5
 injection hb5 with hb5 _ _
 subst hb5
 have hsz := HB.out.size
 go_upto_region 6 with (at_builtin; refine wpList_append_by (w4.alloc (.cells (Lib.byteCells [0, 0, 64, 17, 0, 0]).toArray 5)) B1 rfl (.tmp 15) (.tmp 23) rfl v1 6 rfl (HU.out.alloc _) w4.heap.size 0 6 6 rfl HN (by omega) (by simp; omega) ?_; intro v5 w5 h5 hg5 hv5)
 replace HB := hid (HB.out.trans (by_app (bR) (by omega) HU.out hg5))
 replace HU := hid (show ByR w5 B1 v5 12 from h5)
 clear HN h5 hg5 hv5 c3 c4 hsz
 obtain ⟨n0, hn0, HN0⟩ : ∃ n0 : Nat, n0 ≤ 100 ∧ Hid (n0 = 12) := ⟨12, by decide, hid rfl⟩
 rw [← HN0.out] at HU
 generalize v5 = v0 at *
 refine wp_region_peelJ 1 7 (Below B1) (fun i v u => match i with
  | 1 => v = .pointer (some ⟨z, 5, none⟩)
  | 2 => v = .int .i64 167772161
  | 3 => True
  | 4 => v = .pointer (some ⟨z, 6, none⟩)
  | 5 => v = .int .i64 167772162
  | 6 => True
  | _ => True) (ChJ (RowS B1 n0 [0, 4, 8]) v0 [3, 6]) (by kernel_rfl) (by kernel_rfl) ⟨v0, Or.inl ⟨rfl, fun _ => rfl⟩, rfl⟩ (fun _ _ d _ _ h => by cases d <;> exact h) (bR).drew (fun _ _ _ h1 h2 => h1.trans h2) (fun _ _ _ _ _ h1 h2 h => h.congr (by decide) h1 h2) (ChJ.start (by decide) (HU.out.mono (bR).drew)) ?_ ?_ ?_
 · intro i v w1 w2 hb h
   match i with
   | 1 => exact h
   | 2 => exact h
   | 3 => exact h
   | 4 => exact h
   | 5 => exact h
   | 6 => exact h
   | 0 => exact h
   | k + 7 => exact h
 · intro i o hp hi ho L vf u1 hun hw hb hj hd
   have hi' : i = 1 ∨ i = 2 ∨ i = 3 ∨ i = 4 ∨ i = 5 ∨ i = 6 := by omega
   rcases hi' with rfl | rfl | rfl | rfl | rfl | rfl
   all_goals obtain rfl := oI ho
   all_goals simp only [fillA, fA, fB, fC, fD, fH, Nat.reduceAdd]
   · have HJ := hid hj
     clear hd hw hj
     go_wp2
     exact ⟨rfl, bR, rfl, HJ.out.other (by decide) (fun _ _ h => h)⟩
   · have f1 := hd 1 (by omega) (by omega) (hw 1 (by kernel_rfl))
     have HJ := hid hj
     have hcc := HZ.out u1 (HB.out.trans hb) 5 _ rfl
     clear hd hw hj
     simp only [Act.put, fE, fF, fG]
     generalize vf 1 = vv at *
     subst f1
     go_wp2
     exact ⟨rfl, bR, rfl, HJ.out.other (by decide) (fun _ _ h => h)⟩
   · have f2 := hd 2 (by omega) (by omega) (hw 2 (by kernel_rfl))
     obtain ⟨hs, -⟩ := hj.stage (j0 := 0) (by decide) hun (.inl rfl)
     have HS := hid (show ByR u1 B1 v0 (n0 + 0) from hs)
     have HJ := hid (fun (v : Value) (u' : World) (hv : ByR u' B1 v (n0 + 4)) => hj.next (j0 := 0) (by decide) hun (.inl rfl) (by decide) hv)
     have HBu := hid (HB.out.trans hb)
     have hsz := HBu.out.size
     clear hd hw hj hs
     simp only [Act.put, fE, fF, fG]
     generalize vf 2 = vv at *
     subst f2
     go_wp2_with (go_at_call 103; refine (put103 4 167772161 (by omega) v0 (n0 + 0) B1 (by omega) u1 HS.out (by omega)).mono ?_; rintro e w3 ⟨v1, rfl, hv1, hb1⟩)
     exact ⟨rfl, hb1, trivial, HJ.out _ _ hv1⟩
   · have HJ := hid hj
     clear hd hw hj
     go_wp2
     exact ⟨rfl, bR, rfl, HJ.out.other (by decide) (fun _ _ h => h)⟩
   · have f4 := hd 4 (by omega) (by omega) (hw 4 (by kernel_rfl))
     have HJ := hid hj
     have hcc := HZ.out u1 (HB.out.trans hb) 6 _ rfl
     clear hd hw hj
     simp only [Act.put, fE, fF, fG]
     generalize vf 4 = vv at *
     subst f4
     go_wp2
     exact ⟨rfl, bR, rfl, HJ.out.other (by decide) (fun _ _ h => h)⟩
   · have f5 := hd 5 (by omega) (by omega) (hw 5 (by kernel_rfl))
     obtain ⟨hs, -⟩ := hj.stage (j0 := 1) (by decide) hun (.inr (hw 3 (by kernel_rfl)))
     have HS := hid (show ByR u1 B1 (vf 3) (n0 + 4) from hs)
     have HJ := hid (fun (v : Value) (u' : World) (hv : ByR u' B1 v (n0 + 8)) => hj.next (j0 := 1) (by decide) hun (.inr (hw 3 (by kernel_rfl))) (by decide) hv)
     have HBu := hid (HB.out.trans hb)
     have hsz := HBu.out.size
     clear hd hw hj hs
     simp only [Act.put, fE, fF, fG]
     generalize vf 5 = vv at *
     subst f5
     generalize vf 3 = v0 at *
     go_wp2_with (go_at_call 103; refine (put103 4 167772162 (by omega) v0 (n0 + 4) B1 (by omega) u1 HS.out (by omega)).mono ?_; rintro e w3 ⟨v1, rfl, hv1, hb1⟩)
     exact ⟨rfl, hb1, trivial, HJ.out _ _ hv1⟩
 intro vf u1 hb hj hd
 have HU2 := hid (show ByR u1 B1 (vf 6) (n0 + 8) from hj.fin (by decide))
 have HB2 := hid (HB.out.trans hb)
 clear hd hj hb
 simp only [fillA, fA, fB, fC, fD, fH, Nat.reduceAdd]
 simp only [Act.put, fE, fF, fG]
 generalize vf 6 = v1 at *
 clear HU HB
 obtain ⟨n1, HN1⟩ : ∃ n1 : Nat, Hid (n1 = n0 + 8) := ⟨n0 + 8, hid rfl⟩
 have HU := hid (show ByR u1 B1 v1 n1 from HN1.out ▸ HU2.out)
 have HB := HB2
 replace HN1 := hid (HN1.out.trans (congrArg (· + 8) HN0.out))
 clear HN0 hn0 HU2 HB2
 have hn1 : n1 ≤ 100 := by rw [HN1.out]; decide
 generalize n1 = n0 at *
 generalize v1 = v0 at *
 have hn0 := hn1
 have HN0 := HN1
 clear hn1 HN1
 go_upto_region 7 with fail
 refine wp_region_peelJ 1 7 (Below B1) (fun i v u => match i with
  | 1 => v = .pointer (some ⟨z, 7, none⟩)
  | 2 => v = .int .i64 h.fp
  | 3 => True
  | 4 => v = .pointer (some ⟨z, 8, none⟩)
  | 5 => v = .int .i64 2000
  | 6 => True
  | _ => True) (ChJ (RowS B1 n0 [0, 2, 4]) v0 [3, 6]) (by kernel_rfl) (by kernel_rfl) ⟨v0, Or.inl ⟨rfl, fun _ => rfl⟩, rfl⟩ (fun _ _ d _ _ h => by cases d <;> exact h) (bR).drew (fun _ _ _ h1 h2 => h1.trans h2) (fun _ _ _ _ _ h1 h2 h => h.congr (by decide) h1 h2) (ChJ.start (by decide) (HU.out.mono (bR).drew)) ?_ ?_ ?_
 · intro i v w1 w2 hb h
   match i with
   | 1 => exact h
   | 2 => exact h
   | 3 => exact h
   | 4 => exact h
   | 5 => exact h
   | 6 => exact h
   | 0 => exact h
   | k + 7 => exact h
 · intro i o hp hi ho L vf u1 hun hw hb hj hd
   have hi' : i = 1 ∨ i = 2 ∨ i = 3 ∨ i = 4 ∨ i = 5 ∨ i = 6 := by omega
   rcases hi' with rfl | rfl | rfl | rfl | rfl | rfl
   all_goals obtain rfl := oI ho
   all_goals simp only [fillA, fA, fB, fC, fD, fH, Nat.reduceAdd]
   · have HJ := hid hj
     clear hd hw hj
     go_wp2
     exact ⟨rfl, bR, rfl, HJ.out.other (by decide) (fun _ _ h => h)⟩
   · have f1 := hd 1 (by omega) (by omega) (hw 1 (by kernel_rfl))
     have HJ := hid hj
     have hcc := HZ.out u1 (HB.out.trans hb) 7 _ rfl
     clear hd hw hj
     simp only [Act.put, fE, fF, fG]
     generalize vf 1 = vv at *
     subst f1
     go_wp2
     exact ⟨rfl, bR, rfl, HJ.out.other (by decide) (fun _ _ h => h)⟩
   · have f2 := hd 2 (by omega) (by omega) (hw 2 (by kernel_rfl))
     obtain ⟨hs, -⟩ := hj.stage (j0 := 0) (by decide) hun (.inl rfl)
     have HS := hid (show ByR u1 B1 v0 (n0 + 0) from hs)
     have HJ := hid (fun (v : Value) (u' : World) (hv : ByR u' B1 v (n0 + 2)) => hj.next (j0 := 0) (by decide) hun (.inl rfl) (by decide) hv)
     have HBu := hid (HB.out.trans hb)
     have hsz := HBu.out.size
     clear hd hw hj hs
     simp only [Act.put, fE, fF, fG]
     generalize vf 2 = vv at *
     subst f2
     go_wp2_with (go_at_call 103; refine (put103 2 h.fp (by omega) v0 (n0 + 0) B1 (by omega) u1 HS.out (by omega)).mono ?_; rintro e w3 ⟨v1, rfl, hv1, hb1⟩)
     exact ⟨rfl, hb1, trivial, HJ.out _ _ hv1⟩
   · have HJ := hid hj
     clear hd hw hj
     go_wp2
     exact ⟨rfl, bR, rfl, HJ.out.other (by decide) (fun _ _ h => h)⟩
   · have f4 := hd 4 (by omega) (by omega) (hw 4 (by kernel_rfl))
     have HJ := hid hj
     have hcc := HZ.out u1 (HB.out.trans hb) 8 _ rfl
     clear hd hw hj
     simp only [Act.put, fE, fF, fG]
     generalize vf 4 = vv at *
     subst f4
     go_wp2
     exact ⟨rfl, bR, rfl, HJ.out.other (by decide) (fun _ _ h => h)⟩
   · have f5 := hd 5 (by omega) (by omega) (hw 5 (by kernel_rfl))
     obtain ⟨hs, -⟩ := hj.stage (j0 := 1) (by decide) hun (.inr (hw 3 (by kernel_rfl)))
     have HS := hid (show ByR u1 B1 (vf 3) (n0 + 2) from hs)
     have HJ := hid (fun (v : Value) (u' : World) (hv : ByR u' B1 v (n0 + 4)) => hj.next (j0 := 1) (by decide) hun (.inr (hw 3 (by kernel_rfl))) (by decide) hv)
     have HBu := hid (HB.out.trans hb)
     have hsz := HBu.out.size
     clear hd hw hj hs
     simp only [Act.put, fE, fF, fG]
     generalize vf 5 = vv at *
     subst f5
     generalize vf 3 = v0 at *
     go_wp2_with (go_at_call 103; refine (put103 2 2000 (by omega) v0 (n0 + 2) B1 (by omega) u1 HS.out (by omega)).mono ?_; rintro e w3 ⟨v1, rfl, hv1, hb1⟩)
     exact ⟨rfl, hb1, trivial, HJ.out _ _ hv1⟩
 intro vf u1 hb hj hd
 have HU2 := hid (show ByR u1 B1 (vf 6) (n0 + 4) from hj.fin (by decide))
 have HB2 := hid (HB.out.trans hb)
 clear hd hj hb
 simp only [fillA, fA, fB, fC, fD, fH, Nat.reduceAdd]
 simp only [Act.put, fE, fF, fG]
 generalize vf 6 = v1 at *
 clear HU HB
 obtain ⟨n1, HN1⟩ : ∃ n1 : Nat, Hid (n1 = n0 + 4) := ⟨n0 + 4, hid rfl⟩
 have HU := hid (show ByR u1 B1 v1 n1 from HN1.out ▸ HU2.out)
 have HB := HB2
 replace HN1 := hid (HN1.out.trans (congrArg (· + 4) HN0.out))
 clear HN0 hn0 HU2 HB2
 have hn1 : n1 ≤ 100 := by rw [HN1.out]; decide
 generalize n1 = n0 at *
 generalize v1 = v0 at *
 have hn0 := hn1
 have HN0 := HN1
 clear hn1 HN1
 go_upto_region 8 with fail
 refine wp_region_peelJ 1 6 (Below B1) (fun i v u => match i with
  | 1 => True
  | 2 => True
  | 3 => v = .pointer (some ⟨z, 9, none⟩)
  | 4 => v = .int .i64 0
  | 5 => True
  | _ => True) (ChJ (RowS8 B1 n0 v0) v0 [1, 2, 5]) (by kernel_rfl) (by kernel_rfl) ⟨v0, Or.inl ⟨rfl, fun _ => rfl⟩, rfl⟩ (fun _ _ d _ _ h => by cases d <;> exact h) (bR).drew (fun _ _ _ h1 h2 => h1.trans h2) (fun _ _ _ _ _ h1 h2 h => h.congr (by decide) h1 h2) (ChJ.start (by decide) (HU.out.mono (bR).drew)) ?_ ?_ ?_
 · intro i v w1 w2 hb h
   match i with
   | 1 => exact h
   | 2 => exact h
   | 3 => exact h
   | 4 => exact h
   | 5 => exact h
   | 0 => exact h
   | k + 6 => exact h
 · intro i o hp hi ho L vf u1 hun hw hb hj hd
   have hi' : i = 1 ∨ i = 2 ∨ i = 3 ∨ i = 4 ∨ i = 5 := by omega
   rcases hi' with rfl | rfl | rfl | rfl | rfl
   all_goals obtain rfl := oI ho
   all_goals simp only [fillA, fA, fB, fC, fD, fH, Nat.reduceAdd]
   · obtain ⟨hs, -⟩ := hj.stage (j0 := 0) (by decide) hun (.inl rfl)
     have HS := hid (show ByR u1 B1 v0 n0 from hs)
     have HJ := hid (fun (v : Value) (u' : World) (hv : ByR u' B1 v0 n0 ∧ NewB u' v 2) => hj.next (j0 := 0) (by decide) hun (.inl rfl) (by decide) hv)
     have hsz := (HB.out.trans hb).size
     clear hd hw hj hs
     go_wp2
     exact ⟨rfl, (bR).alloc (by omega) _, HJ.out _ _ ⟨HS.out.alloc _, new_lit u1 [0, 0]⟩⟩
   · obtain ⟨hs, -⟩ := hj.stage (j0 := 1) (by decide) hun (.inr (hw 1 (by kernel_rfl)))
     obtain ⟨hs1, b0, hs2, hs3⟩ := (show ByR u1 B1 v0 n0 ∧ NewB u1 (vf 1) 2 from hs)
     have HS := hid hs1
     have HC := hid hs3
     have HJ := hid (fun (v : Value) (u' : World) (hv : ByR u' B1 v (n0 + 2)) => hj.next (j0 := 1) (by decide) hun (.inr (hw 1 (by kernel_rfl))) (by decide) hv)
     have hsz := (HB.out.trans hb).size
     clear hd hw hj hs hs1 hs3
     simp only [Act.put, fE, fF, fG]
     generalize vf 1 = v1 at *
     subst hs2
     go_wp2_with (at_builtin; refine wpList_append_by u1 B1 rfl _ _ rfl v0 n0 rfl HS.out b0 0 2 2 rfl HC.out (by omega) (by omega) ?_; intro v3 w3 h3 hg3 hv3)
     exact ⟨rfl, (bR).grown hg3 (by omega) (fun k hk => (HS.out.lt k hk).1), HJ.out _ _ h3⟩
   · have HJ := hid hj
     clear hd hw hj
     go_wp2
     exact ⟨rfl, bR, rfl, HJ.out.other (by decide) (fun _ _ h => h)⟩
   · have f3 := hd 3 (by omega) (by omega) (hw 3 (by kernel_rfl))
     have HJ := hid hj
     have hcc := HZ.out u1 (HB.out.trans hb) 9 _ rfl
     clear hd hw hj
     simp only [Act.put, fE, fF, fG]
     generalize vf 3 = vv at *
     subst f3
     go_wp2
     exact ⟨rfl, bR, rfl, HJ.out.other (by decide) (fun _ _ h => h)⟩
   · have f4 := hd 4 (by omega) (by omega) (hw 4 (by kernel_rfl))
     obtain ⟨hs, -⟩ := hj.stage (j0 := 2) (by decide) hun (.inr (hw 2 (by kernel_rfl)))
     have HS := hid (show ByR u1 B1 (vf 2) (n0 + 2) from hs)
     have HJ := hid (fun (v : Value) (u' : World) (hv : ByR u' B1 v (n0 + 4)) => hj.next (j0 := 2) (by decide) hun (.inr (hw 2 (by kernel_rfl))) (by decide) hv)
     have hsz := (HB.out.trans hb).size
     clear hd hw hj hs
     simp only [Act.put, fE, fF, fG]
     generalize vf 4 = vv at *
     subst f4
     generalize vf 2 = v0 at *
     go_wp2_with (go_at_call 103; refine (put103 2 _ (by omega) v0 (n0 + 2) B1 (by omega) u1 HS.out (by omega)).mono ?_; rintro e w3 ⟨v1, rfl, hv1, hb1⟩)
     exact ⟨rfl, hb1, trivial, HJ.out _ _ hv1⟩
 intro vf u1 hb hj hd
 have HU2 := hid (show ByR u1 B1 (vf 5) (n0 + 4) from hj.fin (by decide))
 have HB2 := hid (HB.out.trans hb)
 clear hd hj hb
 simp only [fillA, fA, fB, fC, fD, fH, Nat.reduceAdd]
 simp only [Act.put, fE, fF, fG]
 generalize vf 5 = v1 at *
 clear HU HB
 obtain ⟨n1, HN1⟩ : ∃ n1 : Nat, Hid (n1 = n0 + 4) := ⟨n0 + 4, hid rfl⟩
 have HU := hid (show ByR u1 B1 v1 n1 from HN1.out ▸ HU2.out)
 have HB := HB2
 replace HN1 := hid (HN1.out.trans (congrArg (· + 4) HN0.out))
 clear HN0 hn0 HU2 HB2
 have hn1 : n1 ≤ 100 := by rw [HN1.out]; decide
 generalize n1 = n0 at *
 generalize v1 = v0 at *
 have hn0 := hn1
 have HN0 := HN1
 clear hn1 HN1
 go_upto_region 9 with fail
 have HZZ := hid hzz
 clear hzz
 have HN28 := hid (show n0 = 28 from HN0.out)
 clear HN0
 have c0 := HZ.out u1 HB.out 0 _ rfl
 rcases HK.out with ⟨hk, -, -, -, -⟩ | hk
 · rw [hk] at c0
   go_wp2
   go_ret
   have hn := HN28.out
   exact ⟨_, rfl, ⟨n0, by omega, by omega, by rw [HZZ.out, ← HB1.out]; exact HU.out⟩, by rw [HZZ.out]; exact HB0.out.trans (HB.out.mono (by have := HB1.out; omega))⟩
 · rw [hk] at c0
   have c10 := HZ.out u1 HB.out 10 _ rfl
   have c11 := HZ.out u1 HB.out 11 _ rfl
   have hsz := HB.out.size
   have HL := hid (new_by u1 #[.int .u8 128, .int .u8 h.ty] (fun v hv => by
    obtain ⟨c, hc⟩ := u8_mod h.ty
    rcases List.mem_cons.1 hv with rfl | hv
    · exact ⟨128, rfl⟩
    · rw [Int.emod_eq_of_lt ty0 (by omega)] at hc
      rw [List.mem_singleton.1 hv, hc]
      exact ⟨c, rfl⟩))
   go_upto_region 11 with (at_builtin; refine wpList_append_by (u1.alloc (.cells #[.int .u8 128, .int .u8 h.ty] 5)) B1 rfl (.tmp 48) (.tmp 56) rfl v0 n0 rfl (HU.out.alloc _) u1.heap.size 0 2 2 rfl HL.out (by omega) (by simp; omega) ?_; intro v5 w5 h5 hg5 hv5)
   replace HB := hid (HB.out.trans (by_app (bR) (by omega) HU.out hg5))
   replace HU := hid h5
   clear h5 hg5 hv5 c0 c10 c11 hsz HL
   obtain ⟨n1, HN1⟩ : ∃ n1 : Nat, Hid (n1 = n0 + 2) := ⟨n0 + 2, hid rfl⟩
   replace HU := hid (show ByR w5 B1 v5 n1 from HN1.out ▸ HU.out)
   have HN0 := hid (show n1 = 30 from by rw [HN1.out, HN28.out])
   clear HN1 HN28 hn0
   have hn0 : n1 ≤ 100 := by rw [HN0.out]; decide
   generalize n1 = n0 at *
   generalize v5 = v0 at *
   refine wp_region_peelJ 1 10 (Below B1) (fun i v u => match i with
    | 1 => v = .pointer (some ⟨z, 12, none⟩)
    | 2 => v = .int .i64 h.sq
    | 3 => True
    | 4 => v = .pointer (some ⟨z, 13, none⟩)
    | 5 => v = .int .i64 h.ti
    | 6 => True
    | 7 => v = .pointer (some ⟨z, 14, none⟩)
    | 8 => v = .int .i64 h.so
    | 9 => True
    | _ => True) (ChJ (RowS B1 n0 [0, 2, 6, 10]) v0 [3, 6, 9]) (by kernel_rfl) (by kernel_rfl) ⟨v0, Or.inl ⟨rfl, fun _ => rfl⟩, rfl⟩ (fun _ _ d _ _ h => by cases d <;> exact h) (bR).drew (fun _ _ _ h1 h2 => h1.trans h2) (fun _ _ _ _ _ h1 h2 h => h.congr (by decide) h1 h2) (ChJ.start (by decide) (HU.out.mono (bR).drew)) ?_ ?_ ?_
   · intro i v w1 w2 hb h
     match i with
     | 1 => exact h
     | 2 => exact h
     | 3 => exact h
     | 4 => exact h
     | 5 => exact h
     | 6 => exact h
     | 7 => exact h
     | 8 => exact h
     | 9 => exact h
     | 0 => exact h
     | k + 10 => exact h
   · intro i o hp hi ho L vf u1 hun hw hb hj hd
     have hi' : i = 1 ∨ i = 2 ∨ i = 3 ∨ i = 4 ∨ i = 5 ∨ i = 6 ∨ i = 7 ∨ i = 8 ∨ i = 9 := by omega
     rcases hi' with rfl | rfl | rfl | rfl | rfl | rfl | rfl | rfl | rfl
     all_goals obtain rfl := oI ho
     all_goals simp only [fillA, fA, fB, fC, fD, fH, Nat.reduceAdd]
     · have HJ := hid hj
       clear hd hw hj
       go_wp2
       exact ⟨rfl, bR, rfl, HJ.out.other (by decide) (fun _ _ h => h)⟩
     · have f1 := hd 1 (by omega) (by omega) (hw 1 (by kernel_rfl))
       have HJ := hid hj
       have hcc := HZ.out u1 (HB.out.trans hb) 12 _ rfl
       clear hd hw hj
       simp only [Act.put, fE, fF, fG]
       generalize vf 1 = vv at *
       subst f1
       go_wp2
       exact ⟨rfl, bR, rfl, HJ.out.other (by decide) (fun _ _ h => h)⟩
     · have f2 := hd 2 (by omega) (by omega) (hw 2 (by kernel_rfl))
       obtain ⟨hs, -⟩ := hj.stage (j0 := 0) (by decide) hun (.inl rfl)
       have HS := hid (show ByR u1 B1 v0 (n0 + 0) from hs)
       have HJ := hid (fun (v : Value) (u' : World) (hv : ByR u' B1 v (n0 + 2)) => hj.next (j0 := 0) (by decide) hun (.inl rfl) (by decide) hv)
       have HBu := hid (HB.out.trans hb)
       have hsz := HBu.out.size
       clear hd hw hj hs
       simp only [Act.put, fE, fF, fG]
       generalize vf 2 = vv at *
       subst f2
       go_wp2_with (go_at_call 103; refine (put103 2 h.sq (by omega) v0 (n0 + 0) B1 (by omega) u1 HS.out (by omega)).mono ?_; rintro e w3 ⟨v1, rfl, hv1, hb1⟩)
       exact ⟨rfl, hb1, trivial, HJ.out _ _ hv1⟩
     · have HJ := hid hj
       clear hd hw hj
       go_wp2
       exact ⟨rfl, bR, rfl, HJ.out.other (by decide) (fun _ _ h => h)⟩
     · have f4 := hd 4 (by omega) (by omega) (hw 4 (by kernel_rfl))
       have HJ := hid hj
       have hcc := HZ.out u1 (HB.out.trans hb) 13 _ rfl
       clear hd hw hj
       simp only [Act.put, fE, fF, fG]
       generalize vf 4 = vv at *
       subst f4
       go_wp2
       exact ⟨rfl, bR, rfl, HJ.out.other (by decide) (fun _ _ h => h)⟩
     · have f5 := hd 5 (by omega) (by omega) (hw 5 (by kernel_rfl))
       obtain ⟨hs, -⟩ := hj.stage (j0 := 1) (by decide) hun (.inr (hw 3 (by kernel_rfl)))
       have HS := hid (show ByR u1 B1 (vf 3) (n0 + 2) from hs)
       have HJ := hid (fun (v : Value) (u' : World) (hv : ByR u' B1 v (n0 + 6)) => hj.next (j0 := 1) (by decide) hun (.inr (hw 3 (by kernel_rfl))) (by decide) hv)
       have HBu := hid (HB.out.trans hb)
       have hsz := HBu.out.size
       clear hd hw hj hs
       simp only [Act.put, fE, fF, fG]
       generalize vf 5 = vv at *
       subst f5
       generalize vf 3 = v0 at *
       go_wp2_with (go_at_call 103; refine (put103 4 h.ti (by omega) v0 (n0 + 2) B1 (by omega) u1 HS.out (by omega)).mono ?_; rintro e w3 ⟨v1, rfl, hv1, hb1⟩)
       exact ⟨rfl, hb1, trivial, HJ.out _ _ hv1⟩
     · have HJ := hid hj
       clear hd hw hj
       go_wp2
       exact ⟨rfl, bR, rfl, HJ.out.other (by decide) (fun _ _ h => h)⟩
     · have f7 := hd 7 (by omega) (by omega) (hw 7 (by kernel_rfl))
       have HJ := hid hj
       have hcc := HZ.out u1 (HB.out.trans hb) 14 _ rfl
       clear hd hw hj
       simp only [Act.put, fE, fF, fG]
       generalize vf 7 = vv at *
       subst f7
       go_wp2
       exact ⟨rfl, bR, rfl, HJ.out.other (by decide) (fun _ _ h => h)⟩
     · have f8 := hd 8 (by omega) (by omega) (hw 8 (by kernel_rfl))
       obtain ⟨hs, -⟩ := hj.stage (j0 := 2) (by decide) hun (.inr (hw 6 (by kernel_rfl)))
       have HS := hid (show ByR u1 B1 (vf 6) (n0 + 6) from hs)
       have HJ := hid (fun (v : Value) (u' : World) (hv : ByR u' B1 v (n0 + 10)) => hj.next (j0 := 2) (by decide) hun (.inr (hw 6 (by kernel_rfl))) (by decide) hv)
       have HBu := hid (HB.out.trans hb)
       have hsz := HBu.out.size
       clear hd hw hj hs
       simp only [Act.put, fE, fF, fG]
       generalize vf 8 = vv at *
       subst f8
       generalize vf 6 = v0 at *
       go_wp2_with (go_at_call 103; refine (put103 4 h.so (by omega) v0 (n0 + 6) B1 (by omega) u1 HS.out (by omega)).mono ?_; rintro e w3 ⟨v1, rfl, hv1, hb1⟩)
       exact ⟨rfl, hb1, trivial, HJ.out _ _ hv1⟩
   intro vf u1 hb hj hd
   have HU2 := hid (show ByR u1 B1 (vf 9) (n0 + 10) from hj.fin (by decide))
   have HB2 := hid (HB.out.trans hb)
   clear hd hj hb
   simp only [fillA, fA, fB, fC, fD, fH, Nat.reduceAdd]
   simp only [Act.put, fE, fF, fG]
   generalize vf 9 = v1 at *
   clear HU HB
   obtain ⟨n1, HN1⟩ : ∃ n1 : Nat, Hid (n1 = n0 + 10) := ⟨n0 + 10, hid rfl⟩
   have HU := hid (show ByR u1 B1 v1 n1 from HN1.out ▸ HU2.out)
   have HB := HB2
   replace HN1 := hid (HN1.out.trans (congrArg (· + 10) HN0.out))
   clear HN0 hn0 HU2 HB2
   have hn1 : n1 ≤ 100 := by rw [HN1.out]; decide
   generalize n1 = n0 at *
   generalize v1 = v0 at *
   have hn0 := hn1
   have HN0 := HN1
   clear hn1 HN1
   go_wp2
   go_ret
   have hn := HN0.out
   exact ⟨_, rfl, ⟨n0, by omega, by omega, by rw [HZZ.out, ← HB1.out]; exact HU.out⟩, by rw [HZZ.out]; exact HB0.out.trans (HB.out.mono (by have := HB1.out; omega))⟩
end
section
open Go.RowKit Go.Sort
attribute [local go_sem] gcell
theorem ByR.gl {w : World} {B n g c : Nat} (h : ByR w B (.slice (some ⟨g, 0, none⟩) n c) n) : g < w.heap.size := (h.lt g rfl).2
theorem ByR.cells {w : World} {B n g c : Nat} (h : ByR w B (.slice (some ⟨g, 0, none⟩) n c) n) : ∀ k, k < n → ∃ c : UInt8, w.cell? ⟨g, 0 + k, none⟩ = some (.int .u8 (c.toNat : Int)) := fun k hk => by
 obtain ⟨a, c', e, hc, hp⟩ := h.slice
 injection e with e1 e2 e3
 subst e1 e3
 obtain ⟨g', e, hB, hg, hfr, hcell⟩ := hp (by omega)
 injection e with e; injection e with e; subst e
 rw [Nat.zero_add]
 exact hcell k hk
theorem below_own {B g : Nat} {w u u' : World} (hb : Below B w u) (hw : B ≤ w.heap.size) (hg : u.grownBy u' (some g)) (hB : B ≤ g) : Below B w u' :=
 hb.grown hg (Nat.le_trans hw hb.size) fun k hk => by
  injection hk with hk
  omega
theorem cells_up {w w' : World} {g m C : Nat} (hb : Below C w w') (hg : g < C) (h : ∀ k, k < m → ∃ c : UInt8, w.cell? ⟨g, 0 + k, none⟩ = some (.int .u8 (c.toNat : Int))) : ∀ k, k < m → ∃ c : UInt8, w'.cell? ⟨g, 0 + k, none⟩ = some (.int .u8 (c.toNat : Int)) := fun k hk => by
 obtain ⟨c, hc⟩ := h k hk
 exact ⟨c, by rw [hb.cell (p := ⟨g, 0 + k, none⟩) hg]; exact hc⟩
set_option maxRecDepth 100000 in
set_option maxHeartbeats 4000000 in
theorem build49 (h : Hd) (H : HdOk h) (w : World) (C m q c : Nat) (A : ByR w C (.slice (some ⟨q, 0, none⟩) m c) m) (hm : m ≤ 1000) : Calls Tryz.prog 49 #[hdv h, .slice (some ⟨q, 0, none⟩) m c] w fun e w' => ∃ v n, e = .returned (.tuple #[v, .int .i64 0]) ∧ 28 ≤ n ∧ n ≤ 1040 ∧ ByR w' w.heap.size v n ∧ Below w.heap.size w w' := by
 have K71 := hid (fun W => (valid71 h H W))
 have K72 := hid (fun W => (head72 h H W))
 have HB := hid ((Below.refl w.heap.size w).alloc (Nat.le_refl _) (.cells (hdc h).toArray 121))
 have HZ := hid (bx_range (bx_new w (hdc h).toArray 121) rfl)
 have hz : w.heap.size < (w.alloc (.cells (hdc h).toArray 121)).heap.size := by simp
 have HA := hid (A.cells)
 have hql := A.gl
 clear H A
 have hv : hdv h = .agg (hdc h).toArray := rfl
 rw [hv] at *
 clear hv
 go_enter Tryz.func49, Tryz.ntmps49
 go_upto_region 1 with fail
 generalize hw1 : w.alloc (.cells (hdc h).toArray 121) = w1 at *
 clear hw1
 go_upto_region 3 with (first | (refine wpList_load_mid rfl 121 (.tmp 2) rfl w.heap.size 0 rfl (hdc h) _ HZ.out Tryz.underlying121 rfl (by kernel_rfl) ?_) | (go_at_call 71; refine (K71.out _).mono ?_; rintro e w2 ⟨rfl, hb2⟩; refine Hid.out ?_))
 refine hid ?_
 go_upto_region 3 with fail
 have HZ2 := hid (show w2.rangeAt w.heap.size 0 (hdc h) from fun j v hv => up hb2 (HZ.out j v hv))
 go_upto_region 4 with (first | (refine wpList_load_mid rfl 121 (.tmp 2) rfl w.heap.size 0 rfl (hdc h) _ HZ2.out Tryz.underlying121 rfl (by kernel_rfl) ?_) | (go_at_call 72; refine (K72.out _).mono ?_; rintro e w3 ⟨v1, rfl, ⟨n, hn1, hn2, hv1⟩, hb3⟩; refine Hid.out ?_))
 refine hid ?_
 have HU := hid hv1
 have HB3 := hid (HB.out.trans ((hb2.trans (hb3.mono hb2.size)).mono (Nat.le_of_lt hz)))
 have HA3 := hid (cells_up HB3.out hql HA.out)
 have hB2 : w2.heap.size + 1 ≤ w3.heap.size := by
  obtain ⟨a, c', e, -, hp⟩ := hv1.slice
  obtain ⟨g', -, h1, h2, -⟩ := hp (by omega)
  omega
 have hw12 : w1.heap.size ≤ w2.heap.size := hb2.size
 clear hv1 hb2 hb3 HB HZ HZ2 K71 K72
 go_upto_region 4 with (at_builtin; refine wpList_append_by w3 (w2.heap.size + 1) rfl (.tmp 11) (.tmp 12) rfl v1 n rfl HU.out q 0 m c rfl HA3.out (by omega) hB2 ?_; intro v5 w5 h5 hg5 hv5)
 replace HB3 := hid (HB3.out.grown hg5 (by omega) (fun k hk => by have := (HU.out.lt k hk).1; omega))
 replace HU := hid (h5.base (C := w.heap.size + 1) (by omega))
 clear h5 hg5 hv5 HA HA3 hB2 hw12
 obtain ⟨N, hN⟩ : ∃ N, N = n + m := ⟨_, rfl⟩
 rw [← hN] at HU
 have hN1 : 28 ≤ N := by omega
 have hN2 : N ≤ 1040 := by omega
 clear hN hn1 hn2
 obtain ⟨a5, c5, e5, hc5, hp5⟩ := HU.out.slice
 obtain ⟨g5, rfl, hg5, -⟩ := hp5 (by omega)
 subst e5
 clear hp5
 go_upto_region 6 with fail
 have HS1 := hid (set73 w5 (w.heap.size + 1) N c5 g5 2 N (by omega) (by omega) (by omega) HU.out)
 go_upto_region 7 with (go_at_call 73; refine HS1.out.mono ?_; rintro e w6 ⟨rfl, hv6, hg6⟩; refine Hid.out ?_)
 refine hid ?_
 replace HB3 := hid (below_own HB3.out (Nat.le_refl _) hg6 (by omega))
 replace HU := hid hv6
 clear hv6 hg6 HS1
 go_upto_region 7 with fail
 have HS1 := hid (set73 w6 (w.heap.size + 1) N c5 g5 24 ((N : Int) - 20) (by omega) (by omega) (by omega) HU.out)
 go_upto_region 8 with (go_at_call 73; refine HS1.out.mono ?_; rintro e w7 ⟨rfl, hv7, hg7⟩; refine Hid.out ?_)
 refine hid ?_
 replace HB3 := hid (below_own HB3.out (Nat.le_refl _) hg7 (by omega))
 replace HU := hid hv7
 clear hv7 hg7 HS1
 go_upto_region 8 with fail
 have HS2 := hid (sum74 20 g5 c5 (by omega) w7 (fun k hk => by have := HU.out.cells k (by omega); rwa [Nat.zero_add] at this))
 have HS1 := hid (fun x hx => set73 w7 (w.heap.size + 1) N c5 g5 10 x hx (by omega) (by omega) HU.out)
 go_wp2_with (first | (go_at_call 74; refine HS2.out.mono ?_; rintro e w' ⟨⟨y, rfl, h0, h1⟩, rfl⟩) | (go_at_call 73; refine (HS1.out _ (by omega)).mono ?_; rintro e w8 ⟨rfl, hv8, hg8⟩))
 go_ret2
 exact ⟨_, N, rfl, by omega, by omega, hv8.base (by omega), below_own HB3.out (Nat.le_refl _) hg8 (by omega)⟩
end
end Go.Proofs.YtgflfdnajchjaaaGreatDoor
