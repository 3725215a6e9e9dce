import Derived.Test.YtgflfdnajchjaaaGreatDoorRP
import Derived.Test.YtgflfdnajchjaaaGreatDoorRO
import Derived.Test.YtgflfdnajchjaaaGreatDoorPI
import Derived.Test.YtgflfdnajchjaaaGreatDoorPQ
set_option linter.unusedVariables false
set_option linter.unusedSimpArgs false
namespace Go.Proofs.YtgflfdnajchjaaaGreatDoor
open Go.Lib (hid)
open Go.RowKit
section
open Go.RowKit Go.Sort
attribute [local go_sem] gcell
theorem DiceS.grow {w w' : World} {p B g : Nat} (D : DiceS w p B) (hg : w.grownBy w' (some g)) (h : B ≤ g) : DiceS w' p B :=
 D.mono (below_own (Below.refl B w) D.le hg h) (Nat.le_refl _)
theorem only_own {w u u' : World} {p g : Nat} (O : OnlyP w u p) (h : w.heap.size ≤ g) (hg : u.grownBy u' (some g)) : OnlyP w u' p :=
 ⟨hg.os.trans O.os, hg.tape.trans O.tape, hg.output.trans O.output, Nat.le_trans O.size hg.size, fun i hi hne => (hg.block i (Nat.lt_of_lt_of_le hi O.size) (by simp; omega)).trans (O.block i hi hne)⟩
set_option maxRecDepth 100000 in
set_option maxHeartbeats 8000000 in
theorem packet25 (i p B : Nat) (hi : i ≤ 300) (w : World) (D : DiceS w p B) : Calls Tryz.prog 25 #[.pointer (some ⟨p, 0, none⟩), .int .i64 i] w fun e w' => ∃ v n, e = .returned v ∧ 1 ≤ n ∧ n ≤ 1040 ∧ ByR w' w.heap.size v n ∧ DiceS w' p B ∧ OnlyP w w' p := by
 have hp := D.lt
 have hB := D.le
 have hz : w.heap.size ≠ p := by omega
 have D1 := hid (D.alloc (.cells #[.int .i64 1, .int .i64 0, .int .i64 ((100 + i) % 65536), .int .i64 0, .int .i64 64, .int .i64 167772161, .int .i64 167772162, .int .i64 1000, .int .i64 2000, .int .i64 0, .int .i64 0, .int .i64 0, .int .i64 0, .int .i64 0, .int .i64 0] 121))
 have O1 := hid (only_alloc (only_refl w p) (.cells #[.int .i64 1, .int .i64 0, .int .i64 ((100 + i) % 65536), .int .i64 0, .int .i64 64, .int .i64 167772161, .int .i64 167772162, .int .i64 1000, .int .i64 2000, .int .i64 0, .int .i64 0, .int .i64 0, .int .i64 0, .int .i64 0, .int .i64 0] 121))
 have HZ := hid (bx_new w #[.int .i64 1, .int .i64 0, .int .i64 ((100 + i) % 65536), .int .i64 0, .int .i64 64, .int .i64 167772161, .int .i64 167772162, .int .i64 1000, .int .i64 2000, .int .i64 0, .int .i64 0, .int .i64 0, .int .i64 0, .int .i64 0, .int .i64 0] 121)
 clear D
 go_enter Tryz.func25, Tryz.ntmps25
 go_upto_region 2 with fail
 have hzl := bx_lt HZ.out
 have hpz : B ≤ w.heap.size := hB
 have hsz1 := O1.out.size
 generalize w.alloc _ = w1 at *
 generalize Value.agg #[.int .i64 1, .int .i64 0, .int .i64 ((100 + i) % 65536), .int .i64 0, .int .i64 64, .int .i64 167772161, .int .i64 167772162, .int .i64 1000, .int .i64 2000, .int .i64 0, .int .i64 0, .int .i64 0, .int .i64 0, .int .i64 0, .int .i64 0] = ag at *
 generalize hzz : w.heap.size = z at *
 have HZZ := hid hzz
 clear hzz
 go_upto_region 3 with (go_at_call 12; refine (next12 (by decide) (by decide) D1.out).mono ?_; rintro e w2 ⟨k, rfl, h0, h1, hd, ho⟩; replace O1 := hid (only_trans O1.out ho); replace HZ := hid (only_box ho hz HZ.out); replace D1 := hid hd; clear ho hd)
 by_cases k0 : k = 0
 · subst k0
   go_upto_region 4 with fail
   obtain ⟨y, hy⟩ := u8_mod (i : Int)
   have HY := hid hy
   have hzw := bx_lt HZ.out
   clear hy
   have HA := hid (show ByR (w2.alloc (.cells #[.int .u8 ((i : Int) % 256)] 5)) w2.heap.size (.slice (some ⟨w2.heap.size, 0, none⟩) 1 1) 1 from by rw [HY.out]; exact byr_new w2 [y] (by simp))
   have DA := hid (D1.out.alloc (.cells #[.int .u8 ((i : Int) % 256)] 5))
   have OA := hid (only_alloc O1.out (.cells #[.int .u8 ((i : Int) % 256)] 5))
   have hpw2 : p < w2.heap.size := by omega
   go_upto_region 5 with (first | (go_at_call 12; refine (next12 (by decide) (by decide) DA.out).mono ?_; rintro e w3 ⟨x, rfl, g0, g1, hd, ho⟩; refine Hid.out ?_))
   refine hid ?_
   obtain ⟨mx, hmx⟩ : ∃ m : Nat, x = (m : Int) := ⟨x.toNat, by omega⟩
   subst hmx
   replace HA := hid (HA.out.only ho hpw2)
   replace DA := hid hd
   replace OA := hid (only_trans OA.out ho)
   have hs3 := ho.size
   simp at hs3
   clear hd ho
   have KB := hid (bytes48 (1 + mx) p B ⟨by omega, by omega⟩ w3 DA.out)
   have e1 : ((1 + mx : Nat) : Int) = 1 + mx := by omega
   rw [e1] at KB
   go_upto_region 5 with (first | (go_at_call 48; refine KB.out.mono ?_; rintro e w4 ⟨v4, rfl, hv4, hd, ho⟩; refine Hid.out ?_))
   refine hid ?_
   replace HA := hid (HA.out.only ho hpw2)
   replace DA := hid hd
   replace OA := hid (only_trans OA.out ho)
   have hs4 := ho.size
   obtain ⟨a4, c4, e4, -, hpp⟩ := hv4.slice
   obtain ⟨q4, rfl, hq4, -⟩ := hpp (by omega)
   subst e4
   have HC := hid hv4.cells
   clear hd ho KB e1 hv4 hpp
   go_wp2_with (at_builtin; refine wpList_append_by w4 w2.heap.size rfl (.tmp 18) (.tmp 23) rfl _ 1 rfl HA.out q4 0 (1 + mx) c4 rfl HC.out (by omega) (by omega) ?_; intro v5 w5 h5 hg5 hv5)
   go_ret
   exact ⟨_, 1 + (1 + mx), rfl, by omega, by omega, by rw [HZZ.out]; exact h5.base (by omega), DiceS.grow (g := w2.heap.size) DA.out hg5 (by omega), only_own (g := w2.heap.size) OA.out (by rw [HZZ.out]; omega) hg5⟩
 · by_cases k1 : k = 1
   case' pos =>
    subst k1
    go_upto_region 6 with fail
    have c0 := bx_cell HZ.out 0 rfl
    have f0 := bx_fr HZ.out 0
    have c12 := bx_cell HZ.out 12 rfl
    have f12 := bx_fr HZ.out 12
    have c13 := bx_cell HZ.out 13 rfl
    have f13 := bx_fr HZ.out 13
    have c14 := bx_cell HZ.out 14 rfl
    have f14 := bx_fr HZ.out 14
    have c11 := bx_cell HZ.out 11 rfl
    have f11 := bx_fr HZ.out 11
    have c7 := bx_cell HZ.out 7 rfl
    have f7 := bx_fr HZ.out 7
    go_upto_region 7 with fail
    clear c0 f0 c12 f12 c13 f13 c14 f14 c11 f11 c7 f7
    obtain ⟨h, eh⟩ : ∃ h : Hd, h = ⟨2, (100 + i) % 65536, 1002, 8, (500 + i) % 65536, 160 * i, 77⟩ := ⟨_, rfl⟩
    have HH := hid (show HdOk h from by subst eh; constructor <;> dsimp only <;> omega)
    replace HZ := hid (show (((((((w2.setCell ⟨z, 0, none⟩ (.int .i64 2)).setCell ⟨z, 12, none⟩ (.int .i64 ((500 + i) % 65536))).setCell ⟨z, 13, none⟩ (.int .i64 (160 * i))).setCell ⟨z, 14, none⟩ (.int .i64 77)).setCell ⟨z, 11, none⟩ (.int .i64 8)).setCell ⟨z, 7, none⟩ (.int .i64 1002))).heap[z]? = some (.cells (hdc h).toArray 121 (0, 0)) from by subst eh; exact (bx_set_same (k := 7) (bx_set_same (k := 11) (bx_set_same (k := 14) (bx_set_same (k := 13) (bx_set_same (k := 12) (bx_set_same (k := 0) HZ.out (.int .i64 2)) (.int .i64 ((500 + i) % 65536))) (.int .i64 (160 * i))) (.int .i64 77)) (.int .i64 8)) (.int .i64 1002)))
    replace D1 := hid (DiceS.set (o := 7) (v := .int .i64 1002) (DiceS.set (o := 11) (v := .int .i64 8) (DiceS.set (o := 14) (v := .int .i64 77) (DiceS.set (o := 13) (v := .int .i64 (160 * i)) (DiceS.set (o := 12) (v := .int .i64 ((500 + i) % 65536)) (DiceS.set (o := 0) (v := .int .i64 2) D1.out hpz) hpz) hpz) hpz) hpz) hpz)
    replace O1 := hid (only_setNew (only_setNew (only_setNew (only_setNew (only_setNew (only_setNew O1.out (Nat.le_of_eq HZZ.out) 0 (.int .i64 2)) (Nat.le_of_eq HZZ.out) 12 (.int .i64 ((500 + i) % 65536))) (Nat.le_of_eq HZZ.out) 13 (.int .i64 (160 * i))) (Nat.le_of_eq HZZ.out) 14 (.int .i64 77)) (Nat.le_of_eq HZZ.out) 11 (.int .i64 8)) (Nat.le_of_eq HZZ.out) 7 (.int .i64 1002))
    clear eh
    generalize ((((((w2.setCell ⟨z, 0, none⟩ (.int .i64 2)).setCell ⟨z, 12, none⟩ (.int .i64 ((500 + i) % 65536))).setCell ⟨z, 13, none⟩ (.int .i64 (160 * i))).setCell ⟨z, 14, none⟩ (.int .i64 77)).setCell ⟨z, 11, none⟩ (.int .i64 8)).setCell ⟨z, 7, none⟩ (.int .i64 1002)) = w5 at *
   case' neg =>
    go_upto_region 7 with fail
    obtain ⟨h, eh⟩ : ∃ h : Hd, h = ⟨1, (100 + i) % 65536, 1000, 0, 0, 0, 0⟩ := ⟨_, rfl⟩
    have HH := hid (show HdOk h from by subst eh; constructor <;> dsimp only <;> omega)
    replace HZ := hid (show w2.heap[z]? = some (.cells (hdc h).toArray 121 (0, 0)) from by subst eh; exact HZ.out)
    clear eh
    generalize w2 = w5 at *
   all_goals
    have hzp : z ≠ p := hz
    have hpW : p < w5.heap.size := by have := D1.out.le; omega
    refine wp_region_peelJ 0 11 (fun u u' => OnlyP u u' p) (fun i v u => match i with
     | 0 => v = .agg (hdc h).toArray
     | 1 => v = .pointer (some ⟨p, 0, none⟩)
     | 2 => v = .pointer (some ⟨p, 0, none⟩)
     | 3 => ∃ x : Int, v = .int .i64 x ∧ 0 ≤ x ∧ x < 20
     | 4 => ∃ x : Int, v = .int .i64 (1 + x) ∧ 0 ≤ x ∧ x < 20
     | 5 => ∃ m q c : Nat, v = .slice (some ⟨q, 0, none⟩) m c ∧ m ≤ 20 ∧ ByR u w5.heap.size (.slice (some ⟨q, 0, none⟩) m c) m
     | 6 => ∃ (x : Value) (n : Nat), v = .tuple #[x, .int .i64 0] ∧ 28 ≤ n ∧ n ≤ 1040 ∧ ByR u w5.heap.size x n
     | 7 => ∃ (x : Value) (n : Nat), v = .tuple #[x, .int .i64 0] ∧ 28 ≤ n ∧ n ≤ 1040 ∧ ByR u w5.heap.size x n
     | 8 => ∃ n : Nat, 28 ≤ n ∧ n ≤ 1040 ∧ ByR u w5.heap.size v n
     | 9 => v = .int .i64 0
     | 10 => ∃ n : Nat, 28 ≤ n ∧ n ≤ 1040 ∧ ByR u w5.heap.size v n
     | _ => True) (fun _ _ u => DiceS u p B) (by kernel_rfl) (by kernel_rfl) rfl (fun _ _ d _ _ h => by cases d <;> exact h) (only_drewN (only_refl _ _) 1) (fun _ _ _ h1 h2 => only_trans h1 h2) (fun _ _ _ _ _ _ _ h => h) (D1.out.drewN 1) ?_ ?_ ?_
    · intro i v w1 w2 hb h
      match i with
      | 0 => exact h
      | 1 => exact h
      | 2 => exact h
      | 3 => exact h
      | 4 => exact h
      | 5 =>
        obtain ⟨m, q, c, e1, e2, e3⟩ := h
        exact ⟨m, q, c, e1, e2, e3.only hb hpW⟩
      | 6 =>
        obtain ⟨x, n, e1, e2, e3, e4⟩ := h
        exact ⟨x, n, e1, e2, e3, e4.only hb hpW⟩
      | 7 =>
        obtain ⟨x, n, e1, e2, e3, e4⟩ := h
        exact ⟨x, n, e1, e2, e3, e4.only hb hpW⟩
      | 8 =>
        obtain ⟨n, e2, e3, e4⟩ := h
        exact ⟨n, e2, e3, e4.only hb hpW⟩
      | 9 => exact h
      | 10 =>
        obtain ⟨n, e2, e3, e4⟩ := h
        exact ⟨n, e2, e3, e4.only hb hpW⟩
      | k + 11 => exact h
    · intro i o hp hi ho L vf u1 hun hw hb hj hd
      have hi' : i = 0 ∨ i = 1 ∨ i = 2 ∨ i = 3 ∨ i = 4 ∨ i = 5 ∨ i = 6 ∨ i = 7 ∨ i = 8 ∨ i = 9 ∨ i = 10 := by omega
      rcases hi' with rfl | rfl | rfl | rfl | rfl | rfl | rfl | rfl | rfl | rfl | rfl
      all_goals obtain rfl := oI ho
      all_goals simp only [fillA, fA, fB, fC, fD, fH, Nat.reduceAdd]
      · have HJ := hid hj
        have HR := hid (bx_range (only_box hb hzp HZ.out) (l := hdc h) rfl)
        clear hd hw hj
        simp only [Act.put, fE, fF, fG]
        go_wp2_with (refine wpList_load_mid rfl 121 (.tmp 5) rfl z 0 rfl (hdc h) _ HR.out Tryz.underlying121 rfl (by kernel_rfl) ?_)
        exact ⟨rfl, only_refl _ _, rfl, HJ.out⟩
      · have HJ := hid hj
        clear hd hw hj
        go_wp2
        exact ⟨rfl, only_refl _ _, rfl, HJ.out⟩
      · have HJ := hid hj
        clear hd hw hj
        go_wp2
        exact ⟨rfl, only_refl _ _, rfl, HJ.out⟩
      · have f2 := hd 2 (by omega) (by omega) (hw 2 (by kernel_rfl))
        have HJ := hid hj
        clear hd hw hj
        simp only [Act.put, fE, fF, fG]
        generalize vf 2 = vv at *
        subst f2
        go_wp2_with (go_at_call 12; refine (next12 (by decide) (by decide) HJ.out).mono ?_; rintro e w3 ⟨x, rfl, h0, h1, hd, ho⟩)
        exact ⟨rfl, ho, ⟨x, rfl, h0, h1⟩, hd⟩
      · obtain ⟨x, f3, h0, h1⟩ := hd 3 (by omega) (by omega) (hw 3 (by kernel_rfl))
        have HJ := hid hj
        clear hd hw hj
        simp only [Act.put, fE, fF, fG]
        generalize vf 3 = vv at *
        subst f3
        go_wp2
        exact ⟨rfl, only_refl _ _, ⟨x, rfl, h0, h1⟩, HJ.out⟩
      · obtain ⟨x4, f4, h0, h1⟩ := hd 4 (by omega) (by omega) (hw 4 (by kernel_rfl))
        obtain ⟨m, hm4⟩ : ∃ m : Nat, 1 + x4 = m := ⟨(1 + x4).toNat, by omega⟩
        rw [hm4] at f4
        have f1 := hd 1 (by omega) (by omega) (hw 1 (by kernel_rfl))
        have hsz := hb.size
        have HJ := hid hj
        clear hd hw hj
        simp only [Act.put, fE, fF, fG]
        generalize vf 4 = vv at *
        subst f4
        generalize vf 1 = vp at *
        subst f1
        go_wp2_with (go_at_call 48; refine (bytes48 m p B ⟨by omega, by omega⟩ u1 HJ.out).mono ?_; rintro e w3 ⟨x, rfl, hv, hd, ho⟩)
        obtain ⟨a, c, e, -, hpp⟩ := hv.slice
        obtain ⟨q, rfl, -⟩ := hpp (by omega)
        subst e
        exact ⟨rfl, ho, ⟨m, q, c, rfl, by omega, hv.base hsz⟩, hd⟩
      · have f0 := hd 0 (by omega) (by omega) (hw 0 (by kernel_rfl))
        obtain ⟨m, q, c, f5, hm, hby⟩ := hd 5 (by omega) (by omega) (hw 5 (by kernel_rfl))
        have hsz := hb.size
        have KB := hid (build49 h HH.out u1 _ m q c hby (by omega))
        have HJ := hid hj
        clear hd hw hj
        clear hby
        simp only [Act.put, fE, fF, fG]
        generalize vf 0 = v0 at *
        subst f0
        generalize vf 5 = v5 at *
        subst f5
        go_wp2_with (go_at_call 49; refine KB.out.mono ?_; rintro e w3 ⟨v, n, rfl, hn1, hn2, hv, hb3⟩)
        exact ⟨rfl, only_below' (only_refl _ _) hb3, ⟨v, n, rfl, hn1, hn2, hv.base hsz⟩, HJ.out.mono hb3 HJ.out.le⟩
      · obtain ⟨x, n, f6, g1, g2, g3⟩ := hd 6 (by omega) (by omega) (hw 6 (by kernel_rfl))
        have HG := hid g3
        have HJ := hid hj
        clear hd hw hj
        clear g3
        simp only [Act.put, fE, fF, fG]
        generalize vf 6 = vv at *
        subst f6
        go_wp2
        exact ⟨rfl, only_refl _ _, ⟨x, n, rfl, g1, g2, HG.out⟩, HJ.out⟩
      · obtain ⟨x, n, f7, g1, g2, g3⟩ := hd 7 (by omega) (by omega) (hw 7 (by kernel_rfl))
        have HG := hid g3
        have HJ := hid hj
        clear hd hw hj
        clear g3
        simp only [Act.put, fE, fF, fG]
        generalize vf 7 = vv at *
        subst f7
        go_wp2
        exact ⟨rfl, only_refl _ _, ⟨n, g1, g2, HG.out⟩, HJ.out⟩
      · obtain ⟨x, n, f7, g1, g2, g3⟩ := hd 7 (by omega) (by omega) (hw 7 (by kernel_rfl))
        have HG := hid g3
        have HJ := hid hj
        clear hd hw hj
        clear g3
        simp only [Act.put, fE, fF, fG]
        generalize vf 7 = vv at *
        subst f7
        go_wp2
        exact ⟨rfl, only_refl _ _, rfl, HJ.out⟩
      · obtain ⟨n, g1, g2, g3⟩ := hd 8 (by omega) (by omega) (hw 8 (by kernel_rfl))
        have HG := hid g3
        have HJ := hid hj
        clear hd hw hj
        clear g3
        simp only [Act.put, fE, fF, fG]
        generalize vf 8 = vv at *
        go_wp2
        exact ⟨rfl, only_refl _ _, ⟨n, g1, g2, HG.out⟩, HJ.out⟩
    intro vf u1 hb hj hd
    have f9 := hd 9 (by omega) (by omega)
    obtain ⟨n, hn1, hn2, hby⟩ := hd 10 (by omega) (by omega)
    have HBY := hid hby
    have HD1 := hid hj
    have HO1 := hid (only_trans O1.out hb)
    clear hd hj hb hby
    simp only [fillA, fA, fB, fC, fD, fH, Nat.reduceAdd]
    simp only [Act.put, fE, fF, fG]
    generalize vf 9 = v9 at *
    subst f9
    generalize vf 10 = v10 at *
    have hzw : z ≤ w5.heap.size := by have := bx_lt HZ.out; omega
    go_wp2
    go_ret
    exact ⟨_, n, rfl, by omega, hn2, by rw [HZZ.out]; exact HBY.out.base hzw, HD1.out, HO1.out⟩
end
section
open Go.RowKit Go.Sort
open Tm
attribute [local go_sem] gcell
structure SideB (mode : Int) (r : BeR) : Prop where
 mo : r.mo = mode
 co : 0 ≤ r.co ∧ r.co ≤ 3
 wi : 0 ≤ r.wi ∧ r.wi ≤ 3 ∧ (0 < r.co → 1 ≤ r.wi) ∧ (r.co = 0 → r.wi = 0)
 bi : 5 ≤ r.bi ∧ r.bi ≤ 7
 wa : 1 ≤ r.wa ∧ r.wa ≤ 8
 b : 5 ≤ r.b ∧ r.b ≤ 7
 e : 1 ≤ r.e ∧ r.e ≤ 4
 p : 2 ≤ r.p ∧ r.p ≤ 9
 v : 1 ≤ r.v ∧ r.v ≤ 6
 q : 0 ≤ r.q ∧ r.q ≤ 2
 t : r.t = 32
def be11c (r : BeR) : List Value := [.int .i64 r.mo, .int .i64 r.co, .int .i64 r.wi, .int .i64 r.bi, .int .i64 r.wa, .int .i64 r.b, .int .i64 r.e, .int .i64 r.p, .int .i64 r.v, .int .i64 r.q, .int .i64 r.t]
def be11v (r : BeR) : Value := .agg #[.int .i64 r.mo, .int .i64 r.co, .int .i64 r.wi, .int .i64 r.bi, .int .i64 r.wa, .int .i64 r.b, .int .i64 r.e, .int .i64 r.p, .int .i64 r.v, .int .i64 r.q, .int .i64 r.t]
set_option maxRecDepth 100000 in
set_option maxHeartbeats 4000000 in
theorem side21 (mode : Int) (p B : Nat) (w : World) (D : DiceS w p B) : Calls Tryz.prog 21 #[.pointer (some ⟨p, 0, none⟩), .int .i64 mode] w fun e w' => ∃ r, e = .returned (be11v r) ∧ SideB mode r ∧ DiceS w' p B ∧ OnlyP w w' p := by
 have hp := D.lt
 have hB := D.le
 have D1 := hid D
 have O1 := hid (only_refl w p)
 clear D
 go_enter Tryz.func21, Tryz.ntmps21
 go_upto_region 1 with fail
 have H1 := hid (bx_new w #[.int .i64 0, .int .i64 0, .int .i64 0, .int .i64 0, .int .i64 0, .int .i64 0, .int .i64 0, .int .i64 0, .int .i64 0, .int .i64 0, .int .i64 0] 71)
 replace D1 := hid (D1.out.alloc (.cells #[.int .i64 0, .int .i64 0, .int .i64 0, .int .i64 0, .int .i64 0, .int .i64 0, .int .i64 0, .int .i64 0, .int .i64 0, .int .i64 0, .int .i64 0] 71))
 replace O1 := hid (only_alloc O1.out (.cells #[.int .i64 0, .int .i64 0, .int .i64 0, .int .i64 0, .int .i64 0, .int .i64 0, .int .i64 0, .int .i64 0, .int .i64 0, .int .i64 0, .int .i64 0] 71))
 have hz : w.heap.size ≠ p := by omega
 have hzl := bx_lt H1.out
 generalize w.alloc _ = w1 at *
 go_upto_region 2 with (go_at_call 12; refine (next12 (by decide) (by decide) D1.out).mono ?_; rintro e w' ⟨v, rfl, h0, h1, hd, ho⟩; replace O1 := hid (only_trans O1.out ho); replace H1 := hid (only_box ho hz H1.out); replace D1 := hid hd; clear ho hd)
 rename_i _ v1 _ _ _ v2 _ _ _ _ _ _
 obtain ⟨v3, hv3⟩ : ∃ x, x = v := ⟨_, rfl⟩
 subst hv3
 have hlt := bx_lt H1.out
 have hz2 : w'.heap.size ≠ p := by omega
 have hz3 : w'.heap.size ≠ w.heap.size := by omega
 have hB2 : B ≤ w'.heap.size := by omega
 have hw2 : w.heap.size ≤ w'.heap.size := by omega
 have H2 := hid (bx_new w' #[.int .i64 mode, .int .i64 v1, .int .i64 0, .int .i64 (5 + v2), .int .i64 (1 + v3), .int .i64 0, .int .i64 0, .int .i64 0, .int .i64 0, .int .i64 0, .int .i64 0] 71)
 replace H1 := hid (bx_keep (.cells #[.int .i64 mode, .int .i64 v1, .int .i64 0, .int .i64 (5 + v2), .int .i64 (1 + v3), .int .i64 0, .int .i64 0, .int .i64 0, .int .i64 0, .int .i64 0, .int .i64 0] 71) H1.out)
 replace D1 := hid (D1.out.alloc (.cells #[.int .i64 mode, .int .i64 v1, .int .i64 0, .int .i64 (5 + v2), .int .i64 (1 + v3), .int .i64 0, .int .i64 0, .int .i64 0, .int .i64 0, .int .i64 0, .int .i64 0] 71))
 replace O1 := hid (only_alloc O1.out (.cells #[.int .i64 mode, .int .i64 v1, .int .i64 0, .int .i64 (5 + v2), .int .i64 (1 + v3), .int .i64 0, .int .i64 0, .int .i64 0, .int .i64 0, .int .i64 0, .int .i64 0] 71))
 clear hlt hzl
 generalize w'.alloc _ = w2 at *
 generalize w'.heap.size = z2 at *
 have c1 := bx_cell H2.out 1 rfl
 by_cases hco : 0 < v1
 · go_upto_region 4 with (go_at_call 12; refine (next12 (by decide) (by decide) D1.out).mono ?_; rintro e w' ⟨v, rfl, h0, h1, hd, ho⟩; replace O1 := hid (only_trans O1.out ho); replace H1 := hid (only_box ho hz H1.out); replace H2 := hid (only_box ho hz2 H2.out); replace D1 := hid hd; clear ho hd; have c2 := bx_cell H2.out 2 rfl; have hfr := bx_fr H2.out 2)
   clear c1 c2 hfr
   replace D1 := hid (D1.out.set (o := 2) (v := .int .i64 (1 + v)) hB2)
   replace O1 := hid (only_setNew O1.out hw2 2 (.int .i64 (1 + v)))
   replace H1 := hid ((Below.heap_setCell w' ⟨z2, 2, none⟩ (.int .i64 (1 + v)) w.heap.size (Ne.symm hz3)).trans H1.out)
   replace H2 := hid (bx_set_same (k := 2) H2.out (.int .i64 (1 + v)))
   generalize w'.setCell _ _ = w3 at *
   replace H2 := hid (show w3.heap[z2]? = some (.cells #[.int .i64 mode, .int .i64 v1, .int .i64 (1 + v), .int .i64 (5 + v2), .int .i64 (1 + v3), .int .i64 0, .int .i64 0, .int .i64 0, .int .i64 0, .int .i64 0, .int .i64 0] 71 (0, 0)) from H2.out)
   obtain ⟨v4, hv4⟩ : ∃ x, x = v := ⟨_, rfl⟩
   subst hv4
   go_upto_region 5 with (first | (go_at_call 12; refine (next12 (by decide) (by decide) D1.out).mono ?_; rintro e w' ⟨v, rfl, h0, h1, hd, ho⟩; replace O1 := hid (only_trans O1.out ho); replace H1 := hid (only_box ho hz H1.out); replace H2 := hid (only_box ho hz2 H2.out); replace D1 := hid hd; clear ho hd) | (refine wpList_store_mid rfl 69 (.tmp 38) (.tmp 37) rfl z2 5 _ rfl rfl (bx_there_at H2.out 5 6 (Nat.le_of_ble_eq_true rfl)) (by kernel_rfl) (by kernel_rfl) ?_))
   rename_i _ u1 _ _ _ u2 _ _ _ u3 _ _ _ u4 _ _ _ _
   replace D1 := hid (D1.out.sets hB2 5 [.int .i64 (5 + u1), .int .i64 (1 + u2), .int .i64 (2 + u3), .int .i64 (1 + u4), .int .i64 v, .int .i64 32])
   replace O1 := hid (only_sets O1.out hw2 5 [.int .i64 (5 + u1), .int .i64 (1 + u2), .int .i64 (2 + u3), .int .i64 (1 + u4), .int .i64 v, .int .i64 32])
   replace H1 := hid ((bx_cells_other (i := w.heap.size) (Ne.symm hz3) [.int .i64 (5 + u1), .int .i64 (1 + u2), .int .i64 (2 + u3), .int .i64 (1 + u4), .int .i64 v, .int .i64 32] 5).trans H1.out)
   replace H2 := hid (bx_cells_same [.int .i64 (5 + u1), .int .i64 (1 + u2), .int .i64 (2 + u3), .int .i64 (1 + u4), .int .i64 v, .int .i64 32] 5 H2.out)
   generalize w'.setCells _ _ _ = w4 at *
   obtain ⟨r, hr⟩ : ∃ r : BeR, r = ⟨mode, v1, 1 + v4, 5 + v2, 1 + v3, 5 + u1, 1 + u2, 2 + u3, 1 + u4, v, 32⟩ := ⟨_, rfl⟩
   have hS : SideB mode r := by
    subst hr
    constructor <;> dsimp only <;> omega
   replace H2 := hid (show w4.heap[z2]? = some (.cells (be11c r).toArray 71 (0, 0)) from by subst hr; exact H2.out)
   have HS := hid hS
   clear hr hS
   go_wp2_with (first | (refine wpList_load_mid rfl 71 (.tmp 5) rfl z2 0 rfl (be11c r) _ (bx_range H2.out rfl) Tryz.underlying71 rfl (by kernel_rfl) ?_) | (refine wpList_store_mid rfl 71 (.tmp 4) (.tmp 39) rfl w.heap.size 0 (be11c r).toArray rfl rfl (bx_there_at H1.out 0 11 (Nat.le_refl _)) (by kernel_rfl) (by kernel_rfl) ?_))
   have hs := bx_cells_same (be11c r) 0 H1.out
   rw [setFrom_all (vs := be11c r) (cs := #[.int .i64 0, .int .i64 0, .int .i64 0, .int .i64 0, .int .i64 0, .int .i64 0, .int .i64 0, .int .i64 0, .int .i64 0, .int .i64 0, .int .i64 0]) rfl] at hs
   replace H1 := hid hs
   clear hs
   replace D1 := hid (D1.out.sets hB 0 (be11c r))
   replace O1 := hid (only_sets O1.out (Nat.le_refl _) 0 (be11c r))
   generalize w4.setCells _ _ _ = w5 at *
   exact bodyPost_ret (results_range Tryz.results21 _ _ w.heap.size (be11c r) _ rfl (bx_range H1.out rfl) Tryz.underlying71 rfl (by kernel_rfl)) rfl ⟨r, rfl, HS.out, D1.out, O1.out⟩
 · have hv1 : v1 = 0 := by omega
   subst hv1
   go_upto_region 4 with fail
   clear c1
   go_upto_region 5 with (first | (go_at_call 12; refine (next12 (by decide) (by decide) D1.out).mono ?_; rintro e w' ⟨v, rfl, h0, h1, hd, ho⟩; replace O1 := hid (only_trans O1.out ho); replace H1 := hid (only_box ho hz H1.out); replace H2 := hid (only_box ho hz2 H2.out); replace D1 := hid hd; clear ho hd) | (refine wpList_store_mid rfl 69 (.tmp 38) (.tmp 37) rfl z2 5 _ rfl rfl (bx_there_at H2.out 5 6 (Nat.le_of_ble_eq_true rfl)) (by kernel_rfl) (by kernel_rfl) ?_))
   rename_i _ u1 _ _ _ u2 _ _ _ u3 _ _ _ u4 _ _ _ _
   replace D1 := hid (D1.out.sets hB2 5 [.int .i64 (5 + u1), .int .i64 (1 + u2), .int .i64 (2 + u3), .int .i64 (1 + u4), .int .i64 v, .int .i64 32])
   replace O1 := hid (only_sets O1.out hw2 5 [.int .i64 (5 + u1), .int .i64 (1 + u2), .int .i64 (2 + u3), .int .i64 (1 + u4), .int .i64 v, .int .i64 32])
   replace H1 := hid ((bx_cells_other (i := w.heap.size) (Ne.symm hz3) [.int .i64 (5 + u1), .int .i64 (1 + u2), .int .i64 (2 + u3), .int .i64 (1 + u4), .int .i64 v, .int .i64 32] 5).trans H1.out)
   replace H2 := hid (bx_cells_same [.int .i64 (5 + u1), .int .i64 (1 + u2), .int .i64 (2 + u3), .int .i64 (1 + u4), .int .i64 v, .int .i64 32] 5 H2.out)
   generalize w'.setCells _ _ _ = w4 at *
   obtain ⟨r, hr⟩ : ∃ r : BeR, r = ⟨mode, 0, 0, 5 + v2, 1 + v3, 5 + u1, 1 + u2, 2 + u3, 1 + u4, v, 32⟩ := ⟨_, rfl⟩
   have hS : SideB mode r := by
    subst hr
    constructor <;> dsimp only <;> omega
   replace H2 := hid (show w4.heap[z2]? = some (.cells (be11c r).toArray 71 (0, 0)) from by subst hr; exact H2.out)
   have HS := hid hS
   clear hr hS
   go_wp2_with (first | (refine wpList_load_mid rfl 71 (.tmp 5) rfl z2 0 rfl (be11c r) _ (bx_range H2.out rfl) Tryz.underlying71 rfl (by kernel_rfl) ?_) | (refine wpList_store_mid rfl 71 (.tmp 4) (.tmp 39) rfl w.heap.size 0 (be11c r).toArray rfl rfl (bx_there_at H1.out 0 11 (Nat.le_refl _)) (by kernel_rfl) (by kernel_rfl) ?_))
   have hs := bx_cells_same (be11c r) 0 H1.out
   rw [setFrom_all (vs := be11c r) (cs := #[.int .i64 0, .int .i64 0, .int .i64 0, .int .i64 0, .int .i64 0, .int .i64 0, .int .i64 0, .int .i64 0, .int .i64 0, .int .i64 0, .int .i64 0]) rfl] at hs
   replace H1 := hid hs
   clear hs
   replace D1 := hid (D1.out.sets hB 0 (be11c r))
   replace O1 := hid (only_sets O1.out (Nat.le_refl _) 0 (be11c r))
   generalize w4.setCells _ _ _ = w5 at *
   exact bodyPost_ret (results_range Tryz.results21 _ _ w.heap.size (be11c r) _ rfl (bx_range H1.out rfl) Tryz.underlying71 rfl (by kernel_rfl)) rfl ⟨r, rfl, HS.out, D1.out, O1.out⟩
end
section
open Go.RowKit Go.Sort
open Tm
attribute [local go_sem] gcell
def FdB (id cells : Int) (x : Ch.Fd) : Prop := x.t = id ∧ 0 ≤ x.c ∧ x.c < cells ∧ 0 ≤ x.f ∧ x.f ≤ 400 ∧ 0 ≤ x.g ∧ x.g ≤ 40 ∧ 0 ≤ x.n ∧ x.n ≤ 60
def FdsAt (w : World) (B : Nat) (id cells : Int) (v : Value) (n : Nat) : Prop := ∃ X : Nat → Ch.Fd, w.ownsRow B 86 5 v n ((List.range (n * 5)).map (fdv X)) ∧ ∀ k, k < n → FdB id cells (X k)
theorem FdsAt.nil (w : World) (B : Nat) (id cells : Int) : FdsAt w B id cells (.slice none 0 0) 0 := ⟨fun _ => ⟨0, 0, 0, 0, 0⟩, own_nilK w B 86 5 _, fun k hk => absurd hk (Nat.not_lt_zero k)⟩
theorem fdv_put (X : Nat → Ch.Fd) (n : Nat) (x : Ch.Fd) (j : Nat) (hj : j < n * 5) : fdv (fun k => if k = n then x else X k) j = fdv X j := by
 unfold fdv
 have : j / 5 ≠ n := by omega
 simp only [if_neg this]
theorem fdv_new (X : Nat → Ch.Fd) (n : Nat) (x : Ch.Fd) (j : Nat) (hj : j < 5) : (#[Value.int .i64 x.t, .int .i64 x.c, .int .i64 x.f, .int .i64 x.g, .int .i64 x.n])[j]? = some (fdv (fun k => if k = n then x else X k) (n * 5 + j)) := by
 unfold fdv
 have e1 : (n * 5 + j) / 5 = n := by omega
 have e2 : (n * 5 + j) % 5 = j := by omega
 simp only [e1, e2, if_pos]
 match j, hj with
 | 0, _ => rfl
 | 1, _ => rfl
 | 2, _ => rfl
 | 3, _ => rfl
 | 4, _ => rfl
theorem wpList_append_fd {ops : Array Oper} {rest : List Oper} {o : Oper} {a : Act} {Q : Exit → Act → World → Prop} (w : World) (B : Nat) (id cells : Int) (hgd : o.guard = none) (sl x : Operand)
 (ho : o.op = .call { callee := .builtin .append, args := #[sl, x], argTypes := #[34, 34] }) (v : Value) (n : Nat) (hs : a.eval sl = v) (y : Ch.Fd) (hy : FdB id cells y) (b : Nat) (hx : a.eval x = .slice (some ⟨b, 0, none⟩) 1 1)
 (hcs : w.heap[b]? = some (.cells #[.int .i64 y.t, .int .i64 y.c, .int .i64 y.f, .int .i64 y.g, .int .i64 y.n] 86 (0, 0))) (F : FdsAt w B id cells v n) (hB : B ≤ w.heap.size) (hn : n + 1 ≤ 1000000)
 (h : ∀ v' w', FdsAt w' B id cells v' (n + 1) → w.grownBy w' v.ownBlock → (v'.ownBlock = v.ownBlock ∨ v'.ownBlock = some w.heap.size) → wpList Tryz.prog ops Q rest (a.put o.dst v') w') :
 wpList Tryz.prog ops Q (o :: rest) a w := by
 obtain ⟨X, hX, hb⟩ := F
 refine wpList_append_at w B hgd sl x 34 ho 86 _ 5 40 Tryz.underlying34 pz86 rfl (by decide) (by decide) v n (fdv X) hs b _ (0, 0) hx hcs rfl ?_ (fdv fun k => if k = n then y else X k) (fun j hj => fdv_put X n y j hj) (fun j hj => fdv_new X n y j hj) hX hB hn ?_
 · intro u hu
   simp at hu
   rcases hu with rfl | rfl | rfl | rfl | rfl <;> rfl
 · intro v' w' h1 h2 h3
   refine h v' w' ⟨_, h1, fun k hk => ?_⟩ h2 h3
   by_cases e : k = n
   · simp only [e, if_pos]; exact hy
   · simp only [e, if_neg]; exact hb k (by omega)
theorem FdsAt.setN {w : World} {B g n c : Nat} {id cells x : Int} (F : FdsAt w B id cells (.slice (some ⟨g, 0, none⟩) (n + 1) c) (n + 1)) (h0 : 0 ≤ x) (h1 : x ≤ 60) :
 FdsAt (w.setCell ⟨g, n * 5 + 4, none⟩ (.int .i64 x)) B id cells (.slice (some ⟨g, 0, none⟩) (n + 1) c) (n + 1) := by
 obtain ⟨X, hX, hb⟩ := F
 have h2 := (hX.stored (n * 5 + 4) (.int .i64 x)).1
 rw [set_map_range] at h2
 have e : ((List.range ((n + 1) * 5)).map fun j => if j = n * 5 + 4 then Value.int .i64 x else fdv X j) = (List.range ((n + 1) * 5)).map (fdv fun k => if k = n then { X n with n := x } else X k) := map_range_congr fun j hj => by
  unfold fdv
  by_cases hjn : j / 5 = n
  · simp only [hjn, if_pos]
    by_cases q : j % 5 = 4
    · rw [if_pos (show j = n * 5 + 4 by omega), q]; rfl
    · rw [if_neg (show ¬ j = n * 5 + 4 by omega)]
      have : j % 5 = 0 ∨ j % 5 = 1 ∨ j % 5 = 2 ∨ j % 5 = 3 := by omega
      rcases this with q | q | q | q <;> rw [q] <;> rfl
  · rw [if_neg (show ¬ j = n * 5 + 4 by omega)]
    simp only [if_neg hjn]
 rw [e] at h2
 refine ⟨_, h2, fun k hk => ?_⟩
 by_cases e : k = n
 · have := hb n (by omega)
   simp only [e, if_pos]
   exact ⟨this.1, this.2.1, this.2.2.1, this.2.2.2.1, this.2.2.2.2.1, this.2.2.2.2.2.1, this.2.2.2.2.2.2.1, h0, h1⟩
 · simp only [e, if_neg]
   exact hb k hk
theorem FdsAt.keep {w w' : World} {B n p : Nat} {id cells : Int} {v : Value} (F : FdsAt w B id cells v n) (h : OnlyP w w' p) (hp : p < B) : FdsAt w' B id cells v n := by
 obtain ⟨X, hX, hb⟩ := F
 exact ⟨X, own_kept hX fun g hg => only_block h (by have := (hX.lt g hg).1; omega) (hX.lt g hg).2, hb⟩
theorem FdsAt.alloc {w : World} {B n : Nat} {id cells : Int} {v : Value} (F : FdsAt w B id cells v n) (o : Obj) : FdsAt (w.alloc o) B id cells v n := by
 obtain ⟨X, hX, hb⟩ := F
 exact ⟨X, hX.alloc o, hb⟩
end
end Go.Proofs.YtgflfdnajchjaaaGreatDoor
