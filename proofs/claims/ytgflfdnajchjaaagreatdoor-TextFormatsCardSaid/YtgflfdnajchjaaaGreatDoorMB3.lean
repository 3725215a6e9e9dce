/- Layer 45: the packet with a number, by dice: so many bytes. -/
import Derived.Test.YtgflfdnajchjaaaGreatDoorMB2
namespace Go.Proofs.YtgflfdnajchjaaaGreatDoor
set_option linter.unusedVariables false
set_option linter.unusedSimpArgs false
open Go.RowKit Go.Sort
attribute [local go_sem] gcell
theorem DiceS.grow {w w' : World} {p B g : Nat} (D : DiceS w p B) (hg : w.grownBy w' (some g)) (h : B ≤ g) : DiceS w' p B :=
  D.mono (below_own (Below.refl B w) D.le hg h) (Nat.le_refl _)
theorem only_own {w u u' : World} {p g : Nat} (O : OnlyP w u p) (h : w.heap.size ≤ g) (hg : u.grownBy u' (some g)) : OnlyP w u' p :=
  ⟨hg.os.trans O.os, hg.tape.trans O.tape, hg.output.trans O.output, Nat.le_trans O.size hg.size, fun i hi hne => (hg.block i (Nat.lt_of_lt_of_le hi O.size) (by simp; omega)).trans (O.block i hi hne)⟩
set_option maxRecDepth 100000 in
set_option maxHeartbeats 8000000 in
theorem packet25 (i p B : Nat) (hi : i ≤ 300) (w : World) (D : DiceS w p B) : Calls Tryz.prog 25 #[.pointer (some ⟨p, 0, none⟩), .int .i64 i] w fun e w' => ∃ v n, e = .returned v ∧ 1 ≤ n ∧ n ≤ 1040 ∧ ByR w' w.heap.size v n ∧ DiceS w' p B ∧ OnlyP w w' p := by
  have hp := D.lt
  have hB := D.le
  have hz : w.heap.size ≠ p := by omega
  have D1 := Lib.hid (D.alloc (.cells #[.int .i64 1, .int .i64 0, .int .i64 ((100 + i) % 65536), .int .i64 0, .int .i64 64, .int .i64 167772161, .int .i64 167772162, .int .i64 1000, .int .i64 2000, .int .i64 0, .int .i64 0, .int .i64 0, .int .i64 0, .int .i64 0, .int .i64 0] 121))
  have O1 := Lib.hid (only_alloc (only_refl w p) (.cells #[.int .i64 1, .int .i64 0, .int .i64 ((100 + i) % 65536), .int .i64 0, .int .i64 64, .int .i64 167772161, .int .i64 167772162, .int .i64 1000, .int .i64 2000, .int .i64 0, .int .i64 0, .int .i64 0, .int .i64 0, .int .i64 0, .int .i64 0] 121))
  have HZ := Lib.hid (bx_new w #[.int .i64 1, .int .i64 0, .int .i64 ((100 + i) % 65536), .int .i64 0, .int .i64 64, .int .i64 167772161, .int .i64 167772162, .int .i64 1000, .int .i64 2000, .int .i64 0, .int .i64 0, .int .i64 0, .int .i64 0, .int .i64 0, .int .i64 0] 121)
  clear D
  go_enter Tryz.func25, Tryz.ntmps25
  go_upto_region 2 with fail
  have hzl := bx_lt HZ.out
  have hpz : B ≤ w.heap.size := hB
  have hsz1 := O1.out.size
  generalize w.alloc _ = w1 at *
  generalize Value.agg #[.int .i64 1, .int .i64 0, .int .i64 ((100 + i) % 65536), .int .i64 0, .int .i64 64, .int .i64 167772161, .int .i64 167772162, .int .i64 1000, .int .i64 2000, .int .i64 0, .int .i64 0, .int .i64 0, .int .i64 0, .int .i64 0, .int .i64 0] = ag at *
  generalize hzz : w.heap.size = z at *
  have HZZ := Lib.hid hzz
  clear hzz
  go_upto_region 3 with (go_at_call 12; refine (next12 (by decide) (by decide) D1.out).mono ?_; rintro e w2 ⟨k, rfl, h0, h1, hd, ho⟩; replace O1 := Lib.hid (only_trans O1.out ho); replace HZ := Lib.hid (only_box ho hz HZ.out); replace D1 := Lib.hid hd; clear ho hd)
  by_cases k0 : k = 0
  · subst k0
    go_upto_region 4 with fail
    obtain ⟨y, hy⟩ := u8_mod (i : Int)
    have HY := Lib.hid hy
    have hzw := bx_lt HZ.out
    clear hy
    have HA := Lib.hid (show ByR (w2.alloc (.cells #[.int .u8 ((i : Int) % 256)] 5)) w2.heap.size (.slice (some ⟨w2.heap.size, 0, none⟩) 1 1) 1 from by rw [HY.out]; exact byr_new w2 [y] (by simp))
    have DA := Lib.hid (D1.out.alloc (.cells #[.int .u8 ((i : Int) % 256)] 5))
    have OA := Lib.hid (only_alloc O1.out (.cells #[.int .u8 ((i : Int) % 256)] 5))
    have hpw2 : p < w2.heap.size := by omega
    go_upto_region 5 with (first | (go_at_call 12; refine (next12 (by decide) (by decide) DA.out).mono ?_; rintro e w3 ⟨x, rfl, g0, g1, hd, ho⟩; refine Hid.out ?_))
    refine Lib.hid ?_
    obtain ⟨mx, hmx⟩ : ∃ m : Nat, x = (m : Int) := ⟨x.toNat, by omega⟩
    subst hmx
    replace HA := Lib.hid (HA.out.only ho hpw2)
    replace DA := Lib.hid hd
    replace OA := Lib.hid (only_trans OA.out ho)
    have hs3 := ho.size
    simp at hs3
    clear hd ho
    have KB := Lib.hid (bytes48 (1 + mx) p B ⟨by omega, by omega⟩ w3 DA.out)
    have e1 : ((1 + mx : Nat) : Int) = 1 + mx := by omega
    rw [e1] at KB
    go_upto_region 5 with (first | (go_at_call 48; refine KB.out.mono ?_; rintro e w4 ⟨v4, rfl, hv4, hd, ho⟩; refine Hid.out ?_))
    refine Lib.hid ?_
    replace HA := Lib.hid (HA.out.only ho hpw2)
    replace DA := Lib.hid hd
    replace OA := Lib.hid (only_trans OA.out ho)
    have hs4 := ho.size
    obtain ⟨a4, c4, e4, -, hpp⟩ := hv4.slice
    obtain ⟨q4, rfl, hq4, -⟩ := hpp (by omega)
    subst e4
    have HC := Lib.hid hv4.cells
    clear hd ho KB e1 hv4 hpp
    go_wp2_with (at_builtin; refine wpList_append_by w4 w2.heap.size rfl (.tmp 18) (.tmp 23) rfl _ 1 rfl HA.out q4 0 (1 + mx) c4 rfl HC.out (by omega) (by omega) ?_; intro v5 w5 h5 hg5 hv5)
    go_ret
    exact ⟨_, 1 + (1 + mx), rfl, by omega, by omega, by rw [HZZ.out]; exact h5.base (by omega), DiceS.grow (g := w2.heap.size) DA.out hg5 (by omega), only_own (g := w2.heap.size) OA.out (by rw [HZZ.out]; omega) hg5⟩
  · by_cases k1 : k = 1
    case' pos =>
      subst k1
      go_upto_region 6 with fail
      have c0 := bx_cell HZ.out 0 rfl
      have f0 := bx_fr HZ.out 0
      have c12 := bx_cell HZ.out 12 rfl
      have f12 := bx_fr HZ.out 12
      have c13 := bx_cell HZ.out 13 rfl
      have f13 := bx_fr HZ.out 13
      have c14 := bx_cell HZ.out 14 rfl
      have f14 := bx_fr HZ.out 14
      have c11 := bx_cell HZ.out 11 rfl
      have f11 := bx_fr HZ.out 11
      have c7 := bx_cell HZ.out 7 rfl
      have f7 := bx_fr HZ.out 7
      go_upto_region 7 with fail
      clear c0 f0 c12 f12 c13 f13 c14 f14 c11 f11 c7 f7
      obtain ⟨h, eh⟩ : ∃ h : Hd, h = ⟨2, (100 + i) % 65536, 1002, 8, (500 + i) % 65536, 160 * i, 77⟩ := ⟨_, rfl⟩
      have HH := Lib.hid (show HdOk h from by subst eh; constructor <;> dsimp only <;> omega)
      replace HZ := Lib.hid (show (((((((w2.setCell ⟨z, 0, none⟩ (.int .i64 2)).setCell ⟨z, 12, none⟩ (.int .i64 ((500 + i) % 65536))).setCell ⟨z, 13, none⟩ (.int .i64 (160 * i))).setCell ⟨z, 14, none⟩ (.int .i64 77)).setCell ⟨z, 11, none⟩ (.int .i64 8)).setCell ⟨z, 7, none⟩ (.int .i64 1002))).heap[z]? = some (.cells (hdc h).toArray 121 (0, 0)) from by subst eh; exact (bx_set_same (k := 7) (bx_set_same (k := 11) (bx_set_same (k := 14) (bx_set_same (k := 13) (bx_set_same (k := 12) (bx_set_same (k := 0) HZ.out (.int .i64 2)) (.int .i64 ((500 + i) % 65536))) (.int .i64 (160 * i))) (.int .i64 77)) (.int .i64 8)) (.int .i64 1002)))
      replace D1 := Lib.hid (DiceS.set (o := 7) (v := .int .i64 1002) (DiceS.set (o := 11) (v := .int .i64 8) (DiceS.set (o := 14) (v := .int .i64 77) (DiceS.set (o := 13) (v := .int .i64 (160 * i)) (DiceS.set (o := 12) (v := .int .i64 ((500 + i) % 65536)) (DiceS.set (o := 0) (v := .int .i64 2) D1.out hpz) hpz) hpz) hpz) hpz) hpz)
      replace O1 := Lib.hid (only_setNew (only_setNew (only_setNew (only_setNew (only_setNew (only_setNew O1.out (Nat.le_of_eq HZZ.out) 0 (.int .i64 2)) (Nat.le_of_eq HZZ.out) 12 (.int .i64 ((500 + i) % 65536))) (Nat.le_of_eq HZZ.out) 13 (.int .i64 (160 * i))) (Nat.le_of_eq HZZ.out) 14 (.int .i64 77)) (Nat.le_of_eq HZZ.out) 11 (.int .i64 8)) (Nat.le_of_eq HZZ.out) 7 (.int .i64 1002))
      clear eh
      generalize ((((((w2.setCell ⟨z, 0, none⟩ (.int .i64 2)).setCell ⟨z, 12, none⟩ (.int .i64 ((500 + i) % 65536))).setCell ⟨z, 13, none⟩ (.int .i64 (160 * i))).setCell ⟨z, 14, none⟩ (.int .i64 77)).setCell ⟨z, 11, none⟩ (.int .i64 8)).setCell ⟨z, 7, none⟩ (.int .i64 1002)) = w5 at *
    case' neg =>
      go_upto_region 7 with fail
      obtain ⟨h, eh⟩ : ∃ h : Hd, h = ⟨1, (100 + i) % 65536, 1000, 0, 0, 0, 0⟩ := ⟨_, rfl⟩
      have HH := Lib.hid (show HdOk h from by subst eh; constructor <;> dsimp only <;> omega)
      replace HZ := Lib.hid (show w2.heap[z]? = some (.cells (hdc h).toArray 121 (0, 0)) from by subst eh; exact HZ.out)
      clear eh
      generalize w2 = w5 at *
    all_goals
      have hzp : z ≠ p := hz
      have hpW : p < w5.heap.size := by have := D1.out.le; omega
      refine wp_region_peelJ 0 11 (fun u u' => OnlyP u u' p) (fun i v u => match i with
        | 0 => v = .agg (hdc h).toArray
        | 1 => v = .pointer (some ⟨p, 0, none⟩)
        | 2 => v = .pointer (some ⟨p, 0, none⟩)
        | 3 => ∃ x : Int, v = .int .i64 x ∧ 0 ≤ x ∧ x < 20
        | 4 => ∃ x : Int, v = .int .i64 (1 + x) ∧ 0 ≤ x ∧ x < 20
        | 5 => ∃ m q c : Nat, v = .slice (some ⟨q, 0, none⟩) m c ∧ m ≤ 20 ∧ ByR u w5.heap.size (.slice (some ⟨q, 0, none⟩) m c) m
        | 6 => ∃ (x : Value) (n : Nat), v = .tuple #[x, .int .i64 0] ∧ 28 ≤ n ∧ n ≤ 1040 ∧ ByR u w5.heap.size x n
        | 7 => ∃ (x : Value) (n : Nat), v = .tuple #[x, .int .i64 0] ∧ 28 ≤ n ∧ n ≤ 1040 ∧ ByR u w5.heap.size x n
        | 8 => ∃ n : Nat, 28 ≤ n ∧ n ≤ 1040 ∧ ByR u w5.heap.size v n
        | 9 => v = .int .i64 0
        | 10 => ∃ n : Nat, 28 ≤ n ∧ n ≤ 1040 ∧ ByR u w5.heap.size v n
        | _ => True) (fun _ _ u => DiceS u p B) (by kernel_rfl) (by kernel_rfl) rfl (fun _ _ d _ _ h => by cases d <;> exact h) (only_drewN (only_refl _ _) 1) (fun _ _ _ h1 h2 => only_trans h1 h2) (fun _ _ _ _ _ _ _ h => h) (D1.out.drewN 1) ?_ ?_ ?_
      · intro i v w1 w2 hb h
        match i with
        | 0 => exact h
        | 1 => exact h
        | 2 => exact h
        | 3 => exact h
        | 4 => exact h
        | 5 =>
          obtain ⟨m, q, c, e1, e2, e3⟩ := h
          exact ⟨m, q, c, e1, e2, e3.only hb hpW⟩
        | 6 =>
          obtain ⟨x, n, e1, e2, e3, e4⟩ := h
          exact ⟨x, n, e1, e2, e3, e4.only hb hpW⟩
        | 7 =>
          obtain ⟨x, n, e1, e2, e3, e4⟩ := h
          exact ⟨x, n, e1, e2, e3, e4.only hb hpW⟩
        | 8 =>
          obtain ⟨n, e2, e3, e4⟩ := h
          exact ⟨n, e2, e3, e4.only hb hpW⟩
        | 9 => exact h
        | 10 =>
          obtain ⟨n, e2, e3, e4⟩ := h
          exact ⟨n, e2, e3, e4.only hb hpW⟩
        | k + 11 => exact h
      · intro i o hp hi ho L vf u1 hun hw hb hj hd
        have hi' : i = 0 ∨ i = 1 ∨ i = 2 ∨ i = 3 ∨ i = 4 ∨ i = 5 ∨ i = 6 ∨ i = 7 ∨ i = 8 ∨ i = 9 ∨ i = 10 := by omega
        rcases hi' with rfl | rfl | rfl | rfl | rfl | rfl | rfl | rfl | rfl | rfl | rfl
        all_goals obtain rfl := Option.some.inj ho
        all_goals simp only [fillA, List.take_succ_cons, List.take_zero, List.drop_succ_cons, List.drop_zero, Nat.zero_add, Nat.reduceAdd]
        · have HJ := Lib.hid hj
          have HR := Lib.hid (bx_range (only_box hb hzp HZ.out) (l := hdc h) rfl)
          clear hd hw hj
          simp only [Act.put, List.setIfInBounds_toArray, List.set_cons_succ, List.set_cons_zero]
          go_wp2_with (refine wpList_load_mid rfl 121 (.tmp 5) rfl z 0 rfl (hdc h) _ HR.out Tryz.underlying121 rfl (by kernel_rfl) ?_)
          exact ⟨rfl, only_refl _ _, rfl, HJ.out⟩
        · have HJ := Lib.hid hj
          clear hd hw hj
          go_wp2
          exact ⟨rfl, only_refl _ _, rfl, HJ.out⟩
        · have HJ := Lib.hid hj
          clear hd hw hj
          go_wp2
          exact ⟨rfl, only_refl _ _, rfl, HJ.out⟩
        · have f2 := hd 2 (by omega) (by omega) (hw 2 (by kernel_rfl))
          have HJ := Lib.hid hj
          clear hd hw hj
          simp only [Act.put, List.setIfInBounds_toArray, List.set_cons_succ, List.set_cons_zero]
          generalize vf 2 = vv at *
          subst f2
          go_wp2_with (go_at_call 12; refine (next12 (by decide) (by decide) HJ.out).mono ?_; rintro e w3 ⟨x, rfl, h0, h1, hd, ho⟩)
          exact ⟨rfl, ho, ⟨x, rfl, h0, h1⟩, hd⟩
        · obtain ⟨x, f3, h0, h1⟩ := hd 3 (by omega) (by omega) (hw 3 (by kernel_rfl))
          have HJ := Lib.hid hj
          clear hd hw hj
          simp only [Act.put, List.setIfInBounds_toArray, List.set_cons_succ, List.set_cons_zero]
          generalize vf 3 = vv at *
          subst f3
          go_wp2
          exact ⟨rfl, only_refl _ _, ⟨x, rfl, h0, h1⟩, HJ.out⟩
        · obtain ⟨x4, f4, h0, h1⟩ := hd 4 (by omega) (by omega) (hw 4 (by kernel_rfl))
          obtain ⟨m, hm4⟩ : ∃ m : Nat, 1 + x4 = m := ⟨(1 + x4).toNat, by omega⟩
          rw [hm4] at f4
          have f1 := hd 1 (by omega) (by omega) (hw 1 (by kernel_rfl))
          have hsz := hb.size
          have HJ := Lib.hid hj
          clear hd hw hj
          simp only [Act.put, List.setIfInBounds_toArray, List.set_cons_succ, List.set_cons_zero]
          generalize vf 4 = vv at *
          subst f4
          generalize vf 1 = vp at *
          subst f1
          go_wp2_with (go_at_call 48; refine (bytes48 m p B ⟨by omega, by omega⟩ u1 HJ.out).mono ?_; rintro e w3 ⟨x, rfl, hv, hd, ho⟩)
          obtain ⟨a, c, e, -, hpp⟩ := hv.slice
          obtain ⟨q, rfl, -⟩ := hpp (by omega)
          subst e
          exact ⟨rfl, ho, ⟨m, q, c, rfl, by omega, hv.base hsz⟩, hd⟩
        · have f0 := hd 0 (by omega) (by omega) (hw 0 (by kernel_rfl))
          obtain ⟨m, q, c, f5, hm, hby⟩ := hd 5 (by omega) (by omega) (hw 5 (by kernel_rfl))
          have hsz := hb.size
          have KB := Lib.hid (build49 h HH.out u1 _ m q c hby (by omega))
          have HJ := Lib.hid hj
          clear hd hw hj
          clear hby
          simp only [Act.put, List.setIfInBounds_toArray, List.set_cons_succ, List.set_cons_zero]
          generalize vf 0 = v0 at *
          subst f0
          generalize vf 5 = v5 at *
          subst f5
          go_wp2_with (go_at_call 49; refine KB.out.mono ?_; rintro e w3 ⟨v, n, rfl, hn1, hn2, hv, hb3⟩)
          exact ⟨rfl, only_below' (only_refl _ _) hb3, ⟨v, n, rfl, hn1, hn2, hv.base hsz⟩, HJ.out.mono hb3 HJ.out.le⟩
        · obtain ⟨x, n, f6, g1, g2, g3⟩ := hd 6 (by omega) (by omega) (hw 6 (by kernel_rfl))
          have HG := Lib.hid g3
          have HJ := Lib.hid hj
          clear hd hw hj
          clear g3
          simp only [Act.put, List.setIfInBounds_toArray, List.set_cons_succ, List.set_cons_zero]
          generalize vf 6 = vv at *
          subst f6
          go_wp2
          exact ⟨rfl, only_refl _ _, ⟨x, n, rfl, g1, g2, HG.out⟩, HJ.out⟩
        · obtain ⟨x, n, f7, g1, g2, g3⟩ := hd 7 (by omega) (by omega) (hw 7 (by kernel_rfl))
          have HG := Lib.hid g3
          have HJ := Lib.hid hj
          clear hd hw hj
          clear g3
          simp only [Act.put, List.setIfInBounds_toArray, List.set_cons_succ, List.set_cons_zero]
          generalize vf 7 = vv at *
          subst f7
          go_wp2
          exact ⟨rfl, only_refl _ _, ⟨n, g1, g2, HG.out⟩, HJ.out⟩
        · obtain ⟨x, n, f7, g1, g2, g3⟩ := hd 7 (by omega) (by omega) (hw 7 (by kernel_rfl))
          have HG := Lib.hid g3
          have HJ := Lib.hid hj
          clear hd hw hj
          clear g3
          simp only [Act.put, List.setIfInBounds_toArray, List.set_cons_succ, List.set_cons_zero]
          generalize vf 7 = vv at *
          subst f7
          go_wp2
          exact ⟨rfl, only_refl _ _, rfl, HJ.out⟩
        · obtain ⟨n, g1, g2, g3⟩ := hd 8 (by omega) (by omega) (hw 8 (by kernel_rfl))
          have HG := Lib.hid g3
          have HJ := Lib.hid hj
          clear hd hw hj
          clear g3
          simp only [Act.put, List.setIfInBounds_toArray, List.set_cons_succ, List.set_cons_zero]
          generalize vf 8 = vv at *
          go_wp2
          exact ⟨rfl, only_refl _ _, ⟨n, g1, g2, HG.out⟩, HJ.out⟩
      intro vf u1 hb hj hd
      have f9 := hd 9 (by omega) (by omega)
      obtain ⟨n, hn1, hn2, hby⟩ := hd 10 (by omega) (by omega)
      have HBY := Lib.hid hby
      have HD1 := Lib.hid hj
      have HO1 := Lib.hid (only_trans O1.out hb)
      clear hd hj hb hby
      simp only [fillA, List.take_succ_cons, List.take_zero, List.drop_succ_cons, List.drop_zero, Nat.zero_add, Nat.reduceAdd]
      simp only [Act.put, List.setIfInBounds_toArray, List.set_cons_succ, List.set_cons_zero]
      generalize vf 9 = v9 at *
      subst f9
      generalize vf 10 = v10 at *
      have hzw : z ≤ w5.heap.size := by have := bx_lt HZ.out; omega
      go_wp2
      go_ret
      exact ⟨_, n, rfl, by omega, hn2, by rw [HZZ.out]; exact HBY.out.base hzw, HD1.out, HO1.out⟩
end Go.Proofs.YtgflfdnajchjaaaGreatDoor
