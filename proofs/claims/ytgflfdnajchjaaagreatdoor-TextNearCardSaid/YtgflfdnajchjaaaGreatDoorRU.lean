import Derived.Test.YtgflfdnajchjaaaGreatDoorRS
import Derived.Test.YtgflfdnajchjaaaGreatDoorRQ
import Derived.Test.YtgflfdnajchjaaaGreatDoorRT
import Derived.Test.YtgflfdnajchjaaaGreatDoorRM
set_option linter.unusedVariables false
set_option linter.unusedSimpArgs false
namespace Go.Proofs.YtgflfdnajchjaaaGreatDoor
open Go.Lib (hid)
open Go.RowKit
section
open Go.RowKit Go.Sort
open Tm
attribute [local go_sem] gcell
theorem byr_ownU {w : World} {B n : Nat} {v : Value} (h : ByR w B v n) : ∃ l : List UInt8, l.length = n ∧ OwnU w B v l := by
 obtain ⟨l, hl, h⟩ := h;refine ⟨l, hl, ?_⟩
 unfold OwnU
 have e : (List.range l.length).map (u8v l) = Lib.byteCells l := by
  unfold Lib.byteCells u8v;refine List.ext_getElem? fun k => ?_
  rw [List.getElem?_map, List.getElem?_map];by_cases hk : k < l.length
  · rw [List.getElem?_range hk, List.getElem?_eq_getElem hk];simp [List.getD_eq_getElem?_getD, List.getElem?_eq_getElem hk]
  · rw [List.getElem?_eq_none (by simp; omega), List.getElem?_eq_none (by omega)]
    rfl
 rw [e, hl];exact h
def TrB (tk tn : Int) (q : Tr) : Prop := 0 ≤ q.a ∧ q.a < tk ∧ 0 ≤ q.t ∧ q.t < tn ∧ 0 ≤ q.b ∧ q.b ≤ 1 ∧ 0 ≤ q.d ∧ q.d < 2 ∧ 1 ≤ q.by'.length ∧ q.by'.length ≤ 1040
structure TrSt (w wr : World) (c : Cf) (p B : Nat) (tk : Int) (v : Value) (n : Nat) (Q : Nat → Tr) : Prop where
 l : wr.ownsRow w.heap.size 49 5 v n ((List.range (n * 5)).map (trv Q))
 d : ∀ k, k < n → OwnU wr w.heap.size (.slice (Q k).pa (Q k).pn (Q k).pc) (Q k).by'
 b : ∀ k, k < n → TrB tk c.tn (Q k)
 D : DiceS wr p B
 O : OnlyP w wr p
 Z : wr.heap[w.heap.size]? = some (.cells (cfs c).toArray 37 (0, 0))
theorem TrSt.next {w wr w' : World} {c : Cf} {p B n : Nat} {tk : Int} {v : Value} {Q : Nat → Tr} (S : TrSt w wr c p B tk v n Q) (hp : p < w.heap.size) (ho : OnlyP wr w' p) (hd : DiceS w' p B) : TrSt w w' c p B tk v n Q :=
 ⟨own_only' S.l ho hp, fun k hk => own_only' (S.d k hk) ho hp, S.b, hd, only_trans S.O ho, only_box ho (by omega) S.Z⟩
theorem TrSt.sets {w wr : World} {c : Cf} {p B n q : Nat} {tk : Int} {v : Value} {Q : Nat → Tr} (S : TrSt w wr c p B tk v n Q) (hB : B ≤ w.heap.size) (hq : w.heap.size < q) (hv : ∀ g, v.ownBlock = some g → g ≠ q) (hd : ∀ k, k < n → ∀ g, (Value.slice (Q k).pa (Q k).pn (Q k).pc).ownBlock = some g → g ≠ q) (o : Nat) (vs : List Value) : TrSt w (wr.setCells q o vs) c p B tk v n Q :=
 ⟨own_kept S.l fun g hg => bx_cells_other (hv g hg) vs o, fun k hk => own_kept (S.d k hk) fun g hg => bx_cells_other (hd k hk g hg) vs o, S.b, S.D.sets (by omega) o vs, only_sets S.O (by omega) o vs, (bx_cells_other (by omega) vs o).trans S.Z⟩
theorem CfRw.rows {w : World} {B q : Nat} {c : Cf} {X : Nat → Ch.Fd} {T : Nat → Te} (K : CfRw w B c X T) (h : q < c.tn) : ∃ g, c.ta = some ⟨g, 0, none⟩ ∧ B ≤ g ∧ ∀ j, j < 14 → w.cell? ⟨g, q * 14 + j, none⟩ = some (tcell (T q) j) := by
 obtain ⟨a, cc, b, e, hc, hp, hcell⟩ := own_cellsK K.t;injection e with e1 e2 e3
 obtain ⟨hb, h1, -, -⟩ := hp (by omega);refine ⟨b, e1.trans hb, h1, fun j hj => ?_⟩
 have := hcell (q * 14 + j) (by omega);rw [tev_at T q j hj] at this;exact this
theorem own_alloc' {w : World} {B e s n : Nat} {v : Value} {xs : List Value} (h : w.ownsRow B e s v n xs) (o : Obj) : (w.alloc o).ownsRow B e s v n xs := h.alloc o
theorem tr_keep (Q : Nat → Tr) (n : Nat) (t : Tr) (j : Nat) (hj : j < n * 5) : trv (addR Q n t) j = trv Q j := by
 unfold trv;rw [addR_ne (show j / 5 ≠ n by omega)]
theorem tr_new (Q : Nat → Tr) (n : Nat) (t : Tr) (j : Nat) (hj : j < 5) : (trC t).toArray[j]? = some (trv (addR Q n t) (n * 5 + j)) := by
 rw [trv_at _ _ _ hj, addR_at]
 match j, hj with
 | 0, _ => rfl
 | 1, _ => rfl
 | 2, _ => rfl
 | 3, _ => rfl
 | 4, _ => rfl
theorem wpList_append_tr {ops : Array Oper} {rest : List Oper} {o : Oper} {a : Act} {Q' : Exit → Act → World → Prop} (w : World) (B : Nat) (hgd : o.guard = none) (sl x : Operand) (ho : o.op = .call { callee := .builtin .append, args := #[sl, x], argTypes := #[43, 43] }) (v : Value) (n : Nat) (Q : Nat → Tr) (hs : a.eval sl = v) (t : Tr) (b : Nat) (hx : a.eval x = .slice (some ⟨b, 0, none⟩) 1 1)
 (hcs : w.heap[b]? = some (.cells (trC t).toArray 49 (0, 0))) (F : w.ownsRow B 49 5 v n ((List.range (n * 5)).map (trv Q))) (hB : B ≤ w.heap.size) (hn : n + 1 ≤ 1000000)
 (h : ∀ v' w', w'.ownsRow B 49 5 v' (n + 1) ((List.range ((n + 1) * 5)).map (trv (addR Q n t))) → w.grownBy w' v.ownBlock → wpList Tryz.prog ops Q' rest (a.put o.dst v') w') : wpList Tryz.prog ops Q' (o :: rest) a w := by
 refine wpList_append_at w B hgd sl x 43 ho 49 _ 5 _ Tryz.underlying43 pz49 rfl (by decide) (by decide) v n (trv Q) hs b _ (0, 0) hx hcs rfl ?_ (trv (addR Q n t)) (fun j hj => tr_keep Q n t j hj) (fun j hj => tr_new Q n t j hj) F hB hn fun v' w' h1 h2 _ => h v' w' h1 h2
 intro u hu;simp [trC] at hu;rcases hu with rfl | rfl | rfl | rfl | rfl <;> rfl
theorem TrSt.app {w wr w7 : World} {c : Cf} {p B n : Nat} {tk : Int} {v v7 : Value} {Q : Nat → Tr} {tr : Tr} (S : TrSt w wr c p B tk v n Q) (hB : B ≤ w.heap.size) (o : Obj) (hg : (wr.alloc o).grownBy w7 v.ownBlock) (h7 : w7.ownsRow w.heap.size 49 5 v7 (n + 1) ((List.range ((n + 1) * 5)).map (trv (addR Q n tr))))
 (hd : OwnU wr w.heap.size (.slice tr.pa tr.pn tr.pc) tr.by') (hb : TrB tk c.tn tr) : TrSt w w7 c p B tk v7 (n + 1) (addR Q n tr) := by
 have hr : ∀ g, v.ownBlock = some g → w.heap.size ≤ g := fun g hg => (S.l.lt g hg).1
 have hla := S.l.alloc o
 have keep : ∀ {r : Tr}, OwnU wr w.heap.size (.slice r.pa r.pn r.pc) r.by' → OwnU w7 w.heap.size (.slice r.pa r.pn r.pc) r.by' := fun {r} h => by
  have ha : (wr.alloc o).ownsRow w.heap.size 5 1 (.slice r.pa r.pn r.pc) r.by'.length ((List.range r.by'.length).map (u8v r.by')) := World.ownsRow.alloc h o;exact own_kept ha fun g hg' => hg.block g (ha.lt g hg').2 (fun e => own_apart ha hla (by decide) hg' e.symm)
 refine ⟨h7, fun k hk => ?_, fun k hk => ?_, (S.D.alloc o).grew hg fun g h => by have := hr g h; omega, only_grew (only_alloc S.O o) hg hr, (hg.block w.heap.size (bx_lt (bx_keep o S.Z)) (fun e => own_ne hla (bx_keep o S.Z) (by decide) e.symm rfl)).trans (bx_keep o S.Z)⟩
 · by_cases e : k = n
   · subst e; rw [addR_at]; exact keep hd
   · rw [addR_ne e]; exact keep (S.d k (by omega))
 · by_cases e : k = n
   · subst e; rw [addR_at]; exact hb
   · rw [addR_ne e]; exact S.b k (by omega)
set_option maxRecDepth 100000 in
set_option maxHeartbeats 16000000 in
theorem traffic14 (c : Cf) (X : Nat → Ch.Fd) (T : Nat → Te) (many i0 : Nat) (tk : Int) (p B C : Nat) (w : World) (K : CfRw w C c X T) (hC : p < C) (HB : CfB c X T i0) (hi0 : 1 ≤ i0 ∧ i0 ≤ 3) (hm : many ≤ 20) (htk : 1 ≤ tk ∧ tk ≤ 100) (D : DiceS w p B) :
 Calls Tryz.prog 14 #[.pointer (some ⟨p, 0, none⟩), cfv c, .int .i64 many, .int .i64 tk] w fun e w' => ∃ v Q, e = .returned v ∧ w'.ownsRow w.heap.size 49 5 v many ((List.range (many * 5)).map (trv Q)) ∧ (∀ k, k < many → OwnU w' w.heap.size (.slice (Q k).pa (Q k).pn (Q k).pc) (Q k).by') ∧ (∀ k, k < many → TrB tk c.tn (Q k)) ∧ DiceS w' p B ∧ OnlyP w w' p := by
 have hp := D.lt;have hB := D.le;have hpw : p < w.heap.size := by omega
 have hzp : w.heap.size ≠ p := by omega
 have htn : 1 ≤ c.tn ∧ c.tn ≤ 3 := by have := HB.tn; omega
 have HK := hid K;have HBT := hid HB.t;have S0 := hid (show TrSt w (w.alloc (.cells (cfs c).toArray 37)) c p B tk (.slice none 0 0) 0 (fun _ => ⟨0, 0, 0, 0, none, 0, 0, []⟩) from ⟨own_nilK _ _ _ _ _, fun k hk => absurd hk (Nat.not_lt_zero k), fun k hk => absurd hk (Nat.not_lt_zero k), D.alloc _, only_alloc (only_refl w p) _, bx_new w _ 37⟩);have hcv : cfv c = .agg (cfs c).toArray := rfl;clear D K HB;rw [hcv];clear hcv;go_enter Tryz.func14, Tryz.ntmps14;go_upto_region 3 with fail
 generalize w.alloc _ = w1 at *
 go_loopw [9, 10, 11] (fun l i s11 wr => ∃ (n : Nat) (lv : Value) (Q : Nat → Tr), lv = l ∧ i = .int .i64 n ∧ n ≤ many ∧ TrSt w wr c p B tk lv n Q) (fun _ i _ _ => 100 - (intOf i).toNat)
 case atStart => exact ⟨0, _, _, rfl, rfl, Nat.zero_le _, S0.out⟩
 case round =>
  clear S0;obtain ⟨n, lv, Q, rfl, rfl, hn, hS⟩ := hrel;have HS := hid hS;have HLT := hid (fun (g : Nat) (hg : lv.ownBlock = some g) => (hS.l.lt g hg).2);have HLD := hid (fun (k : Nat) (hk : k < n) (g : Nat) (hg : (Value.slice (Q k).pa (Q k).pn (Q k).pc).ownBlock = some g) => ((hS.d k hk).lt g hg).2);clear hS;have hzl := bx_lt HS.out.Z;by_cases hlt : n < many
  · have hpw3 : p < wr.heap.size := by omega
    go_upto_region 5 with fail
    refine wp_region_peelJ 0 12 (fun u u' => OnlyP u u' p) (fun i v u => match i with
     | 0 => v = .pointer (some ⟨p, 0, none⟩)
     | 1 => v = .int .i64 tk
     | 2 => ∃ x : Int, v = .int .i64 x ∧ 0 ≤ x ∧ x < tk
     | 3 => v = .pointer (some ⟨p, 0, none⟩)
     | 4 => v = .pointer (some ⟨w.heap.size, 19, none⟩)
     | 5 => v = .slice c.ta c.tn c.tc
     | 6 => v = .int .i64 c.tn
     | 7 => ∃ x : Int, v = .int .i64 x ∧ 0 ≤ x ∧ x < c.tn
     | 8 => v = .pointer (some ⟨p, 0, none⟩)
     | 9 => ∃ x : Int, v = .int .i64 x ∧ 0 ≤ x ∧ x < 2
     | 10 => ∃ x y z : Int, v = .agg #[.int .i64 x, .int .i64 y, .int .i64 0, .int .i64 z, .slice none 0 0] ∧ (0 ≤ x ∧ x < tk ∧ 0 ≤ y ∧ y < c.tn ∧ 0 ≤ z ∧ z < 2)
     | 11 => ∃ q : Nat, v = .pointer (some ⟨q, 0, none⟩) ∧ wr.heap.size ≤ q ∧ u.heap[q]? = some (.cells #[.int .i64 0, .int .i64 0, .int .i64 0, .int .i64 0, .slice none 0 0] 49 (0, 0))
     | _ => True) (fun _ _ u => DiceS u p B) (by kernel_rfl) (by kernel_rfl) rfl (fun _ _ d _ _ h => by cases d <;> exact h) (only_drewN (only_refl _ _) 1) (fun _ _ _ h1 h2 => only_trans h1 h2) (fun _ _ _ _ _ _ _ h => h) (HS.out.D.drewN 1) ?_ ?_ ?_
    · intro i v w1 w2 hb h
      match i with
      | 0 => exact h
      | 1 => exact h
      | 2 => exact h
      | 3 => exact h
      | 4 => exact h
      | 5 => exact h
      | 6 => exact h
      | 7 => exact h
      | 8 => exact h
      | 9 => exact h
      | 10 => exact h
      | 11 =>
        obtain ⟨q, e1, e2, e3⟩ := h;exact ⟨q, e1, e2, only_box hb (by omega) e3⟩
      | k + 12 => exact h
    · intro i o hp hi ho L vf u1 hun hw hb hj hd;have hi' : i = 0 ∨ i = 1 ∨ i = 2 ∨ i = 3 ∨ i = 4 ∨ i = 5 ∨ i = 6 ∨ i = 7 ∨ i = 8 ∨ i = 9 ∨ i = 10 ∨ i = 11 := by omega
      rcases hi' with rfl | rfl | rfl | rfl | rfl | rfl | rfl | rfl | rfl | rfl | rfl | rfl
      all_goals obtain rfl := oI ho
      all_goals simp only [fillA, fA, fB, fC, fD, fH, Nat.reduceAdd]
      · have HJ := hid hj;clear hd hw hj;go_wp2;exact ⟨rfl, only_refl _ _, rfl, HJ.out⟩
      · have HJ := hid hj;clear hd hw hj;go_wp2;exact ⟨rfl, only_refl _ _, rfl, HJ.out⟩
      · have f0 := hd 0 (by omega) (by omega) (hw 0 (by kernel_rfl));have f1 := hd 1 (by omega) (by omega) (hw 1 (by kernel_rfl));have HJ := hid hj;clear hd hw hj;simp only [Act.put, fE, fF, fG];generalize vf 0 = vv at *;subst f0;generalize vf 1 = vm at *;subst f1;go_wp2_with (go_at_call 12; refine (next12 (by omega) (by omega) HJ.out).mono ?_; rintro e w3 ⟨x, rfl, h0, h1, hd, ho⟩);exact ⟨rfl, ho, ⟨x, rfl, h0, h1⟩, hd⟩
      · have HJ := hid hj;clear hd hw hj;go_wp2;exact ⟨rfl, only_refl _ _, rfl, HJ.out⟩
      · have HJ := hid hj;clear hd hw hj;go_wp2;exact ⟨rfl, only_refl _ _, rfl, HJ.out⟩
      · have f4 := hd 4 (by omega) (by omega) (hw 4 (by kernel_rfl));have hcc := bx_cell (only_box hb hzp HS.out.Z) 19 (v := .slice c.ta c.tn c.tc) rfl;have HJ := hid hj;clear hd hw hj;simp only [Act.put, fE, fF, fG];generalize vf 4 = vv at *;subst f4;go_wp2;exact ⟨rfl, only_refl _ _, rfl, HJ.out⟩
      · have f5 := hd 5 (by omega) (by omega) (hw 5 (by kernel_rfl));have HJ := hid hj;clear hd hw hj;simp only [Act.put, fE, fF, fG];generalize vf 5 = vv at *;subst f5;go_wp2;exact ⟨rfl, only_refl _ _, rfl, HJ.out⟩
      · have f3 := hd 3 (by omega) (by omega) (hw 3 (by kernel_rfl));have f6 := hd 6 (by omega) (by omega) (hw 6 (by kernel_rfl));have HJ := hid hj;clear hd hw hj;simp only [Act.put, fE, fF, fG];generalize vf 3 = vv at *;subst f3;generalize vf 6 = vm at *;subst f6;go_wp2_with (go_at_call 12; refine (next12 (by omega) (by omega) HJ.out).mono ?_; rintro e w3 ⟨x, rfl, h0, h1, hd, ho⟩);exact ⟨rfl, ho, ⟨x, rfl, h0, h1⟩, hd⟩
      · have HJ := hid hj;clear hd hw hj;go_wp2;exact ⟨rfl, only_refl _ _, rfl, HJ.out⟩
      · have f8 := hd 8 (by omega) (by omega) (hw 8 (by kernel_rfl));have HJ := hid hj;clear hd hw hj;simp only [Act.put, fE, fF, fG];generalize vf 8 = vv at *;subst f8;go_wp2_with (go_at_call 12; refine (next12 (by omega) (by omega) HJ.out).mono ?_; rintro e w3 ⟨x, rfl, h0, h1, hd, ho⟩);exact ⟨rfl, ho, ⟨x, rfl, h0, h1⟩, hd⟩
      · obtain ⟨x, f2, x0, x1⟩ := hd 2 (by omega) (by omega) (hw 2 (by kernel_rfl));obtain ⟨y, f7, y0, y1⟩ := hd 7 (by omega) (by omega) (hw 7 (by kernel_rfl));obtain ⟨z, f9, z0, z1⟩ := hd 9 (by omega) (by omega) (hw 9 (by kernel_rfl));have HJ := hid hj;clear hd hw hj;simp only [Act.put, fE, fF, fG];generalize vf 2 = v2 at *;subst f2;generalize vf 7 = v7 at *;subst f7;generalize vf 9 = v9 at *;subst f9;go_wp2;exact ⟨rfl, only_refl _ _, ⟨x, y, z, rfl, x0, x1, y0, y1, z0, z1⟩, HJ.out⟩
      · have hsz := hb.size;have HJ := hid hj;clear hd hw hj;go_wp2;exact ⟨rfl, only_alloc (only_refl _ _) _, ⟨_, rfl, hsz, bx_new u1 _ 49⟩, HJ.out.alloc _⟩
    intro vf u1 hb hj hd;obtain ⟨x, y, s0, f10, hxy⟩ := hd 10 (by omega) (by omega);obtain ⟨q, f11, hq, hbox⟩ := hd 11 (by omega) (by omega);replace HS := hid (HS.out.next hpw hb hj);have HX := hid hbox;have HV := hid (fun (g : Nat) (hg : lv.ownBlock = some g) => (show g ≠ q from by have := HLT.out g hg; omega));have HVd := hid (fun (k : Nat) (hk : k < n) (g : Nat) (hg : (Value.slice (Q k).pa (Q k).pn (Q k).pc).ownBlock = some g) => (show g ≠ q from by have := HLD.out k hk g hg; omega));clear hd hb hj hbox;simp only [fillA, fA, fB, fC, fD, fH, Nat.reduceAdd];simp only [Act.put, fE, fF, fG];generalize vf 10 = v10 at *;subst f10;generalize vf 11 = v11 at *;subst f11;go_upto_region 6 with (refine wpList_store_mid rfl 49 (.tmp 11) (.tmp 27) rfl q 0 #[.int .i64 x, .int .i64 y, .int .i64 0, .int .i64 s0, .slice none 0 0] rfl rfl (bx_there_at HX.out 0 5 (Nat.le_refl 5)) (by kernel_rfl) (by kernel_rfl) ?_)
    try simp only [Act.put]
    have hwq : w.heap.size < q := by omega
    have hs := bx_cells_same [.int .i64 x, .int .i64 y, .int .i64 0, .int .i64 s0, .slice none 0 0] 0 HX.out;rw [setFrom_all (vs := [.int .i64 x, .int .i64 y, .int .i64 0, .int .i64 s0, .slice none 0 0]) (cs := #[.int .i64 0, .int .i64 0, .int .i64 0, .int .i64 0, .slice none 0 0]) rfl] at hs;replace HX := hid hs;replace HS := hid (HS.out.sets hB hwq HV.out HVd.out 0 [.int .i64 x, .int .i64 y, .int .i64 0, .int .i64 s0, .slice none 0 0]);clear hs;generalize u1.setCells _ _ _ = w6 at *;obtain ⟨y, rfl⟩ : ∃ y' : Nat, y = y' := ⟨y.toNat, by omega⟩
    obtain ⟨g0, hta, hg0, hcs⟩ := (HK.out.only HS.out.O hC).rows (q := y) (by omega);have c19 : w6.cell? ⟨w.heap.size, 19, none⟩ = some (.slice (some ⟨g0, 0, none⟩) c.tn c.tc) := by rw [← hta]; exact bx_cell HS.out.Z 19 rfl
    have cq1 := bx_cell HX.out 1 (v := .int .i64 y) rfl;have cT : w6.cell? ⟨g0, y * 14 + 2, none⟩ = some (.slice (T y).ba (T y).bn (T y).bc) := hcs 2 (by omega);have hbn := (HBT.out y (by omega)).n;clear hcs hta;go_wp2_with (go_at_call 12; refine (next12 (by omega) (by omega) HS.out.D).mono ?_; rintro e w7 ⟨v6, rfl, l6, u6, hd, ho⟩; refine Hid.out ?_);refine hid ?_
    replace HS := hid (HS.out.next hpw ho hd);have hqp : q ≠ p := by omega
    replace HX := hid (only_box ho hqp HX.out);clear ho hd c19 cq1 cT;have cq2 := bx_cell HX.out 2 (v := .int .i64 0) rfl;have fq2 := bx_fr HX.out 2;go_upto_region 7 with fail
    clear cq2 fq2;replace HS := hid (show TrSt w (w7.setCell ⟨q, 2, none⟩ (.int .i64 v6)) c p B tk lv n Q from HS.out.sets hB hwq HV.out HVd.out 2 [.int .i64 v6]);replace HX := hid (show (w7.setCell ⟨q, 2, none⟩ (.int .i64 v6)).heap[q]? = some (.cells #[.int .i64 x, .int .i64 y, .int .i64 v6, .int .i64 s0, .slice none 0 0] 49 (0, 0)) from bx_set_same (k := 2) HX.out (.int .i64 v6));generalize w7.setCell _ _ = w8 at *;go_wp2_with (go_at_call 25; refine (packet25 n p B (by omega) w8 HS.out.D).mono ?_; rintro e w9 ⟨vp, np, rfl, n1, n2, hv, hd, ho⟩; refine Hid.out ?_);refine hid ?_
    have hw8 : w.heap.size ≤ w8.heap.size := HS.out.O.size;have hql8 := bx_lt HX.out;replace HS := hid (HS.out.next hpw ho hd);replace HX := hid (only_box ho hqp HX.out);obtain ⟨pa, pc, rfl, -, -⟩ := hv.slice;have hpq : ∀ g, (Value.slice pa np pc).ownBlock = some g → g ≠ q := fun g hg => by have := (hv.lt g hg).1; omega
    obtain ⟨bl, hbl, hbo⟩ := byr_ownU (hv.base hw8);have HPQ := hid hpq;have HBO := hid hbo;have HBL := hid hbl;clear ho hd hv hpq hbo hbl;have cq4 := bx_cell HX.out 4 (v := .slice none 0 0) rfl;have fq4 := bx_fr HX.out 4;go_upto_region 8 with fail
    clear cq4 fq4;replace HBO := hid (show OwnU (w9.setCell ⟨q, 4, none⟩ (.slice pa np pc)) w.heap.size (.slice pa np pc) bl from own_kept HBO.out fun g hg => Below.heap_setCell _ _ _ _ (HPQ.out g hg));replace HS := hid (show TrSt w (w9.setCell ⟨q, 4, none⟩ (.slice pa np pc)) c p B tk lv n Q from HS.out.sets hB hwq HV.out HVd.out 4 [.slice pa np pc]);replace HX := hid (show (w9.setCell ⟨q, 4, none⟩ (.slice pa np pc)).heap[q]? = some (.cells #[.int .i64 x, .int .i64 y, .int .i64 v6, .int .i64 s0, .slice pa np pc] 49 (0, 0)) from bx_set_same (k := 4) HX.out (.slice pa np pc));generalize w9.setCell _ _ = w10 at *;obtain ⟨tr, htr⟩ : ∃ tr : Tr, tr = ⟨x, y, v6, s0, pa, np, pc, bl⟩ := ⟨_, rfl⟩
    have HTR := hid (show TrB tk c.tn tr from by
     have := HBL.out;subst htr;refine ⟨?_, ?_, ?_, ?_, ?_, ?_, ?_, ?_, ?_, ?_⟩ <;> dsimp only <;> omega)
    have HBO2 := hid (show OwnU w10 w.heap.size (.slice tr.pa tr.pn tr.pc) tr.by' from by subst htr; exact HBO.out);have HTC := hid (show trC tr = [.int .i64 x, .int .i64 y, .int .i64 v6, .int .i64 s0, .slice pa np pc] from by subst htr; rfl);have HRG := hid (bx_range HX.out (l := [.int .i64 x, .int .i64 y, .int .i64 v6, .int .i64 s0, .slice pa np pc]) rfl);clear htr HBO HBL HPQ;go_wp2_with (first | (refine wpList_load_mid rfl 49 (.tmp 11) rfl q 0 rfl [.int .i64 x, .int .i64 y, .int .i64 v6, .int .i64 s0, .slice pa np pc] _ HRG.out Tryz.underlying49 rfl (by kernel_rfl) ?_) | (at_builtin; refine wpList_append_tr _ w.heap.size rfl (.tmp 43) (.tmp 45) rfl lv n Q rfl tr w10.heap.size rfl (by rw [HTC.out]; exact bx_new w10 _ 49) (own_alloc' HS.out.l _) (by have := HS.out.O.size; simp; omega) (by omega) ?_; intro v' w11 h11 hg11; have HS11 := hid (HS.out.app hB _ hg11 h11 HBO2.out HTR.out)));go_roundw
    case rel => exact ⟨n + 1, _, _, rfl, by go_num, by omega, HS11.out⟩
    case measure => simp [intOf]; omega
  · obtain rfl : n = many := by omega
    go_wp2;go_ret
    exact ⟨_, Q, rfl, HS.out.l, HS.out.d, HS.out.b, HS.out.D, HS.out.O⟩
end
section
open Go.RowKit Go.Sort
open Go.Lib (itoa)
open Tm
theorem trR_of {w : World} {B n : Nat} {v : Value} {Q : Nat → Tr} (hl : w.ownsRow B 49 5 v n ((List.range (n * 5)).map (trv Q))) (hd : ∀ k, k < n → OwnU w B (.slice (Q k).pa (Q k).pn (Q k).pc) (Q k).by') : ∃ a cc, v = .slice a n cc ∧ n ≤ cc ∧ n ≤ maxLen ∧ TrR w a n Q := by
 obtain ⟨a, cc, b, e, hc, hp, hcell⟩ := own_cellsK hl;obtain ⟨a', cc', e', h1, h2, -⟩ := own_slice hl;rw [e] at e';injection e' with q1 q2 q3
 refine ⟨a, cc, e, hc, by omega, b, 0, fun h => (hp h).1, fun k hk => ?_⟩
 have g : ∀ i, i < 5 → w.cell? ⟨b, 0 + k * 5 + i, none⟩ = some ((trC (Q k)).getD i undef) := fun i hi => by
  rw [Nat.zero_add, ← trv_at Q k i hi];exact hcell _ (by omega)
 have hd := (hd k hk).byAt;exact ⟨g 0 (by omega), g 1 (by omega), g 2 (by omega), g 3 (by omega), g 4 (by omega), hd.1, hd.2.1, hd.2.2⟩
theorem sm_of {n : Int} (h : -1000000 ≤ n ∧ n ≤ 1000000) : smallI n := ⟨by omega, by omega⟩
theorem sml_of {l : List Int} (h : ∀ n ∈ l, -1000000 ≤ n ∧ n ≤ 1000000) : SmL l := fun n hn => sm_of (h n hn)
theorem docN_net {c : Cf} {X : Nat → Ch.Fd} {T : Nat → Te} {i n : Nat} {Q : Nat → Tr} {tk : Int} (H : CfB c X T i) (hi : i ≤ 3) (htk : tk ≤ 100) (HQ : ∀ k, k < n → TrB tk c.tn (Q k)) : DocN (docOf c X T n Q) := by
 have h := H.h;have hm := h.b1;have ht := H.tn;refine ⟨?_, ?_, ?_, ?_, fun l hl => ?_, fun x hx => ?_, fun x hx => ?_⟩
 · refine sml_of fun n hn => ?_
   have := h.b0; have := h.b2; have := h.b3; have := h.b4; have := h.b5; have := h.b6; have := h.b7; have := h.b8
   simp only [docOf, List.mem_cons, List.not_mem_nil, or_false] at hn;rcases hn with rfl | rfl | rfl | rfl | rfl | rfl | rfl | rfl | rfl <;> omega
 · refine sml_of fun n hn => ?_
   have := h.b9; have := h.b10; have := h.b11
   simp only [docOf, List.mem_cons, List.not_mem_nil, or_false] at hn;rcases hn with rfl | rfl | rfl <;> omega
 · refine sml_of fun n hn => ?_
   have := h.b12; have := h.b13; have := h.b14
   simp only [docOf, List.mem_cons, List.not_mem_nil, or_false] at hn;rcases hn with rfl | rfl | rfl <;> omega
 · refine sml_of fun n hn => ?_
   have := h.b16; have := h.b17
   simp only [docOf, List.mem_cons, List.not_mem_nil, or_false] at hn;rcases hn with rfl | rfl <;> omega
 · obtain ⟨k, hk, rfl⟩ := List.mem_map.1 hl;have hk := List.mem_range.1 hk;obtain ⟨f1, f2, f3, f4, f5, f6, f7, f8, f9, f10⟩ := H.f k hk;refine sml_of fun n hn => ?_
   simp only [fdL, List.mem_cons, List.not_mem_nil, or_false] at hn;rcases hn with rfl | rfl | rfl | rfl | rfl <;> omega
 · obtain ⟨k, hk, rfl⟩ := List.mem_map.1 hx;have hk := List.mem_range.1 hk;have HT := H.t k hk;refine ⟨sml_of fun n hn => ?_, fun l hl => ?_⟩
   · have := HT.cl; have := HT.cs; have := HT.bt; have := HT.fr; have := HT.wd; have := HT.bk; have := HT.ry; have := HT.z
     simp only [teS, teL', List.mem_cons, List.not_mem_nil, or_false] at hn;rcases hn with rfl | rfl | rfl | rfl | rfl | rfl | rfl | rfl | rfl | rfl | rfl | rfl <;> omega
   · obtain ⟨j, hj, rfl⟩ := List.mem_map.1 hl;have hj := List.mem_range.1 hj;obtain ⟨mo, hmo, S⟩ := HT.bb.b j hj;obtain ⟨k1, k2, k3, k4⟩ := HT.bb.k j hj;have := S.mo; have := S.co; have := S.wi; have := S.bi; have := S.wa; have := S.b; have := S.e; have := S.p; have := S.v; have := S.q; have := S.t
     refine sml_of fun n hn => ?_
     simp only [beL, List.mem_cons, List.not_mem_nil, or_false] at hn;rcases hn with rfl | rfl | rfl | rfl | rfl | rfl | rfl | rfl | rfl | rfl | rfl | rfl | rfl | rfl | rfl <;> omega
 · obtain ⟨k, hk, rfl⟩ := List.mem_map.1 hx;have hk := List.mem_range.1 hk;obtain ⟨q1, q2, q3, q4, q5, q6, q7, q8, q9, q10⟩ := HQ k hk;refine sml_of fun n hn => ?_
   simp only [trS, List.mem_cons, List.not_mem_nil, or_false] at hn;rcases hn with rfl | rfl | rfl | rfl <;> omega
theorem line_len {w : List UInt8} (hw : w.length ≤ 14) {ns : List Int} (h : SmL ns) : (lineS w ns).length ≤ 15 * (ns.length + 1) := by
 have := joinC_len 32 14 (w :: ns.map itoa) (fun a ha => by
  rcases List.mem_cons.1 ha with rfl | ha
  · exact hw
  · obtain ⟨n, hn, rfl⟩ := List.mem_map.1 ha;exact itoa_len (h n hn))
 unfold lineS;simpa using this
theorem szL_map {α : Type} (f : α → List UInt8) (m : Nat) : ∀ L : List α, (∀ x ∈ L, (f x).length ≤ m) → szL (L.map f) ≤ L.length * (m + 1)
 | [], _ => by simp [szL_nil]
 | x :: L, h => by
   have h1 := h x (by simp);have h2 := szL_map f m L fun y hy => h y (by simp [hy])
   rw [List.map_cons, szL_cons, List.length_cons, Nat.add_mul];omega
theorem szL_flat {α : Type} (f : α → List (List UInt8)) (m : Nat) : ∀ L : List α, (∀ x ∈ L, szL (f x) ≤ m) → szL (L.flatMap f) ≤ L.length * m
 | [], _ => by simp [szL_nil]
 | x :: L, h => by
   have h1 := h x (by simp);have h2 := szL_flat f m L fun y hy => h y (by simp [hy])
   rw [List.flatMap_cons, szL_append, List.length_cons, Nat.add_mul];omega
theorem size_doc {D : DocS} (F : DocF D) (N : DocN D) {a b e m : Nat} (hf : D.fades.length ≤ a) (ht : D.terms.length ≤ b) (hb : ∀ x ∈ D.terms, x.bs.length ≤ 2) (hp : D.pkts.length ≤ e) (hm : ∀ x ∈ D.pkts, x.2.length ≤ m) : szL (textS D) ≤ 400 + a * 91 + b * 700 + e * (77 + 2 * m) := by
 have w8 : wNetwork.length ≤ 14 ∧ wPatience.length ≤ 14 ∧ wRule.length ≤ 14 ∧ wOuter.length ≤ 14 ∧ wFade.length ≤ 14 ∧ wTerminal.length ≤ 14 ∧ wBearer.length ≤ 14 ∧ wPacket.length ≤ 14 := by decide
 obtain ⟨v1, v2, v3, v4, v5, v6, v7, v8⟩ := w8;have h0 := line_len v1 N.h0;have h1 := line_len v2 N.h1;have h2 := line_len v3 N.h2;have h3 := line_len v4 N.h3;rw [F.h0] at h0; rw [F.h1] at h1; rw [F.h2] at h2; rw [F.h3] at h3
 have hfs := szL_map (lineS wFade) 90 D.fades fun x hx => by
  have := line_len v5 (N.f x hx);rw [F.f x hx] at this;omega
 have hts := szL_flat termS 700 D.terms fun x hx => by
  have g1 := line_len v6 (N.t x hx).1;rw [(F.t x hx).1] at g1
  have g2 := szL_map (lineS wBearer) 240 x.bs fun l hl => by
   have := line_len v7 ((N.t x hx).2 l hl);rw [(F.t x hx).2 l hl] at this;omega
  have g3 := Nat.mul_le_mul_right 241 (hb x hx);show szL (lineS wTerminal x.ns :: x.bs.map (lineS wBearer)) ≤ 700
  rw [szL_cons];omega
 have hps := szL_map pktS (76 + 2 * m) D.pkts fun x hx => by
  have g1 := line_len v8 (N.p x hx);rw [(F.p x hx).1] at g1
  have g2 : (pktS x).length = (lineS wPacket x.1).length + (1 + (hexS x.2).length) := by
   show (lineS wPacket x.1 ++ 32 :: hexS x.2).length = _
   rw [List.length_append, List.length_cons];omega
  rw [hexS_len] at g2;have := hm x hx;omega
 rw [szL_text];have k1 := Nat.mul_le_mul_right 91 hf;have k2 := Nat.mul_le_mul_right 700 ht;have k3 := Nat.mul_le_mul_right (77 + 2 * m) hp;have k4 : 76 + 2 * m + 1 = 77 + 2 * m := by omega
 rw [k4] at hps;omega
end
section
open Go.RowKit Go.Sort
open Go.Lib (itoa)
open Tm
def Q0 : Nat → Tr := fun _ => ⟨0, 0, 0, 0, none, 0, 0, []⟩
structure NetM (c : Cf) (X : Nat → Ch.Fd) (T : Nat → Te) : Prop where
 d : DocN (docOf c X T 0 Q0)
 fn : c.fn ≤ 180
 tn : 1 ≤ c.tn ∧ c.tn ≤ 3
 bn : ∀ k, k < c.tn → (T k).bn ≤ 2
 h15 : c.h 15 = 0
 kb : ∀ k, k < c.tn → (T k).kn = (T k).bn
theorem netM_of {c : Cf} {X : Nat → Ch.Fd} {T : Nat → Te} {i : Nat} (H : CfB c X T i) (hi : 1 ≤ i ∧ i ≤ 3) : NetM c X T :=
 ⟨docN_net (n := 0) (tk := 0) H hi.2 (by decide) (fun k hk => absurd hk (Nat.not_lt_zero k)), by have := H.fn; omega, by have := H.tn; omega, fun k hk => by have := (H.t k hk).n; omega, H.h.b15, fun k hk => (H.t k hk).e⟩
theorem firstE_all {f : Nat → Int} : ∀ {n : Nat}, firstE f n = 0 → ∀ k, k < n → f k = 0
 | 0, _, k, hk => absurd hk (Nat.not_lt_zero k)
 | n + 1, h, k, hk => by
   have h1 : firstE f n = 0 := Classical.byContradiction fun hne => hne ((firstE_keep (Nat.le_succ n) hne).symm.trans h)
   by_cases hkn : k < n
   · exact firstE_all h1 k hkn
   · obtain rfl : k = n := by omega
     exact (if_pos h1 : firstE f (k + 1) = f k).symm.trans h
theorem pkt_right {c : Cf} {X : Nat → Ch.Fd} {T : Nat → Te} {n : Nat} {Q : Nat → Tr} (h : chkD (docOf c X T n Q) = 0) : ∀ k, k < n → SmL (trS (Q k)).1 ∧ (trS (Q k)).2 ≠ [] := fun k hk => by
 have e1 : (docOf c X T n Q).pkts.length = n := by show ((List.range n).map _).length = _; simp
 unfold chkD at h;split at h
 · rename_i hne
   exact absurd h hne
 · rw [e1] at h;unfold trafC at h;split at h
   · exact absurd h (by decide)
   · have g := firstE_all h k hk
     have e2 : (docOf c X T n Q).pkts.getD k ([], []) = trS (Q k) := by
      show ((List.range n).map fun k => trS (Q k)).getD k ([], []) = _
      rw [getD_map_range _ _ _ _ hk]
     simp only [e2] at g;unfold pktC at g;split at g
     · exact absurd g (by decide)
     · rename_i hl
       split at g
       · rename_i hb
         simp only [Ch.btw, decide_eq_true_eq] at hb;obtain ⟨b0, b1, b2, b3⟩ := hb;refine ⟨fun m hm => ?_, fun e => hl (.inl (by rw [e]; decide))⟩
         rcases List.mem_cons.1 (show m ∈ [(trS (Q k)).1.getD 0 0, (trS (Q k)).1.getD 1 0, (trS (Q k)).1.getD 2 0, (trS (Q k)).1.getD 3 0] from hm) with rfl | hm
         · exact ⟨by omega, by omega⟩
         rcases List.mem_cons.1 hm with rfl | hm
         · exact ⟨by omega, by omega⟩
         rcases List.mem_cons.1 hm with rfl | hm
         · exact ⟨by omega, by omega⟩
         rcases List.mem_cons.1 hm with rfl | hm
         · exact ⟨by omega, by omega⟩
         · cases hm
       · exact absurd g (by decide)
theorem docN_chk {c : Cf} {X : Nat → Ch.Fd} {T : Nat → Te} (M : NetM c X T) {n : Nat} {Q : Nat → Tr} (h : chkD (docOf c X T n Q) = 0) : DocN (docOf c X T n Q) :=
 ⟨M.d.h0, M.d.h1, M.d.h2, M.d.h3, M.d.f, M.d.t, fun x hx => by
  obtain ⟨k, hk, rfl⟩ := List.mem_map.1 hx;exact (pkt_right h k (List.mem_range.1 hk)).1⟩
theorem docF_all {c : Cf} {X : Nat → Ch.Fd} {T : Nat → Te} {n : Nat} {Q : Nat → Tr} (h : ∀ k, k < n → (Q k).by' ≠ []) : DocF (docOf c X T n Q) := by
 refine ⟨rfl, rfl, rfl, rfl, fun l hl => ?_, fun x hx => ?_, fun x hx => ?_⟩
 · obtain ⟨k, -, rfl⟩ := List.mem_map.1 hl
   rfl
 · obtain ⟨k, -, rfl⟩ := List.mem_map.1 hx;refine ⟨rfl, fun l hl => ?_⟩
   obtain ⟨j, -, rfl⟩ := List.mem_map.1 hl
   rfl
 · obtain ⟨k, hk, rfl⟩ := List.mem_map.1 hx;exact ⟨rfl, h k (List.mem_range.1 hk)⟩
def TrI (q : Tr) : Prop := I64 q.a ∧ I64 q.t ∧ I64 q.b ∧ I64 q.d ∧ q.by'.length ≤ 1600
theorem TrB.toI {tk tn : Int} {q : Tr} (h : TrB tk tn q) (h1 : tk ≤ 100) (h2 : tn ≤ 3) : TrI q := by
 obtain ⟨q1, q2, q3, q4, q5, q6, q7, q8, q9, q10⟩ := h;exact ⟨⟨by omega, by omega⟩, ⟨by omega, by omega⟩, ⟨by omega, by omega⟩, ⟨by omega, by omega⟩, by omega⟩
theorem size_pk {c : Cf} {X : Nat → Ch.Fd} {T : Nat → Te} (M : NetM c X T) {n : Nat} {Q : Nat → Tr} (hn : n ≤ 40) (H : ∀ k, k < n → TrI (Q k)) : (catL (textS (docOf c X T n Q))).length ≤ 200000 := by
 have h0 := size_doc (a := 180) (b := 3) (e := 0) (m := 0) (docF_all (c := c) (X := X) (T := T) (n := 0) (Q := Q0) (fun k hk => absurd hk (Nat.not_lt_zero k))) M.d (by show ((List.range c.fn).map _).length ≤ 180; simp; exact M.fn) (by show ((List.range c.tn).map _).length ≤ 3; simp; exact M.tn.2) (fun x hx => by
  obtain ⟨k, hk, rfl⟩ := List.mem_map.1 hx;have := M.bn k (List.mem_range.1 hk);show ((List.range (T k).bn).map _).length ≤ 2
  simp;exact this) (by show ([] : List (List Int × List UInt8)).length ≤ 0; simp) (fun x hx => by cases hx)
 have hps := szL_map pktS 3400 (docOf c X T n Q).pkts fun x hx => by
  obtain ⟨k, hk, rfl⟩ := List.mem_map.1 hx;obtain ⟨i1, i2, i3, i4, i5⟩ := H k (List.mem_range.1 hk)
  have g1 := lineS_len (word := wPacket) (by decide) (ns := (trS (Q k)).1) (fun j hj => by
   have hj : j < 4 := hj
   match j, hj with
   | 0, _ => exact i1
   | 1, _ => exact i2
   | 2, _ => exact i3
   | 3, _ => exact i4)
  have g2 : (pktS (trS (Q k))).length = (lineS wPacket (trS (Q k)).1).length + (1 + (hexS (trS (Q k)).2).length) := by
   show (lineS wPacket (trS (Q k)).1 ++ 32 :: hexS (trS (Q k)).2).length = _
   rw [List.length_append, List.length_cons];omega
  rw [hexS_len] at g2;have i5 : (trS (Q k)).2.length ≤ 1600 := i5;have g3 : (trS (Q k)).1.length = 4 := rfl;rw [g3] at g1;omega
 have e1 : (docOf c X T n Q).pkts.length = n := by show ((List.range n).map _).length = _; simp
 rw [e1] at hps;have h3 := Nat.mul_le_mul_right (3400 + 1) hn;have t1 := szL_text (docOf c X T n Q);have t0 := szL_text (docOf c X T 0 Q0);have e2 : szL ((docOf c X T 0 Q0).pkts.map pktS) = 0 := rfl;rw [e2] at t0;have t0' : szL (textS (docOf c X T 0 Q0)) = (lineS wNetwork (docOf c X T n Q).h0).length + 1 + ((lineS wPatience (docOf c X T n Q).h1).length + 1) + ((lineS wRule (docOf c X T n Q).h2).length + 1) + ((lineS wOuter (docOf c X T n Q).h3).length + 1) + szL ((docOf c X T n Q).fades.map (lineS wFade)) + szL ((docOf c X T n Q).terms.flatMap termS) + 0 := t0;show szL _ ≤ _
 rw [t1];omega
def TrW (u : World) (B : Nat) (v : Value) (m : Nat) (tk tn : Int) (Q : Nat → Tr) : Prop := u.ownsRow B 49 5 v m ((List.range (m * 5)).map (trv Q)) ∧ (∀ k, k < m → OwnU u B (.slice (Q k).pa (Q k).pn (Q k).pc) (Q k).by') ∧ ∀ k, k < m → TrB tk tn (Q k)
theorem TrW.only {u u' : World} {B p : Nat} {v : Value} {m : Nat} {tk tn : Int} {Q : Nat → Tr} (h : TrW u B v m tk tn Q) (ho : OnlyP u u' p) (hp : p < B) : TrW u' B v m tk tn Q := ⟨own_only' h.1 ho hp, fun k hk => own_only' (h.2.1 k hk) ho hp, h.2.2⟩
end
end Go.Proofs.YtgflfdnajchjaaaGreatDoor
