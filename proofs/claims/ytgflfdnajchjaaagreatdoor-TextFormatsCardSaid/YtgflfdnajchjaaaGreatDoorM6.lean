/- Layer 45: packets that enter a network, by dice. -/
import Derived.Test.YtgflfdnajchjaaaGreatDoorM4c
import Derived.Test.YtgflfdnajchjaaaGreatDoorMB3
namespace Go.Proofs.YtgflfdnajchjaaaGreatDoor
set_option linter.unusedVariables false
set_option linter.unusedSimpArgs false
open Go.RowKit Go.Sort
open Tm
attribute [local go_sem] gcell
theorem byr_ownU {w : World} {B n : Nat} {v : Value} (h : ByR w B v n) : ∃ l : List UInt8, l.length = n ∧ OwnU w B v l := by
  obtain ⟨l, hl, h⟩ := h
  refine ⟨l, hl, ?_⟩
  unfold OwnU
  have e : (List.range l.length).map (u8v l) = Lib.byteCells l := by
    unfold Lib.byteCells u8v
    refine List.ext_getElem? fun k => ?_
    rw [List.getElem?_map, List.getElem?_map]
    by_cases hk : k < l.length
    · rw [List.getElem?_range hk, List.getElem?_eq_getElem hk]
      simp [List.getD_eq_getElem?_getD, List.getElem?_eq_getElem hk]
    · rw [List.getElem?_eq_none (by simp; omega), List.getElem?_eq_none (by omega)]
      rfl
  rw [e, hl]
  exact h
/-- A packet's numbers. -/
def TrB (tk tn : Int) (q : Tr) : Prop := 0 ≤ q.a ∧ q.a < tk ∧ 0 ≤ q.t ∧ q.t < tn ∧ 0 ≤ q.b ∧ q.b ≤ 1 ∧ 0 ≤ q.d ∧ q.d < 2 ∧ 1 ≤ q.by'.length ∧ q.by'.length ≤ 1040
structure TrSt (w wr : World) (c : Cf) (p B : Nat) (tk : Int) (v : Value) (n : Nat) (Q : Nat → Tr) : Prop where
  l : wr.ownsRow w.heap.size 49 5 v n ((List.range (n * 5)).map (trv Q))
  d : ∀ k, k < n → OwnU wr w.heap.size (.slice (Q k).pa (Q k).pn (Q k).pc) (Q k).by'
  b : ∀ k, k < n → TrB tk c.tn (Q k)
  D : DiceS wr p B
  O : OnlyP w wr p
  Z : wr.heap[w.heap.size]? = some (.cells (cfs c).toArray 37 (0, 0))
theorem TrSt.next {w wr w' : World} {c : Cf} {p B n : Nat} {tk : Int} {v : Value} {Q : Nat → Tr} (S : TrSt w wr c p B tk v n Q) (hp : p < w.heap.size) (ho : OnlyP wr w' p) (hd : DiceS w' p B) : TrSt w w' c p B tk v n Q :=
  ⟨own_only' S.l ho hp, fun k hk => own_only' (S.d k hk) ho hp, S.b, hd, only_trans S.O ho, only_box ho (by omega) S.Z⟩
theorem TrSt.sets {w wr : World} {c : Cf} {p B n q : Nat} {tk : Int} {v : Value} {Q : Nat → Tr} (S : TrSt w wr c p B tk v n Q) (hB : B ≤ w.heap.size) (hq : w.heap.size < q) (hv : ∀ g, v.ownBlock = some g → g ≠ q) (hd : ∀ k, k < n → ∀ g, (Value.slice (Q k).pa (Q k).pn (Q k).pc).ownBlock = some g → g ≠ q) (o : Nat) (vs : List Value) : TrSt w (wr.setCells q o vs) c p B tk v n Q :=
  ⟨own_kept S.l fun g hg => bx_cells_other (hv g hg) vs o, fun k hk => own_kept (S.d k hk) fun g hg => bx_cells_other (hd k hk g hg) vs o, S.b, S.D.sets (by omega) o vs, only_sets S.O (by omega) o vs, (bx_cells_other (by omega) vs o).trans S.Z⟩
theorem CfRw.rows {w : World} {B q : Nat} {c : Cf} {X : Nat → Ch.Fd} {T : Nat → Te} (K : CfRw w B c X T) (h : q < c.tn) : ∃ g, c.ta = some ⟨g, 0, none⟩ ∧ B ≤ g ∧ ∀ j, j < 14 → w.cell? ⟨g, q * 14 + j, none⟩ = some (tcell (T q) j) := by
  obtain ⟨a, cc, b, e, hc, hp, hcell⟩ := own_cellsK K.t
  injection e with e1 e2 e3
  obtain ⟨hb, h1, -, -⟩ := hp (by omega)
  refine ⟨b, e1.trans hb, h1, fun j hj => ?_⟩
  have := hcell (q * 14 + j) (by omega)
  rw [tev_at T q j hj] at this
  exact this
theorem own_alloc' {w : World} {B e s n : Nat} {v : Value} {xs : List Value} (h : w.ownsRow B e s v n xs) (o : Obj) : (w.alloc o).ownsRow B e s v n xs := h.alloc o
theorem tr_keep (Q : Nat → Tr) (n : Nat) (t : Tr) (j : Nat) (hj : j < n * 5) : trv (addR Q n t) j = trv Q j := by
  unfold trv
  rw [addR_ne (show j / 5 ≠ n by omega)]
theorem tr_new (Q : Nat → Tr) (n : Nat) (t : Tr) (j : Nat) (hj : j < 5) : (trC t).toArray[j]? = some (trv (addR Q n t) (n * 5 + j)) := by
  rw [trv_at _ _ _ hj, addR_at]
  match j, hj with
  | 0, _ => rfl
  | 1, _ => rfl
  | 2, _ => rfl
  | 3, _ => rfl
  | 4, _ => rfl
theorem wpList_append_tr {ops : Array Oper} {rest : List Oper} {o : Oper} {a : Act} {Q' : Exit → Act → World → Prop} (w : World) (B : Nat) (hgd : o.guard = none) (sl x : Operand) (ho : o.op = .call { callee := .builtin .append, args := #[sl, x], argTypes := #[43, 43] }) (v : Value) (n : Nat) (Q : Nat → Tr) (hs : a.eval sl = v) (t : Tr) (b : Nat) (hx : a.eval x = .slice (some ⟨b, 0, none⟩) 1 1)
    (hcs : w.heap[b]? = some (.cells (trC t).toArray 49 (0, 0))) (F : w.ownsRow B 49 5 v n ((List.range (n * 5)).map (trv Q))) (hB : B ≤ w.heap.size) (hn : n + 1 ≤ 1000000)
    (h : ∀ v' w', w'.ownsRow B 49 5 v' (n + 1) ((List.range ((n + 1) * 5)).map (trv (addR Q n t))) → w.grownBy w' v.ownBlock → wpList Tryz.prog ops Q' rest (a.put o.dst v') w') : wpList Tryz.prog ops Q' (o :: rest) a w := by
  refine wpList_append_at w B hgd sl x 43 ho 49 _ 5 _ Tryz.underlying43 pz49 rfl (by decide) (by decide) v n (trv Q) hs b _ (0, 0) hx hcs rfl ?_ (trv (addR Q n t)) (fun j hj => tr_keep Q n t j hj) (fun j hj => tr_new Q n t j hj) F hB hn fun v' w' h1 h2 _ => h v' w' h1 h2
  intro u hu
  simp [trC] at hu
  rcases hu with rfl | rfl | rfl | rfl | rfl <;> rfl
theorem TrSt.app {w wr w7 : World} {c : Cf} {p B n : Nat} {tk : Int} {v v7 : Value} {Q : Nat → Tr} {tr : Tr} (S : TrSt w wr c p B tk v n Q) (hB : B ≤ w.heap.size) (o : Obj) (hg : (wr.alloc o).grownBy w7 v.ownBlock) (h7 : w7.ownsRow w.heap.size 49 5 v7 (n + 1) ((List.range ((n + 1) * 5)).map (trv (addR Q n tr))))
    (hd : OwnU wr w.heap.size (.slice tr.pa tr.pn tr.pc) tr.by') (hb : TrB tk c.tn tr) : TrSt w w7 c p B tk v7 (n + 1) (addR Q n tr) := by
  have hr : ∀ g, v.ownBlock = some g → w.heap.size ≤ g := fun g hg => (S.l.lt g hg).1
  have hla := S.l.alloc o
  have keep : ∀ {r : Tr}, OwnU wr w.heap.size (.slice r.pa r.pn r.pc) r.by' → OwnU w7 w.heap.size (.slice r.pa r.pn r.pc) r.by' := fun {r} h => by
    have ha : (wr.alloc o).ownsRow w.heap.size 5 1 (.slice r.pa r.pn r.pc) r.by'.length ((List.range r.by'.length).map (u8v r.by')) := World.ownsRow.alloc h o
    exact own_kept ha fun g hg' => hg.block g (ha.lt g hg').2 (fun e => own_apart ha hla (by decide) hg' e.symm)
  refine ⟨h7, fun k hk => ?_, fun k hk => ?_, (S.D.alloc o).grew hg fun g h => by have := hr g h; omega, only_grew (only_alloc S.O o) hg hr, (hg.block w.heap.size (bx_lt (bx_keep o S.Z)) (fun e => own_ne hla (bx_keep o S.Z) (by decide) e.symm rfl)).trans (bx_keep o S.Z)⟩
  · by_cases e : k = n
    · subst e; rw [addR_at]; exact keep hd
    · rw [addR_ne e]; exact keep (S.d k (by omega))
  · by_cases e : k = n
    · subst e; rw [addR_at]; exact hb
    · rw [addR_ne e]; exact S.b k (by omega)
set_option maxRecDepth 100000 in
set_option maxHeartbeats 16000000 in
theorem traffic14 (c : Cf) (X : Nat → Ch.Fd) (T : Nat → Te) (many i0 : Nat) (tk : Int) (p B C : Nat) (w : World) (K : CfRw w C c X T) (hC : p < C) (HB : CfB c X T i0) (hi0 : 1 ≤ i0 ∧ i0 ≤ 3) (hm : many ≤ 20) (htk : 1 ≤ tk ∧ tk ≤ 100) (D : DiceS w p B) :
    Calls Tryz.prog 14 #[.pointer (some ⟨p, 0, none⟩), cfv c, .int .i64 many, .int .i64 tk] w fun e w' => ∃ v Q, e = .returned v ∧ w'.ownsRow w.heap.size 49 5 v many ((List.range (many * 5)).map (trv Q)) ∧ (∀ k, k < many → OwnU w' w.heap.size (.slice (Q k).pa (Q k).pn (Q k).pc) (Q k).by') ∧ (∀ k, k < many → TrB tk c.tn (Q k)) ∧ DiceS w' p B ∧ OnlyP w w' p := by
  have hp := D.lt
  have hB := D.le
  have hpw : p < w.heap.size := by omega
  have hzp : w.heap.size ≠ p := by omega
  have htn : 1 ≤ c.tn ∧ c.tn ≤ 3 := by have := HB.tn; omega
  have HK := Lib.hid K
  have HBT := Lib.hid HB.t
  have S0 := Lib.hid (show TrSt w (w.alloc (.cells (cfs c).toArray 37)) c p B tk (.slice none 0 0) 0 (fun _ => ⟨0, 0, 0, 0, none, 0, 0, []⟩) from ⟨own_nilK _ _ _ _ _, fun k hk => absurd hk (Nat.not_lt_zero k), fun k hk => absurd hk (Nat.not_lt_zero k), D.alloc _, only_alloc (only_refl w p) _, bx_new w _ 37⟩)
  have hcv : cfv c = .agg (cfs c).toArray := rfl
  clear D K HB
  rw [hcv]
  clear hcv
  go_enter Tryz.func14, Tryz.ntmps14
  go_upto_region 3 with fail
  generalize w.alloc _ = w1 at *
  go_loopw [9, 10, 11] (fun l i s11 wr => ∃ (n : Nat) (lv : Value) (Q : Nat → Tr), lv = l ∧ i = .int .i64 n ∧ n ≤ many ∧ TrSt w wr c p B tk lv n Q) (fun _ i _ _ => 100 - (intOf i).toNat)
  case atStart => exact ⟨0, _, _, rfl, rfl, Nat.zero_le _, S0.out⟩
  case round =>
    clear S0
    obtain ⟨n, lv, Q, rfl, rfl, hn, hS⟩ := hrel
    have HS := Lib.hid hS
    have HLT := Lib.hid (fun (g : Nat) (hg : lv.ownBlock = some g) => (hS.l.lt g hg).2)
    have HLD := Lib.hid (fun (k : Nat) (hk : k < n) (g : Nat) (hg : (Value.slice (Q k).pa (Q k).pn (Q k).pc).ownBlock = some g) => ((hS.d k hk).lt g hg).2)
    clear hS
    have hzl := bx_lt HS.out.Z
    by_cases hlt : n < many
    · have hpw3 : p < wr.heap.size := by omega
      go_upto_region 5 with fail
      refine wp_region_peelJ 0 12 (fun u u' => OnlyP u u' p) (fun i v u => match i with
        | 0 => v = .pointer (some ⟨p, 0, none⟩)
        | 1 => v = .int .i64 tk
        | 2 => ∃ x : Int, v = .int .i64 x ∧ 0 ≤ x ∧ x < tk
        | 3 => v = .pointer (some ⟨p, 0, none⟩)
        | 4 => v = .pointer (some ⟨w.heap.size, 19, none⟩)
        | 5 => v = .slice c.ta c.tn c.tc
        | 6 => v = .int .i64 c.tn
        | 7 => ∃ x : Int, v = .int .i64 x ∧ 0 ≤ x ∧ x < c.tn
        | 8 => v = .pointer (some ⟨p, 0, none⟩)
        | 9 => ∃ x : Int, v = .int .i64 x ∧ 0 ≤ x ∧ x < 2
        | 10 => ∃ x y z : Int, v = .agg #[.int .i64 x, .int .i64 y, .int .i64 0, .int .i64 z, .slice none 0 0] ∧ (0 ≤ x ∧ x < tk ∧ 0 ≤ y ∧ y < c.tn ∧ 0 ≤ z ∧ z < 2)
        | 11 => ∃ q : Nat, v = .pointer (some ⟨q, 0, none⟩) ∧ wr.heap.size ≤ q ∧ u.heap[q]? = some (.cells #[.int .i64 0, .int .i64 0, .int .i64 0, .int .i64 0, .slice none 0 0] 49 (0, 0))
        | _ => True) (fun _ _ u => DiceS u p B) (by kernel_rfl) (by kernel_rfl) rfl (fun _ _ d _ _ h => by cases d <;> exact h) (only_drewN (only_refl _ _) 1) (fun _ _ _ h1 h2 => only_trans h1 h2) (fun _ _ _ _ _ _ _ h => h) (HS.out.D.drewN 1) ?_ ?_ ?_
      · intro i v w1 w2 hb h
        match i with
        | 0 => exact h
        | 1 => exact h
        | 2 => exact h
        | 3 => exact h
        | 4 => exact h
        | 5 => exact h
        | 6 => exact h
        | 7 => exact h
        | 8 => exact h
        | 9 => exact h
        | 10 => exact h
        | 11 =>
          obtain ⟨q, e1, e2, e3⟩ := h
          exact ⟨q, e1, e2, only_box hb (by omega) e3⟩
        | k + 12 => exact h
      · intro i o hp hi ho L vf u1 hun hw hb hj hd
        have hi' : i = 0 ∨ i = 1 ∨ i = 2 ∨ i = 3 ∨ i = 4 ∨ i = 5 ∨ i = 6 ∨ i = 7 ∨ i = 8 ∨ i = 9 ∨ i = 10 ∨ i = 11 := by omega
        rcases hi' with rfl | rfl | rfl | rfl | rfl | rfl | rfl | rfl | rfl | rfl | rfl | rfl
        all_goals obtain rfl := Option.some.inj ho
        all_goals simp only [fillA, List.take_succ_cons, List.take_zero, List.drop_succ_cons, List.drop_zero, Nat.zero_add, Nat.reduceAdd]
        · have HJ := Lib.hid hj
          clear hd hw hj
          go_wp2
          exact ⟨rfl, only_refl _ _, rfl, HJ.out⟩
        · have HJ := Lib.hid hj
          clear hd hw hj
          go_wp2
          exact ⟨rfl, only_refl _ _, rfl, HJ.out⟩
        · have f0 := hd 0 (by omega) (by omega) (hw 0 (by kernel_rfl))
          have f1 := hd 1 (by omega) (by omega) (hw 1 (by kernel_rfl))
          have HJ := Lib.hid hj
          clear hd hw hj
          simp only [Act.put, List.setIfInBounds_toArray, List.set_cons_succ, List.set_cons_zero]
          generalize vf 0 = vv at *
          subst f0
          generalize vf 1 = vm at *
          subst f1
          go_wp2_with (go_at_call 12; refine (next12 (by omega) (by omega) HJ.out).mono ?_; rintro e w3 ⟨x, rfl, h0, h1, hd, ho⟩)
          exact ⟨rfl, ho, ⟨x, rfl, h0, h1⟩, hd⟩
        · have HJ := Lib.hid hj
          clear hd hw hj
          go_wp2
          exact ⟨rfl, only_refl _ _, rfl, HJ.out⟩
        · have HJ := Lib.hid hj
          clear hd hw hj
          go_wp2
          exact ⟨rfl, only_refl _ _, rfl, HJ.out⟩
        · have f4 := hd 4 (by omega) (by omega) (hw 4 (by kernel_rfl))
          have hcc := bx_cell (only_box hb hzp HS.out.Z) 19 (v := .slice c.ta c.tn c.tc) rfl
          have HJ := Lib.hid hj
          clear hd hw hj
          simp only [Act.put, List.setIfInBounds_toArray, List.set_cons_succ, List.set_cons_zero]
          generalize vf 4 = vv at *
          subst f4
          go_wp2
          exact ⟨rfl, only_refl _ _, rfl, HJ.out⟩
        · have f5 := hd 5 (by omega) (by omega) (hw 5 (by kernel_rfl))
          have HJ := Lib.hid hj
          clear hd hw hj
          simp only [Act.put, List.setIfInBounds_toArray, List.set_cons_succ, List.set_cons_zero]
          generalize vf 5 = vv at *
          subst f5
          go_wp2
          exact ⟨rfl, only_refl _ _, rfl, HJ.out⟩
        · have f3 := hd 3 (by omega) (by omega) (hw 3 (by kernel_rfl))
          have f6 := hd 6 (by omega) (by omega) (hw 6 (by kernel_rfl))
          have HJ := Lib.hid hj
          clear hd hw hj
          simp only [Act.put, List.setIfInBounds_toArray, List.set_cons_succ, List.set_cons_zero]
          generalize vf 3 = vv at *
          subst f3
          generalize vf 6 = vm at *
          subst f6
          go_wp2_with (go_at_call 12; refine (next12 (by omega) (by omega) HJ.out).mono ?_; rintro e w3 ⟨x, rfl, h0, h1, hd, ho⟩)
          exact ⟨rfl, ho, ⟨x, rfl, h0, h1⟩, hd⟩
        · have HJ := Lib.hid hj
          clear hd hw hj
          go_wp2
          exact ⟨rfl, only_refl _ _, rfl, HJ.out⟩
        · have f8 := hd 8 (by omega) (by omega) (hw 8 (by kernel_rfl))
          have HJ := Lib.hid hj
          clear hd hw hj
          simp only [Act.put, List.setIfInBounds_toArray, List.set_cons_succ, List.set_cons_zero]
          generalize vf 8 = vv at *
          subst f8
          go_wp2_with (go_at_call 12; refine (next12 (by omega) (by omega) HJ.out).mono ?_; rintro e w3 ⟨x, rfl, h0, h1, hd, ho⟩)
          exact ⟨rfl, ho, ⟨x, rfl, h0, h1⟩, hd⟩
        · obtain ⟨x, f2, x0, x1⟩ := hd 2 (by omega) (by omega) (hw 2 (by kernel_rfl))
          obtain ⟨y, f7, y0, y1⟩ := hd 7 (by omega) (by omega) (hw 7 (by kernel_rfl))
          obtain ⟨z, f9, z0, z1⟩ := hd 9 (by omega) (by omega) (hw 9 (by kernel_rfl))
          have HJ := Lib.hid hj
          clear hd hw hj
          simp only [Act.put, List.setIfInBounds_toArray, List.set_cons_succ, List.set_cons_zero]
          generalize vf 2 = v2 at *
          subst f2
          generalize vf 7 = v7 at *
          subst f7
          generalize vf 9 = v9 at *
          subst f9
          go_wp2
          exact ⟨rfl, only_refl _ _, ⟨x, y, z, rfl, x0, x1, y0, y1, z0, z1⟩, HJ.out⟩
        · have hsz := hb.size
          have HJ := Lib.hid hj
          clear hd hw hj
          go_wp2
          exact ⟨rfl, only_alloc (only_refl _ _) _, ⟨_, rfl, hsz, bx_new u1 _ 49⟩, HJ.out.alloc _⟩
      intro vf u1 hb hj hd
      obtain ⟨x, y, s0, f10, hxy⟩ := hd 10 (by omega) (by omega)
      obtain ⟨q, f11, hq, hbox⟩ := hd 11 (by omega) (by omega)
      replace HS := Lib.hid (HS.out.next hpw hb hj)
      have HX := Lib.hid hbox
      have HV := Lib.hid (fun (g : Nat) (hg : lv.ownBlock = some g) => (show g ≠ q from by have := HLT.out g hg; omega))
      have HVd := Lib.hid (fun (k : Nat) (hk : k < n) (g : Nat) (hg : (Value.slice (Q k).pa (Q k).pn (Q k).pc).ownBlock = some g) => (show g ≠ q from by have := HLD.out k hk g hg; omega))
      clear hd hb hj hbox
      simp only [fillA, List.take_succ_cons, List.take_zero, List.drop_succ_cons, List.drop_zero, Nat.zero_add, Nat.reduceAdd]
      simp only [Act.put, List.setIfInBounds_toArray, List.set_cons_succ, List.set_cons_zero]
      generalize vf 10 = v10 at *
      subst f10
      generalize vf 11 = v11 at *
      subst f11
      go_upto_region 6 with (refine wpList_store_mid rfl 49 (.tmp 11) (.tmp 27) rfl q 0 #[.int .i64 x, .int .i64 y, .int .i64 0, .int .i64 s0, .slice none 0 0] rfl rfl (bx_there_at HX.out 0 5 (Nat.le_refl 5)) (by kernel_rfl) (by kernel_rfl) ?_)
      try simp only [Act.put]
      have hwq : w.heap.size < q := by omega
      have hs := bx_cells_same [.int .i64 x, .int .i64 y, .int .i64 0, .int .i64 s0, .slice none 0 0] 0 HX.out
      rw [setFrom_all (vs := [.int .i64 x, .int .i64 y, .int .i64 0, .int .i64 s0, .slice none 0 0]) (cs := #[.int .i64 0, .int .i64 0, .int .i64 0, .int .i64 0, .slice none 0 0]) rfl] at hs
      replace HX := Lib.hid hs
      replace HS := Lib.hid (HS.out.sets hB hwq HV.out HVd.out 0 [.int .i64 x, .int .i64 y, .int .i64 0, .int .i64 s0, .slice none 0 0])
      clear hs
      generalize u1.setCells _ _ _ = w6 at *
      obtain ⟨y, rfl⟩ : ∃ y' : Nat, y = y' := ⟨y.toNat, by omega⟩
      obtain ⟨g0, hta, hg0, hcs⟩ := (HK.out.only HS.out.O hC).rows (q := y) (by omega)
      have c19 : w6.cell? ⟨w.heap.size, 19, none⟩ = some (.slice (some ⟨g0, 0, none⟩) c.tn c.tc) := by rw [← hta]; exact bx_cell HS.out.Z 19 rfl
      have cq1 := bx_cell HX.out 1 (v := .int .i64 y) rfl
      have cT : w6.cell? ⟨g0, y * 14 + 2, none⟩ = some (.slice (T y).ba (T y).bn (T y).bc) := hcs 2 (by omega)
      have hbn := (HBT.out y (by omega)).n
      clear hcs hta
      go_wp2_with (go_at_call 12; refine (next12 (by omega) (by omega) HS.out.D).mono ?_; rintro e w7 ⟨v6, rfl, l6, u6, hd, ho⟩; refine Hid.out ?_)
      refine Lib.hid ?_
      replace HS := Lib.hid (HS.out.next hpw ho hd)
      have hqp : q ≠ p := by omega
      replace HX := Lib.hid (only_box ho hqp HX.out)
      clear ho hd c19 cq1 cT
      have cq2 := bx_cell HX.out 2 (v := .int .i64 0) rfl
      have fq2 := bx_fr HX.out 2
      go_upto_region 7 with fail
      clear cq2 fq2
      replace HS := Lib.hid (show TrSt w (w7.setCell ⟨q, 2, none⟩ (.int .i64 v6)) c p B tk lv n Q from HS.out.sets hB hwq HV.out HVd.out 2 [.int .i64 v6])
      replace HX := Lib.hid (show (w7.setCell ⟨q, 2, none⟩ (.int .i64 v6)).heap[q]? = some (.cells #[.int .i64 x, .int .i64 y, .int .i64 v6, .int .i64 s0, .slice none 0 0] 49 (0, 0)) from bx_set_same (k := 2) HX.out (.int .i64 v6))
      generalize w7.setCell _ _ = w8 at *
      go_wp2_with (go_at_call 25; refine (packet25 n p B (by omega) w8 HS.out.D).mono ?_; rintro e w9 ⟨vp, np, rfl, n1, n2, hv, hd, ho⟩; refine Hid.out ?_)
      refine Lib.hid ?_
      have hw8 : w.heap.size ≤ w8.heap.size := HS.out.O.size
      have hql8 := bx_lt HX.out
      replace HS := Lib.hid (HS.out.next hpw ho hd)
      replace HX := Lib.hid (only_box ho hqp HX.out)
      obtain ⟨pa, pc, rfl, -, -⟩ := hv.slice
      have hpq : ∀ g, (Value.slice pa np pc).ownBlock = some g → g ≠ q := fun g hg => by have := (hv.lt g hg).1; omega
      obtain ⟨bl, hbl, hbo⟩ := byr_ownU (hv.base hw8)
      have HPQ := Lib.hid hpq
      have HBO := Lib.hid hbo
      have HBL := Lib.hid hbl
      clear ho hd hv hpq hbo hbl
      have cq4 := bx_cell HX.out 4 (v := .slice none 0 0) rfl
      have fq4 := bx_fr HX.out 4
      go_upto_region 8 with fail
      clear cq4 fq4
      replace HBO := Lib.hid (show OwnU (w9.setCell ⟨q, 4, none⟩ (.slice pa np pc)) w.heap.size (.slice pa np pc) bl from own_kept HBO.out fun g hg => Below.heap_setCell _ _ _ _ (HPQ.out g hg))
      replace HS := Lib.hid (show TrSt w (w9.setCell ⟨q, 4, none⟩ (.slice pa np pc)) c p B tk lv n Q from HS.out.sets hB hwq HV.out HVd.out 4 [.slice pa np pc])
      replace HX := Lib.hid (show (w9.setCell ⟨q, 4, none⟩ (.slice pa np pc)).heap[q]? = some (.cells #[.int .i64 x, .int .i64 y, .int .i64 v6, .int .i64 s0, .slice pa np pc] 49 (0, 0)) from bx_set_same (k := 4) HX.out (.slice pa np pc))
      generalize w9.setCell _ _ = w10 at *
      obtain ⟨tr, htr⟩ : ∃ tr : Tr, tr = ⟨x, y, v6, s0, pa, np, pc, bl⟩ := ⟨_, rfl⟩
      have HTR := Lib.hid (show TrB tk c.tn tr from by
        have := HBL.out
        subst htr
        refine ⟨?_, ?_, ?_, ?_, ?_, ?_, ?_, ?_, ?_, ?_⟩ <;> dsimp only <;> omega)
      have HBO2 := Lib.hid (show OwnU w10 w.heap.size (.slice tr.pa tr.pn tr.pc) tr.by' from by subst htr; exact HBO.out)
      have HTC := Lib.hid (show trC tr = [.int .i64 x, .int .i64 y, .int .i64 v6, .int .i64 s0, .slice pa np pc] from by subst htr; rfl)
      have HRG := Lib.hid (bx_range HX.out (l := [.int .i64 x, .int .i64 y, .int .i64 v6, .int .i64 s0, .slice pa np pc]) rfl)
      clear htr HBO HBL HPQ
      go_wp2_with (first | (refine wpList_load_mid rfl 49 (.tmp 11) rfl q 0 rfl [.int .i64 x, .int .i64 y, .int .i64 v6, .int .i64 s0, .slice pa np pc] _ HRG.out Tryz.underlying49 rfl (by kernel_rfl) ?_) | (at_builtin; refine wpList_append_tr _ w.heap.size rfl (.tmp 43) (.tmp 45) rfl lv n Q rfl tr w10.heap.size rfl (by rw [HTC.out]; exact bx_new w10 _ 49) (own_alloc' HS.out.l _) (by have := HS.out.O.size; simp; omega) (by omega) ?_; intro v' w11 h11 hg11; have HS11 := Lib.hid (HS.out.app hB _ hg11 h11 HBO2.out HTR.out)))
      go_roundw
      case rel => exact ⟨n + 1, _, _, rfl, by go_num, by omega, HS11.out⟩
      case measure => simp [intOf]; omega
    · obtain rfl : n = many := by omega
      go_wp2
      go_ret
      exact ⟨_, Q, rfl, HS.out.l, HS.out.d, HS.out.b, HS.out.D, HS.out.O⟩
end Go.Proofs.YtgflfdnajchjaaaGreatDoor
