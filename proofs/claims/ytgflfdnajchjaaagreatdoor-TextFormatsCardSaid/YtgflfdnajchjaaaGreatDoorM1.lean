/- Layer 45: the configuration of a bearer by dice. -/
import Derived.Test.YtgflfdnajchjaaaGreatDoorM0
import Derived.Test.YtgflfdnajchjaaaGreatDoorJI
namespace Go.Proofs.YtgflfdnajchjaaaGreatDoor
set_option linter.unusedVariables false
set_option linter.unusedSimpArgs false
open Go.RowKit Go.Sort
open Tm
attribute [local go_sem] gcell
/-! ### Boxes and dice -/
theorem only_box {w w' : World} {p z : Nat} {o : Obj} (h : OnlyP w w' p) (hz : z ≠ p) (H : w.heap[z]? = some o) : w'.heap[z]? = some o := (only_block h hz (Array.getElem?_eq_some_iff.1 H).1).trans H
theorem bx_cell {w : World} {z e : Nat} {cs : Array Value} {fz : Nat × Nat} (h : w.heap[z]? = some (.cells cs e fz)) (k : Nat) {v : Value} (hv : cs[k]? = some v) : w.cell? ⟨z, k, none⟩ = some v := by rw [cell_of_row w z k cs e fz h]; exact hv
theorem bx_fr {w : World} {z e : Nat} {cs : Array Value} (h : w.heap[z]? = some (.cells cs e (0, 0))) (k : Nat) : w.frozen? ⟨z, k, none⟩ = false := frozen_of_row w z k _ _ h
theorem bx_there_at {w : World} {z e : Nat} {cs : Array Value} (h : w.heap[z]? = some (.cells cs e (0, 0))) (o n : Nat) (ho : o + n ≤ cs.size) : w.there z o n := fun j hj => by
  have := bx_there h (o + j) (by omega)
  rwa [Nat.zero_add] at this
theorem bx_new (w : World) (cs : Array Value) (e : Nat) : (w.alloc (.cells cs e)).heap[w.heap.size]? = some (.cells cs e (0, 0)) := (MapKept.heap_alloc w _).1
theorem bx_keep {w : World} {z : Nat} {o : Obj} (x : Obj) (H : w.heap[z]? = some o) : (w.alloc x).heap[z]? = some o := (Below.heap_alloc _ _ _ (Array.getElem?_eq_some_iff.1 H).1).trans H
theorem bx_lt {w : World} {z : Nat} {o : Obj} (H : w.heap[z]? = some o) : z < w.heap.size := (Array.getElem?_eq_some_iff.1 H).1
theorem bx_range {w : World} {z e : Nat} {cs : Array Value} {fz : Nat × Nat} (h : w.heap[z]? = some (.cells cs e fz)) {l : List Value} (hl : cs = l.toArray) : w.rangeAt z 0 l := fun j v hv => by
  rw [Nat.zero_add]
  exact bx_cell h j (by rw [hl]; simpa using hv)
theorem DiceS.alloc {w : World} {p B : Nat} (h : DiceS w p B) (o : Obj) : DiceS (w.alloc o) p B := h.mono ((Below.refl w.heap.size w).alloc (Nat.le_refl _) o) h.le
theorem DiceS.set {w : World} {p B q o : Nat} {v : Value} (h : DiceS w p B) (hq : B ≤ q) : DiceS (w.setCell ⟨q, o, none⟩ v) p B := h.mono ((Below.refl B w).setCell (p := ⟨q, o, none⟩) (by exact hq) v) (Nat.le_refl _)
theorem DiceS.sets {w : World} {p B q : Nat} (h : DiceS w p B) (hq : B ≤ q) (o : Nat) (vs : List Value) : DiceS (w.setCells q o vs) p B := h.mono (bx_cells_base hq vs o w) (Nat.le_refl _)
theorem only_sets {a b : World} {p q : Nat} (h : OnlyP a b p) (hq : a.heap.size ≤ q) (o : Nat) (vs : List Value) : OnlyP a (b.setCells q o vs) p := by
  have k := bx_cells_base hq vs o b
  exact ⟨k.os.trans h.os, k.tape.trans h.tape, k.output.trans h.output, Nat.le_trans h.size k.size, fun i hi hne => (k.block i hi).trans (h.block i hi hne)⟩
/-- A bearer's configuration as dice make it. -/
structure SideB (mode : Int) (r : BeR) : Prop where
  mo : r.mo = mode
  co : 0 ≤ r.co ∧ r.co ≤ 3
  wi : 0 ≤ r.wi ∧ r.wi ≤ 3 ∧ (0 < r.co → 1 ≤ r.wi) ∧ (r.co = 0 → r.wi = 0)
  bi : 5 ≤ r.bi ∧ r.bi ≤ 7
  wa : 1 ≤ r.wa ∧ r.wa ≤ 8
  b : 5 ≤ r.b ∧ r.b ≤ 7
  e : 1 ≤ r.e ∧ r.e ≤ 4
  p : 2 ≤ r.p ∧ r.p ≤ 9
  v : 1 ≤ r.v ∧ r.v ≤ 6
  q : 0 ≤ r.q ∧ r.q ≤ 2
  t : r.t = 32
def be11c (r : BeR) : List Value := [.int .i64 r.mo, .int .i64 r.co, .int .i64 r.wi, .int .i64 r.bi, .int .i64 r.wa, .int .i64 r.b, .int .i64 r.e, .int .i64 r.p, .int .i64 r.v, .int .i64 r.q, .int .i64 r.t]
def be11v (r : BeR) : Value := .agg #[.int .i64 r.mo, .int .i64 r.co, .int .i64 r.wi, .int .i64 r.bi, .int .i64 r.wa, .int .i64 r.b, .int .i64 r.e, .int .i64 r.p, .int .i64 r.v, .int .i64 r.q, .int .i64 r.t]
set_option maxRecDepth 100000 in
set_option maxHeartbeats 4000000 in
theorem side21 (mode : Int) (p B : Nat) (w : World) (D : DiceS w p B) : Calls Tryz.prog 21 #[.pointer (some ⟨p, 0, none⟩), .int .i64 mode] w fun e w' => ∃ r, e = .returned (be11v r) ∧ SideB mode r ∧ DiceS w' p B ∧ OnlyP w w' p := by
  have hp := D.lt
  have hB := D.le
  have D1 := Lib.hid D
  have O1 := Lib.hid (only_refl w p)
  clear D
  go_enter Tryz.func21, Tryz.ntmps21
  go_upto_region 1 with fail
  have H1 := Lib.hid (bx_new w #[.int .i64 0, .int .i64 0, .int .i64 0, .int .i64 0, .int .i64 0, .int .i64 0, .int .i64 0, .int .i64 0, .int .i64 0, .int .i64 0, .int .i64 0] 71)
  replace D1 := Lib.hid (D1.out.alloc (.cells #[.int .i64 0, .int .i64 0, .int .i64 0, .int .i64 0, .int .i64 0, .int .i64 0, .int .i64 0, .int .i64 0, .int .i64 0, .int .i64 0, .int .i64 0] 71))
  replace O1 := Lib.hid (only_alloc O1.out (.cells #[.int .i64 0, .int .i64 0, .int .i64 0, .int .i64 0, .int .i64 0, .int .i64 0, .int .i64 0, .int .i64 0, .int .i64 0, .int .i64 0, .int .i64 0] 71))
  have hz : w.heap.size ≠ p := by omega
  have hzl := bx_lt H1.out
  generalize w.alloc _ = w1 at *
  go_upto_region 2 with (go_at_call 12; refine (next12 (by decide) (by decide) D1.out).mono ?_; rintro e w' ⟨v, rfl, h0, h1, hd, ho⟩; replace O1 := Lib.hid (only_trans O1.out ho); replace H1 := Lib.hid (only_box ho hz H1.out); replace D1 := Lib.hid hd; clear ho hd)
  rename_i _ v1 _ _ _ v2 _ _ _ _ _ _
  obtain ⟨v3, hv3⟩ : ∃ x, x = v := ⟨_, rfl⟩
  subst hv3
  have hlt := bx_lt H1.out
  have hz2 : w'.heap.size ≠ p := by omega
  have hz3 : w'.heap.size ≠ w.heap.size := by omega
  have hB2 : B ≤ w'.heap.size := by omega
  have hw2 : w.heap.size ≤ w'.heap.size := by omega
  have H2 := Lib.hid (bx_new w' #[.int .i64 mode, .int .i64 v1, .int .i64 0, .int .i64 (5 + v2), .int .i64 (1 + v3), .int .i64 0, .int .i64 0, .int .i64 0, .int .i64 0, .int .i64 0, .int .i64 0] 71)
  replace H1 := Lib.hid (bx_keep (.cells #[.int .i64 mode, .int .i64 v1, .int .i64 0, .int .i64 (5 + v2), .int .i64 (1 + v3), .int .i64 0, .int .i64 0, .int .i64 0, .int .i64 0, .int .i64 0, .int .i64 0] 71) H1.out)
  replace D1 := Lib.hid (D1.out.alloc (.cells #[.int .i64 mode, .int .i64 v1, .int .i64 0, .int .i64 (5 + v2), .int .i64 (1 + v3), .int .i64 0, .int .i64 0, .int .i64 0, .int .i64 0, .int .i64 0, .int .i64 0] 71))
  replace O1 := Lib.hid (only_alloc O1.out (.cells #[.int .i64 mode, .int .i64 v1, .int .i64 0, .int .i64 (5 + v2), .int .i64 (1 + v3), .int .i64 0, .int .i64 0, .int .i64 0, .int .i64 0, .int .i64 0, .int .i64 0] 71))
  clear hlt hzl
  generalize w'.alloc _ = w2 at *
  generalize w'.heap.size = z2 at *
  have c1 := bx_cell H2.out 1 rfl
  by_cases hco : 0 < v1
  · go_upto_region 4 with (go_at_call 12; refine (next12 (by decide) (by decide) D1.out).mono ?_; rintro e w' ⟨v, rfl, h0, h1, hd, ho⟩; replace O1 := Lib.hid (only_trans O1.out ho); replace H1 := Lib.hid (only_box ho hz H1.out); replace H2 := Lib.hid (only_box ho hz2 H2.out); replace D1 := Lib.hid hd; clear ho hd; have c2 := bx_cell H2.out 2 rfl; have hfr := bx_fr H2.out 2)
    clear c1 c2 hfr
    replace D1 := Lib.hid (D1.out.set (o := 2) (v := .int .i64 (1 + v)) hB2)
    replace O1 := Lib.hid (only_setNew O1.out hw2 2 (.int .i64 (1 + v)))
    replace H1 := Lib.hid ((Below.heap_setCell w' ⟨z2, 2, none⟩ (.int .i64 (1 + v)) w.heap.size (Ne.symm hz3)).trans H1.out)
    replace H2 := Lib.hid (bx_set_same (k := 2) H2.out (.int .i64 (1 + v)))
    generalize w'.setCell _ _ = w3 at *
    replace H2 := Lib.hid (show w3.heap[z2]? = some (.cells #[.int .i64 mode, .int .i64 v1, .int .i64 (1 + v), .int .i64 (5 + v2), .int .i64 (1 + v3), .int .i64 0, .int .i64 0, .int .i64 0, .int .i64 0, .int .i64 0, .int .i64 0] 71 (0, 0)) from H2.out)
    obtain ⟨v4, hv4⟩ : ∃ x, x = v := ⟨_, rfl⟩
    subst hv4
    go_upto_region 5 with (first | (go_at_call 12; refine (next12 (by decide) (by decide) D1.out).mono ?_; rintro e w' ⟨v, rfl, h0, h1, hd, ho⟩; replace O1 := Lib.hid (only_trans O1.out ho); replace H1 := Lib.hid (only_box ho hz H1.out); replace H2 := Lib.hid (only_box ho hz2 H2.out); replace D1 := Lib.hid hd; clear ho hd) | (refine wpList_store_mid rfl 69 (.tmp 38) (.tmp 37) rfl z2 5 _ rfl rfl (bx_there_at H2.out 5 6 (Nat.le_of_ble_eq_true rfl)) (by kernel_rfl) (by kernel_rfl) ?_))
    rename_i _ u1 _ _ _ u2 _ _ _ u3 _ _ _ u4 _ _ _ _
    replace D1 := Lib.hid (D1.out.sets hB2 5 [.int .i64 (5 + u1), .int .i64 (1 + u2), .int .i64 (2 + u3), .int .i64 (1 + u4), .int .i64 v, .int .i64 32])
    replace O1 := Lib.hid (only_sets O1.out hw2 5 [.int .i64 (5 + u1), .int .i64 (1 + u2), .int .i64 (2 + u3), .int .i64 (1 + u4), .int .i64 v, .int .i64 32])
    replace H1 := Lib.hid ((bx_cells_other (i := w.heap.size) (Ne.symm hz3) [.int .i64 (5 + u1), .int .i64 (1 + u2), .int .i64 (2 + u3), .int .i64 (1 + u4), .int .i64 v, .int .i64 32] 5).trans H1.out)
    replace H2 := Lib.hid (bx_cells_same [.int .i64 (5 + u1), .int .i64 (1 + u2), .int .i64 (2 + u3), .int .i64 (1 + u4), .int .i64 v, .int .i64 32] 5 H2.out)
    generalize w'.setCells _ _ _ = w4 at *
    obtain ⟨r, hr⟩ : ∃ r : BeR, r = ⟨mode, v1, 1 + v4, 5 + v2, 1 + v3, 5 + u1, 1 + u2, 2 + u3, 1 + u4, v, 32⟩ := ⟨_, rfl⟩
    have hS : SideB mode r := by
      subst hr
      constructor <;> dsimp only <;> omega
    replace H2 := Lib.hid (show w4.heap[z2]? = some (.cells (be11c r).toArray 71 (0, 0)) from by subst hr; exact H2.out)
    have HS := Lib.hid hS
    clear hr hS
    go_wp2_with (first | (refine wpList_load_mid rfl 71 (.tmp 5) rfl z2 0 rfl (be11c r) _ (bx_range H2.out rfl) Tryz.underlying71 rfl (by kernel_rfl) ?_) | (refine wpList_store_mid rfl 71 (.tmp 4) (.tmp 39) rfl w.heap.size 0 (be11c r).toArray rfl rfl (bx_there_at H1.out 0 11 (Nat.le_refl _)) (by kernel_rfl) (by kernel_rfl) ?_))
    have hs := bx_cells_same (be11c r) 0 H1.out
    rw [setFrom_all (vs := be11c r) (cs := #[.int .i64 0, .int .i64 0, .int .i64 0, .int .i64 0, .int .i64 0, .int .i64 0, .int .i64 0, .int .i64 0, .int .i64 0, .int .i64 0, .int .i64 0]) rfl] at hs
    replace H1 := Lib.hid hs
    clear hs
    replace D1 := Lib.hid (D1.out.sets hB 0 (be11c r))
    replace O1 := Lib.hid (only_sets O1.out (Nat.le_refl _) 0 (be11c r))
    generalize w4.setCells _ _ _ = w5 at *
    exact bodyPost_ret (results_range Tryz.results21 _ _ w.heap.size (be11c r) _ rfl (bx_range H1.out rfl) Tryz.underlying71 rfl (by kernel_rfl)) rfl ⟨r, rfl, HS.out, D1.out, O1.out⟩
  · have hv1 : v1 = 0 := by omega
    subst hv1
    go_upto_region 4 with fail
    clear c1
    go_upto_region 5 with (first | (go_at_call 12; refine (next12 (by decide) (by decide) D1.out).mono ?_; rintro e w' ⟨v, rfl, h0, h1, hd, ho⟩; replace O1 := Lib.hid (only_trans O1.out ho); replace H1 := Lib.hid (only_box ho hz H1.out); replace H2 := Lib.hid (only_box ho hz2 H2.out); replace D1 := Lib.hid hd; clear ho hd) | (refine wpList_store_mid rfl 69 (.tmp 38) (.tmp 37) rfl z2 5 _ rfl rfl (bx_there_at H2.out 5 6 (Nat.le_of_ble_eq_true rfl)) (by kernel_rfl) (by kernel_rfl) ?_))
    rename_i _ u1 _ _ _ u2 _ _ _ u3 _ _ _ u4 _ _ _ _
    replace D1 := Lib.hid (D1.out.sets hB2 5 [.int .i64 (5 + u1), .int .i64 (1 + u2), .int .i64 (2 + u3), .int .i64 (1 + u4), .int .i64 v, .int .i64 32])
    replace O1 := Lib.hid (only_sets O1.out hw2 5 [.int .i64 (5 + u1), .int .i64 (1 + u2), .int .i64 (2 + u3), .int .i64 (1 + u4), .int .i64 v, .int .i64 32])
    replace H1 := Lib.hid ((bx_cells_other (i := w.heap.size) (Ne.symm hz3) [.int .i64 (5 + u1), .int .i64 (1 + u2), .int .i64 (2 + u3), .int .i64 (1 + u4), .int .i64 v, .int .i64 32] 5).trans H1.out)
    replace H2 := Lib.hid (bx_cells_same [.int .i64 (5 + u1), .int .i64 (1 + u2), .int .i64 (2 + u3), .int .i64 (1 + u4), .int .i64 v, .int .i64 32] 5 H2.out)
    generalize w'.setCells _ _ _ = w4 at *
    obtain ⟨r, hr⟩ : ∃ r : BeR, r = ⟨mode, 0, 0, 5 + v2, 1 + v3, 5 + u1, 1 + u2, 2 + u3, 1 + u4, v, 32⟩ := ⟨_, rfl⟩
    have hS : SideB mode r := by
      subst hr
      constructor <;> dsimp only <;> omega
    replace H2 := Lib.hid (show w4.heap[z2]? = some (.cells (be11c r).toArray 71 (0, 0)) from by subst hr; exact H2.out)
    have HS := Lib.hid hS
    clear hr hS
    go_wp2_with (first | (refine wpList_load_mid rfl 71 (.tmp 5) rfl z2 0 rfl (be11c r) _ (bx_range H2.out rfl) Tryz.underlying71 rfl (by kernel_rfl) ?_) | (refine wpList_store_mid rfl 71 (.tmp 4) (.tmp 39) rfl w.heap.size 0 (be11c r).toArray rfl rfl (bx_there_at H1.out 0 11 (Nat.le_refl _)) (by kernel_rfl) (by kernel_rfl) ?_))
    have hs := bx_cells_same (be11c r) 0 H1.out
    rw [setFrom_all (vs := be11c r) (cs := #[.int .i64 0, .int .i64 0, .int .i64 0, .int .i64 0, .int .i64 0, .int .i64 0, .int .i64 0, .int .i64 0, .int .i64 0, .int .i64 0, .int .i64 0]) rfl] at hs
    replace H1 := Lib.hid hs
    clear hs
    replace D1 := Lib.hid (D1.out.sets hB 0 (be11c r))
    replace O1 := Lib.hid (only_sets O1.out (Nat.le_refl _) 0 (be11c r))
    generalize w4.setCells _ _ _ = w5 at *
    exact bodyPost_ret (results_range Tryz.results21 _ _ w.heap.size (be11c r) _ rfl (bx_range H1.out rfl) Tryz.underlying71 rfl (by kernel_rfl)) rfl ⟨r, rfl, HS.out, D1.out, O1.out⟩
end Go.Proofs.YtgflfdnajchjaaaGreatDoor
