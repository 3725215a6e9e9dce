import Derived.Test.YtgflfdnajchjaaaGreatDoorJX
import Derived.Test.YtgflfdnajchjaaaGreatDoorJS
import Derived.Test.YtgflfdnajchjaaaGreatDoorJB
import Derived.Deep.WholeRow
/- Layer 45: the program's writing of a document. -/
namespace Go.Proofs.YtgflfdnajchjaaaGreatDoor
set_option linter.unusedVariables false
set_option linter.unusedSimpArgs false
open Go.RowKit Go.Sort
open Tm
theorem join_cat : ∀ M : List (List UInt8), M ≠ [] → joinC 10 M ++ [10] = catL M
  | [], h => absurd rfl h
  | [a], _ => by simp [joinC, catL]
  | a :: b :: l, _ => by
    have ih := join_cat (b :: l) (by simp)
    rw [joinC_cons (by simp), List.append_assoc, List.cons_append, ih]
    simp [catL]
def headNs (c : Cf) (k : Nat) : List Int := if k = 0 then [c.h 0, c.h 1, c.h 2, c.h 3, c.h 4, c.h 5, c.h 6, c.h 7, c.h 8] else if k = 1 then [c.h 9, c.h 10, c.h 11] else if k = 2 then [c.h 12, c.h 13, c.h 14] else [c.h 16, c.h 17]
theorem four {k : Nat} (h : k < 4) : k = 0 ∨ k = 1 ∨ k = 2 ∨ k = 3 := by omega
theorem headNs_num {c : Cf} (h : HeadN c) {k : Nat} (hk : k < 4) : ∀ j, j < (headNs c k).length → I64 ((headNs c k).getD j 0) := by
  rcases four hk with rfl | rfl | rfl | rfl
  · exact h.wNetwork.weak
  · exact h.wPatience.weak
  · exact h.wRule.weak
  · exact h.wOuter.weak
theorem headNs_len (c : Cf) {k : Nat} (hk : k < 4) : (headNs c k).length ≤ 100 := by
  rcases four hk with rfl | rfl | rfl | rfl
  all_goals (show _ ≤ 100; simp [headNs])
theorem LinesOf.head {M : List (List UInt8)} {c : Cf} {X : Nat → Ch.Fd} {T : Nat → Te} {n : Nat} {Q : Nat → Tr} (H : LinesOf M c X T n Q) {k : Nat} (hk : k < 4) : M.getD k [] = lineS (wordAt k) (headNs c k) := by
  rcases four hk with rfl | rfl | rfl | rfl
  · exact H.h0
  · exact H.h1
  · exact H.h2
  · exact H.h3
theorem nat9 {k : Nat} (h : k < 9) : k = 0 ∨ k = 1 ∨ k = 2 ∨ k = 3 ∨ k = 4 ∨ k = 5 ∨ k = 6 ∨ k = 7 ∨ k = 8 := by omega
theorem nat15 {k : Nat} (h : k < 15) : k = 0 ∨ k = 1 ∨ k = 2 ∨ k = 3 ∨ k = 4 ∨ k = 5 ∨ k = 6 ∨ k = 7 ∨ k = 8 ∨ k = 9 ∨ k = 10 ∨ k = 11 ∨ k = 12 ∨ k = 13 ∨ k = 14 := by omega
theorem numAt_head {w : World} {z : Nat} {c : Cf} {lv : Value} (h : w.heap[z]? = some (.cells (docCs c lv) 81 (0, 0))) {k : Nat} (hk : k < 4) : NumAt w (adr z (hks k)) (headNs c k) := by
  rcases four hk with rfl | rfl | rfl | rfl
  · refine ⟨rfl, fun j hj => ?_⟩
    have hj : j < 9 := hj
    rcases nat9 hj with rfl | rfl | rfl | rfl | rfl | rfl | rfl | rfl | rfl <;> exact cell_box h rfl
  · refine ⟨rfl, fun j hj => ?_⟩
    have hj : j < 3 := hj
    have : j = 0 ∨ j = 1 ∨ j = 2 := by omega
    rcases this with rfl | rfl | rfl <;> exact cell_box h rfl
  · refine ⟨rfl, fun j hj => ?_⟩
    have hj : j < 3 := hj
    have : j = 0 ∨ j = 1 ∨ j = 2 := by omega
    rcases this with rfl | rfl | rfl <;> exact cell_box h rfl
  · refine ⟨rfl, fun j hj => ?_⟩
    have hj : j < 2 := hj
    have : j = 0 ∨ j = 1 := by omega
    rcases this with rfl | rfl <;> exact cell_box h rfl
theorem numAt_fade {w : World} {z : Nat} {a b c d e : Int} (h : w.heap[z]? = some (.cells #[.int .i64 a, .int .i64 b, .int .i64 c, .int .i64 d, .int .i64 e] 86 (0, 0))) : NumAt w (adr z [0, 1, 2, 3, 4]) [a, b, c, d, e] := by
  refine ⟨rfl, fun j hj => ?_⟩
  have hj : j < 5 := hj
  have : j = 0 ∨ j = 1 ∨ j = 2 ∨ j = 3 ∨ j = 4 := by omega
  rcases this with rfl | rfl | rfl | rfl | rfl <;> exact cell_box h rfl
theorem numAt_pkt {w : World} {z : Nat} {a b c d : Int} {v : Value} (h : w.heap[z]? = some (.cells #[.int .i64 a, .int .i64 b, .int .i64 c, .int .i64 d, v] 49 (0, 0))) : NumAt w (adr z [0, 1, 2, 3]) [a, b, c, d] := by
  refine ⟨rfl, fun j hj => ?_⟩
  have hj : j < 4 := hj
  rcases four hj with rfl | rfl | rfl | rfl <;> exact cell_box h rfl
def tks : List Nat := [0, 1, 13, 4, 5, 6, 7, 8, 9, 10, 11, 12]
theorem numAt_term {w : World} {z : Nat} {t : Te} (h : w.heap[z]? = some (.cells (tcs t).toArray 57 (0, 0))) : NumAt w (adr z tks) (teL' t) := by
  refine ⟨rfl, fun j hj => ?_⟩
  have hj : j < 12 := hj
  have : j = 0 ∨ j = 1 ∨ j = 2 ∨ j = 3 ∨ j = 4 ∨ j = 5 ∨ j = 6 ∨ j = 7 ∨ j = 8 ∨ j = 9 ∨ j = 10 ∨ j = 11 := by omega
  rcases this with rfl | rfl | rfl | rfl | rfl | rfl | rfl | rfl | rfl | rfl | rfl | rfl <;> exact cell_box h rfl
def bcs (r : BeR) : List Value := [.int .i64 r.mo, .int .i64 r.co, .int .i64 r.wi, .int .i64 r.bi, .int .i64 r.wa, .int .i64 r.b, .int .i64 r.e, .int .i64 r.p, .int .i64 r.v, .int .i64 r.q, .int .i64 r.t]
def bks (k : Nat) : List Nat := [k, k + 1, k + 2, k + 3]
theorem numAt_bear {w : World} {z b o : Nat} {r : BeR} {p q m k : Int} (h : w.heap[z]? = some (.cells (bcs r).toArray 71 (0, 0))) (h0 : w.cell? ⟨b, o, none⟩ = some (.int .i64 p)) (h1 : w.cell? ⟨b, o + 1, none⟩ = some (.int .i64 q)) (h2 : w.cell? ⟨b, o + 2, none⟩ = some (.int .i64 m)) (h3 : w.cell? ⟨b, o + 3, none⟩ = some (.int .i64 k)) :
    NumAt w (adr z [0, 1, 2, 3, 4, 5, 6, 7, 8, 9, 10] ++ adr b [o, o + 1, o + 2, o + 3]) (beL r p q m k) := by
  refine ⟨rfl, fun j hj => ?_⟩
  have hj : j < 15 := hj
  rcases nat15 hj with rfl | rfl | rfl | rfl | rfl | rfl | rfl | rfl | rfl | rfl | rfl | rfl | rfl | rfl | rfl
  · exact cell_box h rfl
  · exact cell_box h rfl
  · exact cell_box h rfl
  · exact cell_box h rfl
  · exact cell_box h rfl
  · exact cell_box h rfl
  · exact cell_box h rfl
  · exact cell_box h rfl
  · exact cell_box h rfl
  · exact cell_box h rfl
  · exact cell_box h rfl
  · exact h0
  · exact h1
  · exact h2
  · exact h3
theorem range_be {w : World} {b o : Nat} {r : BeR} (h : w.cell? ⟨b, o, none⟩ = some (.int .i64 r.mo) ∧ w.cell? ⟨b, o + 1, none⟩ = some (.int .i64 r.co) ∧ w.cell? ⟨b, o + 2, none⟩ = some (.int .i64 r.wi) ∧ w.cell? ⟨b, o + 3, none⟩ = some (.int .i64 r.bi) ∧ w.cell? ⟨b, o + 4, none⟩ = some (.int .i64 r.wa) ∧ w.cell? ⟨b, o + 5, none⟩ = some (.int .i64 r.b) ∧ w.cell? ⟨b, o + 6, none⟩ = some (.int .i64 r.e) ∧ w.cell? ⟨b, o + 7, none⟩ = some (.int .i64 r.p) ∧ w.cell? ⟨b, o + 8, none⟩ = some (.int .i64 r.v) ∧ w.cell? ⟨b, o + 9, none⟩ = some (.int .i64 r.q) ∧ w.cell? ⟨b, o + 10, none⟩ = some (.int .i64 r.t)) : w.rangeAt b o (bcs r) := fun j v hv => by
  have hj : j < 11 := (List.getElem?_eq_some_iff.1 hv).1
  obtain ⟨q0, q1, q2, q3, q4, q5, q6, q7, q8, q9, q10⟩ := h
  have : j = 0 ∨ j = 1 ∨ j = 2 ∨ j = 3 ∨ j = 4 ∨ j = 5 ∨ j = 6 ∨ j = 7 ∨ j = 8 ∨ j = 9 ∨ j = 10 := by omega
  rcases this with rfl | rfl | rfl | rfl | rfl | rfl | rfl | rfl | rfl | rfl | rfl
  · injection hv with hv; subst hv; exact q0
  · injection hv with hv; subst hv; exact q1
  · injection hv with hv; subst hv; exact q2
  · injection hv with hv; subst hv; exact q3
  · injection hv with hv; subst hv; exact q4
  · injection hv with hv; subst hv; exact q5
  · injection hv with hv; subst hv; exact q6
  · injection hv with hv; subst hv; exact q7
  · injection hv with hv; subst hv; exact q8
  · injection hv with hv; subst hv; exact q9
  · injection hv with hv; subst hv; exact q10
theorem one_doc (c : Cf) : (docCs c (.slice none 0 0)).all (·.oneCell') = true := by
  refine all_oneCell_toArray fun v hv => ?_
  simp only [cfs, List.cons_append, List.nil_append, List.mem_cons, List.not_mem_nil, or_false] at hv
  rcases hv with rfl | rfl | rfl | rfl | rfl | rfl | rfl | rfl | rfl | rfl | rfl | rfl | rfl | rfl | rfl | rfl | rfl | rfl | rfl | rfl | rfl <;> rfl
theorem bx_whole {w : World} {z e : Nat} {fz : Nat × Nat} {cs : Array Value} (vs : Array Value) (h : w.heap[z]? = some (.cells cs e fz)) (hs : vs.size = cs.size) : (w.setCells z 0 vs.toList).heap[z]? = some (.cells vs e fz) := by
  rw [bx_cells_same _ _ h, setFrom_all (by simpa using hs)]
/-! ### A line with the pointers that a function hands back -/
theorem fade29' (z : Nat) (W : World) : Calls Tryz.prog 29 #[.pointer (some ⟨z, 0, none⟩)] W fun e w' => e = .returned (.slice (some ⟨W.heap.size, 0, none⟩) 5 5) ∧ PtrAt w' W.heap.size (adr z [0, 1, 2, 3, 4]) ∧ Below W.heap.size W w' ∧ w'.heap.size = W.heap.size + 1 :=
  (fade29 z 0 W).mono fun e w' ⟨h1, h2, h3, h4⟩ => ⟨h1, by simpa using h2, h3, h4⟩
theorem term30' (z : Nat) (W : World) : Calls Tryz.prog 30 #[.pointer (some ⟨z, 0, none⟩)] W fun e w' => e = .returned (.slice (some ⟨W.heap.size, 0, none⟩) 12 12) ∧ PtrAt w' W.heap.size (adr z tks) ∧ Below W.heap.size W w' ∧ w'.heap.size = W.heap.size + 1 :=
  (terminal30 z 0 W).mono fun e w' ⟨h1, h2, h3, h4⟩ => ⟨h1, by simpa [tks] using h2, h3, h4⟩
theorem bear31' (z b o : Nat) (W : World) : Calls Tryz.prog 31 #[.pointer (some ⟨z, 0, none⟩), .pointer (some ⟨b, o, none⟩)] W fun e w' => e = .returned (.slice (some ⟨W.heap.size, 0, none⟩) 15 15) ∧ PtrAt w' W.heap.size (adr z [0, 1, 2, 3, 4, 5, 6, 7, 8, 9, 10] ++ adr b [o, o + 1, o + 2, o + 3]) ∧ Below W.heap.size W w' ∧ w'.heap.size = W.heap.size + 1 :=
  (bearer31 z 0 b o W).mono fun e w' ⟨h1, h2, h3, h4⟩ => ⟨h1, by simpa using h2, h3, h4⟩
theorem line27f (b z : Nat) (ns : List Int) (w : World) (G : Gl w) (HP : PtrAt w b (adr z [0, 1, 2, 3, 4])) (HN : NumAt w (adr z [0, 1, 2, 3, 4]) ns) (hns : I64s ns) : Calls Tryz.prog 27 #[.int .i64 4, .slice (some ⟨b, 0, none⟩) 5 5] w fun e w' => e = .returned (.string (bs (lineS wFade ns))) ∧ Below w.heap.size w w' := by
  have e : (adr z [0, 1, 2, 3, 4]).length = 5 := rfl
  have h := line27 4 (by decide) b _ ns w G HP HN hns.weak (by have := HN.1; omega)
  rw [e] at h
  exact h
theorem line27t (b z : Nat) (ns : List Int) (w : World) (G : Gl w) (HP : PtrAt w b (adr z tks)) (HN : NumAt w (adr z tks) ns) (hns : I64s ns) : Calls Tryz.prog 27 #[.int .i64 5, .slice (some ⟨b, 0, none⟩) 12 12] w fun e w' => e = .returned (.string (bs (lineS wTerminal ns))) ∧ Below w.heap.size w w' := by
  have e : (adr z tks).length = 12 := rfl
  have h := line27 5 (by decide) b _ ns w G HP HN hns.weak (by have := HN.1; omega)
  rw [e] at h
  exact h
theorem line27b (b z x o : Nat) (ns : List Int) (w : World) (G : Gl w) (HP : PtrAt w b (adr z [0, 1, 2, 3, 4, 5, 6, 7, 8, 9, 10] ++ adr x [o, o + 1, o + 2, o + 3])) (HN : NumAt w (adr z [0, 1, 2, 3, 4, 5, 6, 7, 8, 9, 10] ++ adr x [o, o + 1, o + 2, o + 3]) ns) (hns : I64s ns) : Calls Tryz.prog 27 #[.int .i64 6, .slice (some ⟨b, 0, none⟩) 15 15] w fun e w' => e = .returned (.string (bs (lineS wBearer ns))) ∧ Below w.heap.size w w' := by
  have e : (adr z [0, 1, 2, 3, 4, 5, 6, 7, 8, 9, 10] ++ adr x [o, o + 1, o + 2, o + 3]).length = 15 := rfl
  have h := line27 6 (by decide) b _ ns w G HP HN hns.weak (by have := HN.1; omega)
  rw [e] at h
  exact h
theorem line27p (b z : Nat) (ns : List Int) (w : World) (G : Gl w) (HP : PtrAt w b (adr z [0, 1, 2, 3])) (HN : NumAt w (adr z [0, 1, 2, 3]) ns) (hns : I64s ns) : Calls Tryz.prog 27 #[.int .i64 7, .slice (some ⟨b, 0, none⟩) 4 4] w fun e w' => e = .returned (.string (bs (lineS wPacket ns))) ∧ Below w.heap.size w w' := by
  have e : (adr z [0, 1, 2, 3]).length = 4 := rfl
  have h := line27 7 (by decide) b _ ns w G HP HN hns.weak (by have := HN.1; omega)
  rw [e] at h
  exact h
set_option maxRecDepth 100000 in
set_option maxHeartbeats 16000000 in
theorem fmt16 (c : Cf) (X : Nat → Ch.Fd) (T : Nat → Te) (a : Option Addr) (n cc : Nat) (Q : Nat → Tr) (w : World) (G : Gl w) (H : CfIn w c X T) (HQ : TrR w a n Q) (hn : n ≤ maxLen) (hN : chkM c X T n Q = 0 → NumN c X T n Q) (hs : (textS (docOf c X T n Q)).length ≤ 1000000) (hs2 : (catL (textS (docOf c X T n Q))).length ≤ 90000000) :
    Calls Tryz.prog 16 #[cfv c, .slice a n cc] w fun e w' => e = .returned (.tuple #[.string (bs (if chkM c X T n Q = 0 then catL (textS (docOf c X T n Q)) else [])), .int .i64 (chkM c X T n Q)]) ∧ Below w.heap.size w w' := by
  have hb0 : Below w.heap.size w (w.alloc (.cells (cfs c).toArray 37)) := (Below.refl _ _).alloc (Nat.le_refl _) _
  have hv0 := vat_list w (cfs c) 37 20 (ccell c) (cc_at c)
  have HM := Lib.hid (linesOf c X T n Q)
  have HM4 := Lib.hid (textS_len (docOf c X T n Q))
  generalize textS (docOf c X T n Q) = M at *
  have hlen := HM.out.len
  have HML := Lib.hid hlen
  rw [hlen] at hs
  have HML2 := Lib.hid hs
  have HCL := Lib.hid hs2
  clear hs hlen hs2
  have K26 := Lib.hid (check26 c X T a n cc Q)
  unfold cfv at K26 ⊢
  have HB := Lib.hid hb0
  have HR := Lib.hid (range_cf hv0)
  have HH := Lib.hid H
  have HHQ := Lib.hid HQ
  have HN := Lib.hid hN
  have HG := Lib.hid G
  clear hb0 hv0 H HQ hN G
  go_enter Tryz.func16, Tryz.ntmps16
  go_upto_region 1 with fail
  have HZ1 := Lib.hid (show w.heap.size < (w.alloc (.cells (cfs c).toArray 37)).heap.size by simp)
  generalize w.alloc (.cells (cfs c).toArray 37) = w1 at *
  go_wp2_with (first | (refine wpList_load_mid rfl 37 (.tmp 2) rfl w.heap.size 0 rfl (cfs c) _ HR.out Tryz.underlying37 rfl (by kernel_rfl) ?_) | (go_at_call 26; refine (K26.out _ (HH.out.mono HB.out) (HHQ.out.mono HB.out) hn).mono ?_; rintro e w2 ⟨rfl, hb2⟩; have HB2 := Lib.hid (bthen' HB.out hb2); have HR2 := Lib.hid (show w2.rangeAt w.heap.size 0 (cfs c) from fun j v hv => (hb2.cell (World.block_lt_of_cell? _ _ (HR.out j v hv))).trans (HR.out j v hv)); have HZ2 := Lib.hid (Nat.lt_of_lt_of_le HZ1.out hb2.size); clear hb2; refine Hid.out ?_))
  refine Lib.hid ?_
  clear K26
  by_cases h0 : chkM c X T n Q = 0
  · have HZ := Lib.hid h0
    have HN := Lib.hid (HN.out h0)
    rw [h0]
    clear h0
    have hz3 := (MapKept.heap_alloc w2 (.cells #[.int .i64 0, .int .i64 0, .int .i64 0, .int .i64 0, .int .i64 0, .int .i64 0, .int .i64 0, .int .i64 0, .int .i64 0, .int .i64 0, .int .i64 0, .int .i64 0, .int .i64 0, .int .i64 0, .int .i64 0, .int .i64 0, .int .i64 0, .int .i64 0, .slice none 0 0, .slice none 0 0, .slice none 0 0] 81)).1
    have ht3 : (w2.alloc (.cells #[.int .i64 0, .int .i64 0, .int .i64 0, .int .i64 0, .int .i64 0, .int .i64 0, .int .i64 0, .int .i64 0, .int .i64 0, .int .i64 0, .int .i64 0, .int .i64 0, .int .i64 0, .int .i64 0, .int .i64 0, .int .i64 0, .int .i64 0, .int .i64 0, .slice none 0 0, .slice none 0 0, .slice none 0 0] 81)).there w2.heap.size 0 (#[.int .i64 (c.h 0), .int .i64 (c.h 1), .int .i64 (c.h 2), .int .i64 (c.h 3), .int .i64 (c.h 4), .int .i64 (c.h 5), .int .i64 (c.h 6), .int .i64 (c.h 7), .int .i64 (c.h 8), .int .i64 (c.h 9), .int .i64 (c.h 10), .int .i64 (c.h 11), .int .i64 (c.h 12), .int .i64 (c.h 13), .int .i64 (c.h 14), .int .i64 (c.h 15), .int .i64 (c.h 16), .int .i64 (c.h 17), .slice c.fa c.fn c.fc, .slice c.ta c.tn c.tc, .slice none 0 0] : Array Value).size := by have h := bx_there hz3; exact h
    have hz4 : ((w2.alloc (.cells #[.int .i64 0, .int .i64 0, .int .i64 0, .int .i64 0, .int .i64 0, .int .i64 0, .int .i64 0, .int .i64 0, .int .i64 0, .int .i64 0, .int .i64 0, .int .i64 0, .int .i64 0, .int .i64 0, .int .i64 0, .int .i64 0, .int .i64 0, .int .i64 0, .slice none 0 0, .slice none 0 0, .slice none 0 0] 81)).setCells w2.heap.size 0 (#[.int .i64 (c.h 0), .int .i64 (c.h 1), .int .i64 (c.h 2), .int .i64 (c.h 3), .int .i64 (c.h 4), .int .i64 (c.h 5), .int .i64 (c.h 6), .int .i64 (c.h 7), .int .i64 (c.h 8), .int .i64 (c.h 9), .int .i64 (c.h 10), .int .i64 (c.h 11), .int .i64 (c.h 12), .int .i64 (c.h 13), .int .i64 (c.h 14), .int .i64 (c.h 15), .int .i64 (c.h 16), .int .i64 (c.h 17), .slice c.fa c.fn c.fc, .slice c.ta c.tn c.tc, .slice none 0 0] : Array Value).toList).heap[w2.heap.size]? = some (.cells (docCs c (.slice none 0 0)) 81 (0, 0)) := bx_whole (docCs c (.slice none 0 0)) hz3 rfl
    have hb4 : Below w2.heap.size w2 ((w2.alloc (.cells #[.int .i64 0, .int .i64 0, .int .i64 0, .int .i64 0, .int .i64 0, .int .i64 0, .int .i64 0, .int .i64 0, .int .i64 0, .int .i64 0, .int .i64 0, .int .i64 0, .int .i64 0, .int .i64 0, .int .i64 0, .int .i64 0, .int .i64 0, .int .i64 0, .slice none 0 0, .slice none 0 0, .slice none 0 0] 81)).setCells w2.heap.size 0 (#[.int .i64 (c.h 0), .int .i64 (c.h 1), .int .i64 (c.h 2), .int .i64 (c.h 3), .int .i64 (c.h 4), .int .i64 (c.h 5), .int .i64 (c.h 6), .int .i64 (c.h 7), .int .i64 (c.h 8), .int .i64 (c.h 9), .int .i64 (c.h 10), .int .i64 (c.h 11), .int .i64 (c.h 12), .int .i64 (c.h 13), .int .i64 (c.h 14), .int .i64 (c.h 15), .int .i64 (c.h 16), .int .i64 (c.h 17), .slice c.fa c.fn c.fc, .slice c.ta c.tn c.tc, .slice none 0 0] : Array Value).toList) := ((Below.refl w2.heap.size w2).alloc (Nat.le_refl _) _).trans (bx_cells_base (Nat.le_refl _) _ _ _)
    have HZ3 := Lib.hid hz4
    have HB3 := Lib.hid hb4
    clear hz3 hz4 hb4
    go_upto_region 5 with (first | (refine wpList_load_mid rfl 37 (.tmp 2) rfl w.heap.size 0 rfl (cfs c) _ HR2.out Tryz.underlying37 rfl (by kernel_rfl) ?_; rw [cfs_arr]) | (refine wpList_store_mid rfl 81 (.tmp 7) (.tmp 25) rfl w2.heap.size 0 #[.int .i64 (c.h 0), .int .i64 (c.h 1), .int .i64 (c.h 2), .int .i64 (c.h 3), .int .i64 (c.h 4), .int .i64 (c.h 5), .int .i64 (c.h 6), .int .i64 (c.h 7), .int .i64 (c.h 8), .int .i64 (c.h 9), .int .i64 (c.h 10), .int .i64 (c.h 11), .int .i64 (c.h 12), .int .i64 (c.h 13), .int .i64 (c.h 14), .int .i64 (c.h 15), .int .i64 (c.h 16), .int .i64 (c.h 17), .slice c.fa c.fn c.fc, .slice c.ta c.tn c.tc, .slice none 0 0] rfl rfl ht3 (by kernel_rfl) (one_doc c) ?_))
    clear ht3
    have hz4 := HZ3.out
    have hb4 := HB3.out
    clear HZ3 HB3
    have hs4 := heap_lt hz4
    generalize (w2.alloc (.cells #[.int .i64 0, .int .i64 0, .int .i64 0, .int .i64 0, .int .i64 0, .int .i64 0, .int .i64 0, .int .i64 0, .int .i64 0, .int .i64 0, .int .i64 0, .int .i64 0, .int .i64 0, .int .i64 0, .int .i64 0, .int .i64 0, .int .i64 0, .int .i64 0, .slice none 0 0, .slice none 0 0, .slice none 0 0] 81)).setCells w2.heap.size 0 (#[.int .i64 (c.h 0), .int .i64 (c.h 1), .int .i64 (c.h 2), .int .i64 (c.h 3), .int .i64 (c.h 4), .int .i64 (c.h 5), .int .i64 (c.h 6), .int .i64 (c.h 7), .int .i64 (c.h 8), .int .i64 (c.h 9), .int .i64 (c.h 10), .int .i64 (c.h 11), .int .i64 (c.h 12), .int .i64 (c.h 13), .int .i64 (c.h 14), .int .i64 (c.h 15), .int .i64 (c.h 16), .int .i64 (c.h 17), .slice c.fa c.fn c.fc, .slice c.ta c.tn c.tc, .slice none 0 0] : Array Value).toList = w4 at *
    have HB4 := Lib.hid (bthen' HB2.out hb4)
    have HZ4 := Lib.hid hz4
    have HS4 := Lib.hid (show w2.heap.size < w4.heap.size from hs4)
    have HRX := Lib.hid (show ∀ u, Below w4.heap.size w4 u → ∀ k v, (cfs c)[k]? = some v → u.cell? ⟨w.heap.size, k, none⟩ = some v from fun u hb k v hv => by
      have h1 := HR2.out k v hv
      rw [Nat.zero_add] at h1
      have h2 := (hb4.cell (p := ⟨w.heap.size, k, none⟩) HZ2.out).trans h1
      exact (hb.cell (p := ⟨w.heap.size, k, none⟩) (by show w.heap.size < w4.heap.size; have := HZ2.out; omega)).trans h2)
    have HBW := Lib.hid (show ∀ u, Below w4.heap.size w4 u → Below w.heap.size w u from fun u hb => HB4.out.trans (hb.mono HB4.out.size))
    have HGW := Lib.hid (show ∀ u, Below w4.heap.size w4 u → Gl u from fun u hb => HG.out.mono (HBW.out u hb))
    clear hz4 hb4 hs4 HR2 HB2 HR HB HZ1 HZ2
    generalize w2.heap.size = z at *
    generalize hS : w.heap.size = S0 at *
    have HSS := Lib.hid hS
    clear hS
    go_wp2
    go_loopw [8, 26] (fun r i wr => ∃ (k : Nat) (rv : Value), k ≤ 4 ∧ rv = r ∧ i = .int .i64 k ∧ wr.ownsRow w4.heap.size 9 1 rv k ((List.range k).map (strv M)) ∧ Below w4.heap.size w4 wr) (fun _ i _ => 4 - (intOf i).toNat)
    case atStart => exact ⟨0, _, Nat.zero_le _, rfl, rfl, World.ownsRow_nil _ _ _ _, Below.refl _ _⟩
    case round =>
      obtain ⟨k, rv, hk, rfl, rfl, hown, hbr⟩ := hrel
      have HO := Lib.hid hown
      have HBr := Lib.hid hbr
      clear hown hbr
      by_cases hlt : k < 4
      · have HF2 := Lib.hid (strv_of (HM.out.head hlt))
        go_wp2_with (go_at_call 28; refine (head28_any z k hlt _).mono ?_; rintro e w5 ⟨rfl, hp5, hb5, hs5⟩; refine Hid.out ?_)
        refine Lib.hid ?_
        have hB5 := bthen' HBr.out hb5
        have K27 := line27 k (by omega) wr.heap.size (adr z (hks k)) (headNs c k) w5 (HGW.out _ hB5) hp5 (numAt_head ((hB5.block z HS4.out).trans HZ4.out) hlt) (headNs_num HN.out.h hlt) (headNs_len c hlt)
        rw [adr_len, hks_len] at K27
        have K27 := Lib.hid K27
        have HB5 := Lib.hid hB5
        have HO5 := Lib.hid (own_below HO.out hb5)
        clear hp5 hb5 hs5 hB5
        go_wp2_with (go_at_call 27; refine K27.out.mono ?_; rintro e w6 ⟨rfl, hb6⟩; have HBa := Lib.hid (bthen' HB5.out hb6); have HOa := Lib.hid (own_below HO5.out hb6); clear hb6; refine Hid.out ?_)
        refine Lib.hid ?_
        clear K27 HB5 HO5
        go_wp2_with (at_builtin; refine wpList_append1 w6 w4 w4.heap.size rfl _ _ 77 rfl 9 (.string ⟨#[]⟩) 16 Tryz.underlying77 pz9 rfl (by decide) rv k (strv M) rfl _ rfl HOa.out HBa.out HBa.out.size HF2.out.symm rfl (by omega) ?_; intro v7 w7 hown hB7 _ _ _; refine Hid.out ?_)
        refine Lib.hid ?_
        go_wp2
        go_roundw
        case rel => exact ⟨k + 1, _, by omega, rfl, by go_num, hown, hB7⟩
        case measure => simp [intOf] <;> omega
      · have hc18 : wr.cell? ⟨S0, 18, none⟩ = some (.slice c.fa c.fn c.fc) := HRX.out _ HBr.out 18 _ rfl
        have HO2 := Lib.hid (show wr.ownsRow w4.heap.size 9 1 rv (4 + 0) ((List.range (4 + 0)).map (strv M)) from (show k = 4 + 0 by omega) ▸ HO.out)
        clear HO
        go_wp2
        go_loopw [8, 11, 40] (fun r _ i wr => ∃ (j : Nat) (rv : Value), j ≤ c.fn ∧ rv = r ∧ i = .int .i64 j ∧ wr.ownsRow w4.heap.size 9 1 rv (4 + j) ((List.range (4 + j)).map (strv M)) ∧ Below w4.heap.size w4 wr) (fun _ _ i _ => c.fn - (intOf i).toNat)
        case atStart => exact ⟨0, _, Nat.zero_le _, rfl, rfl, HO2.out, HBr.out⟩
        case round =>
          clear HO2 HBr hc18
          obtain ⟨j, rv1, hj, rfl, rfl, hown, hbr⟩ := hrel
          have HO := Lib.hid hown
          have HBr := Lib.hid hbr
          clear hown hbr
          by_cases hlt : j < c.fn
          · obtain ⟨b, m, h1, h2⟩ := HH.out.f.mono (HSS.out ▸ HBW.out _ HBr.out)
            have hfa : c.fa = some ⟨b, m, none⟩ := h1 (by omega)
            obtain ⟨c0, c1, c2, c3, c4⟩ := h2 j hlt
            have HF2 := Lib.hid (strv_of (HM.out.f j hlt))
            have HF3 := Lib.hid (HN.out.f j hlt)
            have hML2 := HML2.out
            clear h1 h2
            unfold fdL at HF2 HF3
            generalize (X j).t = x0 at *
            generalize (X j).c = x1 at *
            generalize (X j).f = x2 at *
            generalize (X j).g = x3 at *
            generalize (X j).n = x4 at *
            have hz5 := (MapKept.heap_alloc wr (.cells #[.int .i64 x0, .int .i64 x1, .int .i64 x2, .int .i64 x3, .int .i64 x4] 86)).1
            have hbA : Below wr.heap.size wr (wr.alloc (.cells #[.int .i64 x0, .int .i64 x1, .int .i64 x2, .int .i64 x3, .int .i64 x4] 86)) := (Below.refl _ _).alloc (Nat.le_refl _) _
            have HZ5 := Lib.hid hz5
            have HBA := Lib.hid (bthen' HBr.out hbA)
            have HOA := Lib.hid (own_below HO.out hbA)
            have HSA := Lib.hid (show (wr.alloc (.cells #[.int .i64 x0, .int .i64 x1, .int .i64 x2, .int .i64 x3, .int .i64 x4] 86)).heap.size = wr.heap.size + 1 by simp)
            clear hz5 hbA HO HBr
            rw [hfa]
            go_wp2_with (go_at_call 29; refine (fade29' _ _).mono ?_; rintro e w5 ⟨rfl, hp5, hb5, hs5⟩; refine Hid.out ?_)
            refine Lib.hid ?_
            rw [HSA.out] at hp5
            have hB5 := bthen' HBA.out hb5
            have K27 := Lib.hid (line27f _ _ [x0, x1, x2, x3, x4] w5 (HGW.out _ hB5) hp5 (numAt_fade ((hb5.block wr.heap.size (by rw [HSA.out]; omega)).trans HZ5.out)) HF3.out)
            have HB5 := Lib.hid hB5
            have HO5 := Lib.hid (own_below HOA.out hb5)
            clear hp5 hb5 hs5 hB5 HBA HOA HZ5 c0 c1 c2 c3 c4
            go_wp2_with (go_at_call 27; refine K27.out.mono ?_; rintro e w6 ⟨rfl, hb6⟩; have HBa := Lib.hid (bthen' HB5.out hb6); have HOa := Lib.hid (own_below HO5.out hb6); clear hb6; refine Hid.out ?_)
            refine Lib.hid ?_
            clear K27 HB5 HO5 HSA
            go_wp2_with (at_builtin; refine wpList_append1 w6 w4 w4.heap.size rfl _ _ 77 rfl 9 (.string ⟨#[]⟩) 16 Tryz.underlying77 pz9 rfl (by decide) rv1 (4 + j) (strv M) rfl _ rfl HOa.out HBa.out HBa.out.size HF2.out.symm rfl (by omega) ?_; intro v7 w7 hown hB7 _ _ _; refine Hid.out ?_)
            refine Lib.hid ?_
            go_wp2
            go_roundw
            case rel => exact ⟨j + 1, _, by omega, rfl, by go_num, hown, hB7⟩
            case measure => simp [intOf] <;> omega
          · obtain rfl : j = c.fn := by omega
            have hc19 : wr.cell? ⟨S0, 19, none⟩ = some (.slice c.ta c.tn c.tc) := HRX.out _ HBr.out 19 _ rfl
            have HO2 := Lib.hid (show wr.ownsRow w4.heap.size 9 1 rv1 (4 + c.fn + tpos T 0) ((List.range (4 + c.fn + tpos T 0)).map (strv M)) from HO.out)
            clear HO
            go_wp2
            go_loopw [8, 13, 14, 15, 53] (fun r _ _ _ i wr => ∃ (k : Nat) (rv : Value), k ≤ c.tn ∧ rv = r ∧ i = .int .i64 k ∧ wr.ownsRow w4.heap.size 9 1 rv (4 + c.fn + tpos T k) ((List.range (4 + c.fn + tpos T k)).map (strv M)) ∧ Below w4.heap.size w4 wr) (fun _ _ _ _ i _ => c.tn - (intOf i).toNat)
            case atStart => exact ⟨0, _, Nat.zero_le _, rfl, rfl, HO2.out, HBr.out⟩
            case round =>
              clear HO2 HBr hc19
              obtain ⟨k, rv2, hk, rfl, rfl, hown, hbr⟩ := hrel
              have HO := Lib.hid hown
              have HBr := Lib.hid hbr
              clear hown hbr
              by_cases hlt : k < c.tn
              · have hkb : k + 1 ≤ 1000000 := by have h5 := tpos_ge T c.tn; have h6 := HML2.out; omega
                obtain ⟨b, m, h1, h2⟩ := HH.out.t
                have hta : c.ta = some ⟨b, m, none⟩ := h1 (by omega)
                obtain ⟨hct, hti⟩ := h2 k hlt
                have HTI := Lib.hid (show TeIn w (T k) from hti)
                have HRT := Lib.hid (range_te fun q hq => up (HSS.out ▸ HBW.out _ HBr.out) (hct q hq))
                have HF2 := Lib.hid (strv_of (HM.out.t k hlt))
                have HFB := Lib.hid (fun j hj => strv_of (HM.out.b k j hlt hj))
                have HF3 := Lib.hid (HN.out.t k hlt)
                have HFB3 := Lib.hid (fun j hj => HN.out.b k j hlt hj)
                have HKN := Lib.hid (HN.out.e k hlt)
                have HTP := Lib.hid (show tpos T (k + 1) = tpos T k + (1 + (T k).bn) from rfl)
                have hbd : 4 + c.fn + tpos T k + 1 + (T k).bn ≤ 1000000 := by
                  have h5 := tpos_mono T (show k + 1 ≤ c.tn from hlt)
                  have h6 := HML2.out
                  have h7 := HTP.out
                  omega
                rw [hta]
                clear h1 h2 hct hti hta
                generalize T k = t at *
                have hst : (storeCells ⟨wr.heap.size, 0, none⟩ (tcs t) 0).run Tryz.prog (wr.alloc (.cells #[.int .i64 0, .int .i64 0, .slice none 0 0, .slice none 0 0, .int .i64 0, .int .i64 0, .int .i64 0, .int .i64 0, .int .i64 0, .int .i64 0, .int .i64 0, .int .i64 0, .int .i64 0, .int .i64 0] 57)) = .ok () (wr.alloc (.cells (tcs t).toArray 57)) := run_storeCells_new wr 57 _ (tcs t).toArray (by kernel_rfl) rfl (by kernel_rfl)
                go_upto_region 19 with (refine wpList_load_mid rfl 57 (.tmp 55) rfl b (m + k * 14) rfl (tcs t) _ HRT.out Tryz.underlying57 rfl (by kernel_rfl) ?_)
                clear hst HRT
                have hz5 := (MapKept.heap_alloc wr (.cells (tcs t).toArray 57)).1
                have hb5 : Below wr.heap.size wr (wr.alloc (.cells (tcs t).toArray 57)) := (Below.refl _ _).alloc (Nat.le_refl _) _
                generalize wr.alloc (.cells (tcs t).toArray 57) = w5 at *
                have HZ5 := Lib.hid hz5
                have HB5 := Lib.hid (bthen' HBr.out hb5)
                have HO5 := Lib.hid (own_below HO.out hb5)
                clear hz5 hb5 HO HBr
                generalize wr.heap.size = zt at *
                go_wp2_with (go_at_call 30; refine (term30' _ _).mono ?_; rintro e w6 ⟨rfl, hp6, hb6, hs6⟩; refine Hid.out ?_)
                refine Lib.hid ?_
                have hB6 := bthen' HB5.out hb6
                have hz6 := (hb6.block zt (heap_lt HZ5.out)).trans HZ5.out
                have K27 := Lib.hid (line27t _ _ (teL' t) w6 (HGW.out _ hB6) hp6 (numAt_term hz6) HF3.out)
                have HB6 := Lib.hid hB6
                have HZ6 := Lib.hid hz6
                have HO6 := Lib.hid (own_below HO5.out hb6)
                clear hp6 hb6 hs6 hB6 hz6 HB5 HO5 HZ5
                go_wp2_with (go_at_call 27; refine K27.out.mono ?_; rintro e w7 ⟨rfl, hb7⟩; have HBa := Lib.hid (bthen' HB6.out hb7); have HOa := Lib.hid (own_below HO6.out hb7); have HZ7 := Lib.hid ((hb7.block zt (heap_lt HZ6.out)).trans HZ6.out); clear hb7; refine Hid.out ?_)
                refine Lib.hid ?_
                clear K27 HB6 HO6 HZ6
                go_wp2_with (at_builtin; refine wpList_append1 w7 w4 w4.heap.size rfl _ _ 77 rfl 9 (.string ⟨#[]⟩) 16 Tryz.underlying77 pz9 rfl (by decide) rv2 (4 + c.fn + tpos T k) (strv M) rfl _ rfl HOa.out HBa.out HBa.out.size HF2.out.symm rfl (by omega) ?_; intro v8 w8 hown8 hB8 _ _ hgr8; refine Hid.out ?_)
                refine Lib.hid ?_
                have HO8 := Lib.hid hown8
                have HB8 := Lib.hid hB8
                have hz8 := (hgr8.block zt (heap_lt HZ7.out) (fun h => own_ne HOa.out HZ7.out (by decide) h.symm rfl)).trans HZ7.out
                have HZ8 := Lib.hid hz8
                have hc2 := cell_box hz8 (k := 2) (v := .slice t.ba t.bn t.bc) rfl
                clear hown8 hB8 hgr8 hz8 HOa HBa HZ7
                go_wp2
                clear hc2
                go_loopw [8, 14, 15, 65] (fun r _ _ i wr => ∃ (j : Nat) (rv : Value), j ≤ t.bn ∧ rv = r ∧ i = .int .i64 j ∧ wr.ownsRow w4.heap.size 9 1 rv (4 + c.fn + tpos T k + 1 + j) ((List.range (4 + c.fn + tpos T k + 1 + j)).map (strv M)) ∧ Below w4.heap.size w4 wr ∧ wr.heap[zt]? = some (.cells (tcs t).toArray 57 (0, 0))) (fun _ _ _ i _ => t.bn - (intOf i).toNat)
                case atStart => exact ⟨0, _, Nat.zero_le _, rfl, rfl, HO8.out, HB8.out, HZ8.out⟩
                case round =>
                  clear HO8 HB8 HZ8
                  obtain ⟨j, rv3, hj, rfl, rfl, hown, hbr, hzt⟩ := hrel
                  have HO := Lib.hid hown
                  have HBr := Lib.hid hbr
                  have HZt := Lib.hid hzt
                  clear hown hbr hzt
                  by_cases hlt2 : j < t.bn
                  · obtain ⟨b', m', h1, h2⟩ := HTI.out.b.mono (HSS.out ▸ HBW.out _ HBr.out)
                    have hba : t.ba = some ⟨b', m', none⟩ := h1 (by omega)
                    have HRB := Lib.hid (range_be (h2 j hlt2))
                    obtain ⟨b2, m2, hk1, hk2⟩ := HTI.out.k.mono (HSS.out ▸ HBW.out _ HBr.out)
                    have hka : t.ka = some ⟨b2, m2, none⟩ := hk1 (by have := HKN.out; omega)
                    obtain ⟨k0, k1, k2, k3⟩ := hk2 j (by have := HKN.out; omega)
                    have HK4 := Lib.hid (⟨k0, k1, k2, k3⟩ : _ ∧ _ ∧ _ ∧ _)
                    have HF4 := Lib.hid (HFB.out j hlt2)
                    have HF5 := Lib.hid (HFB3.out j hlt2)
                    have HKA := Lib.hid hka
                    rw [hba]
                    clear h1 h2 hk1 hk2 hba hka k0 k1 k2 k3
                    have hst : (storeCells ⟨wr.heap.size, 0, none⟩ (bcs (t.be j)) 0).run Tryz.prog (wr.alloc (.cells #[.int .i64 0, .int .i64 0, .int .i64 0, .int .i64 0, .int .i64 0, .int .i64 0, .int .i64 0, .int .i64 0, .int .i64 0, .int .i64 0, .int .i64 0] 71)) = .ok () (wr.alloc (.cells (bcs (t.be j)).toArray 71)) := run_storeCells_new wr 71 _ (bcs (t.be j)).toArray (by kernel_rfl) rfl (by kernel_rfl)
                    go_upto_region 23 with (refine wpList_load_mid rfl 71 (.tmp 68) rfl b' (m' + j * 11) rfl (bcs (t.be j)) _ HRB.out Tryz.underlying71 rfl (by kernel_rfl) ?_)
                    clear hst HRB
                    have hz5 := (MapKept.heap_alloc wr (.cells (bcs (t.be j)).toArray 71)).1
                    have hb5 : Below wr.heap.size wr (wr.alloc (.cells (bcs (t.be j)).toArray 71)) := (Below.refl _ _).alloc (Nat.le_refl _) _
                    generalize wr.alloc (.cells (bcs (t.be j)).toArray 71) = w5 at *
                    have HZ5 := Lib.hid hz5
                    have HB5 := Lib.hid (bthen' HBr.out hb5)
                    have HO5 := Lib.hid (own_below HO.out hb5)
                    have hzt5 := (hb5.block zt (heap_lt HZt.out)).trans HZt.out
                    have HZt5 := Lib.hid hzt5
                    have hc3 := cell_box hzt5 (k := 3) (v := .slice t.ka t.kn t.kc) rfl
                    rw [HKA.out, HKN.out] at hc3
                    have HK5 := Lib.hid (show _ ∧ _ ∧ _ ∧ _ from ⟨up hb5 HK4.out.1, up hb5 HK4.out.2.1, up hb5 HK4.out.2.2.1, up hb5 HK4.out.2.2.2⟩)
                    clear hz5 hb5 hzt5 HO HBr HZt HK4
                    generalize wr.heap.size = zb at *
                    go_wp2_with (go_at_call 31; refine (bear31' _ _ _ _).mono ?_; rintro e w6 ⟨rfl, hp6, hb6, hs6⟩; refine Hid.out ?_)
                    refine Lib.hid ?_
                    clear hc3
                    have hB6 := bthen' HB5.out hb6
                    have hz6 := (hb6.block zb (heap_lt HZ5.out)).trans HZ5.out
                    have hk6 := HK5.out
                    have K27 := Lib.hid (line27b _ _ _ _ (beL (t.be j) (t.P j) (t.R j) (t.M j) (t.T j)) w6 (HGW.out _ hB6) hp6 (numAt_bear hz6 (up hb6 hk6.1) (up hb6 hk6.2.1) (up hb6 hk6.2.2.1) (up hb6 hk6.2.2.2)) HF5.out)
                    have HB6 := Lib.hid hB6
                    have HO6 := Lib.hid (own_below HO5.out hb6)
                    have HZt6 := Lib.hid ((hb6.block zt (heap_lt HZt5.out)).trans HZt5.out)
                    clear hp6 hb6 hs6 hB6 hz6 hk6 HB5 HO5 HZ5 HZt5 HK5
                    go_wp2_with (go_at_call 27; refine K27.out.mono ?_; rintro e w7 ⟨rfl, hb7⟩; have HBa := Lib.hid (bthen' HB6.out hb7); have HOa := Lib.hid (own_below HO6.out hb7); have HZ7 := Lib.hid ((hb7.block zt (heap_lt HZt6.out)).trans HZt6.out); clear hb7; refine Hid.out ?_)
                    refine Lib.hid ?_
                    clear K27 HB6 HO6 HZt6
                    go_wp2_with (at_builtin; refine wpList_append1 w7 w4 w4.heap.size rfl _ _ 77 rfl 9 (.string ⟨#[]⟩) 16 Tryz.underlying77 pz9 rfl (by decide) rv3 (4 + c.fn + tpos T k + 1 + j) (strv M) rfl _ rfl HOa.out HBa.out HBa.out.size HF4.out.symm rfl (by omega) ?_; intro v8 w8 hown8 hB8 _ _ hgr8; refine Hid.out ?_)
                    refine Lib.hid ?_
                    have HZ8 := Lib.hid ((hgr8.block zt (heap_lt HZ7.out) (fun h => own_ne HOa.out HZ7.out (by decide) h.symm rfl)).trans HZ7.out)
                    go_wp2
                    go_roundw
                    case rel => exact ⟨j + 1, _, by omega, rfl, by go_num, hown8, hB8, HZ8.out⟩
                    case measure => simp [intOf] <;> omega
                  · obtain rfl : j = t.bn := by omega
                    go_wp2
                    go_roundw
                    case rel => exact ⟨k + 1, _, by omega, rfl, by go_num, by rw [show 4 + c.fn + tpos T (k + 1) = 4 + c.fn + tpos T k + 1 + t.bn by have := HTP.out; omega]; exact HO.out, HBr.out⟩
                    case measure => simp [intOf] <;> omega
              · obtain rfl : k = c.tn := by omega
                have HOF := Lib.hid (show wr.ownsRow w4.heap.size 9 1 rv2 (4 + c.fn + tpos T c.tn + 0) ((List.range (4 + c.fn + tpos T c.tn + 0)).map (strv M)) from HO.out)
                clear HO
                go_wp2
                go_loopw [8, 17, 83] (fun r _ i wr => ∃ (q : Nat) (rv4 : Value), q ≤ n ∧ rv4 = r ∧ i = .int .i64 q ∧ wr.ownsRow w4.heap.size 9 1 rv4 (4 + c.fn + tpos T c.tn + q) ((List.range (4 + c.fn + tpos T c.tn + q)).map (strv M)) ∧ Below w4.heap.size w4 wr) (fun _ _ i _ => n - (intOf i).toNat)
                case atStart => exact ⟨0, _, Nat.zero_le _, rfl, rfl, HOF.out, HBr.out⟩
                case round =>
                  clear HOF HBr
                  obtain ⟨q, rv4, hq, rfl, rfl, hown, hbr⟩ := hrel
                  have HO := Lib.hid hown
                  have HBr := Lib.hid hbr
                  clear hown hbr
                  by_cases hlt : q < n
                  · obtain ⟨b, m, h1, h2⟩ := HHQ.out.mono (HSS.out ▸ HBW.out _ HBr.out)
                    obtain rfl := h1 (by omega)
                    obtain ⟨c0, c1, c2, c3, c4, -, c6, -⟩ := h2 q hlt
                    rw [c6] at c4
                    obtain ⟨b7, m7, h7, h8⟩ := HHQ.out
                    have HBY := Lib.hid ((h8 q hlt).2.2.2.2.2.1)
                    have HBL := Lib.hid (HN.out.z q hlt)
                    have HP3 := Lib.hid (HN.out.p q hlt)
                    have hF := strv_of (HM.out.p q hlt)
                    have hbd : 4 + c.fn + tpos T c.tn + q + 1 ≤ 1000000 := by have := HML2.out; omega
                    obtain ⟨LS, hLS⟩ : ∃ LS, lineS wPacket [(Q q).a, (Q q).t, (Q q).b, (Q q).d] = LS := ⟨_, rfl⟩
                    obtain ⟨HX, hHX⟩ : ∃ HX, hexS (Q q).by' = HX := ⟨_, rfl⟩
                    have hx1 : (bs LS).size ≤ 3000 := by
                      have := lineS_len (word := wPacket) (by decide) (ns := [(Q q).a, (Q q).t, (Q q).b, (Q q).d]) HP3.out.weak
                      rw [bs_size, ← hLS]
                      simp only [List.length_cons, List.length_nil] at this
                      omega
                    have hx2 : (bs HX).size ≤ 2000000 := by
                      rw [bs_size, ← hHX, hexS_len]
                      have := HBL.out
                      omega
                    have HF2 := Lib.hid (show strv M (4 + c.fn + tpos T c.tn + q) = .string (bs LS ++ ⟨#[32]⟩ ++ bs HX) from by
                      rw [hF]
                      show Value.string (bs (lineS wPacket [(Q q).a, (Q q).t, (Q q).b, (Q q).d] ++ 32 :: hexS (Q q).by')) = _
                      rw [hLS, hHX, show (⟨#[32]⟩ : ByteArray) = bs [32] from rfl, bs_add, bs_add]
                      simp)
                    have HLS := Lib.hid hLS
                    have HHX := Lib.hid hHX
                    clear h1 h2 h7 h8 hF hLS hHX c6
                    have hz5 := (MapKept.heap_alloc wr (.cells #[.int .i64 (Q q).a, .int .i64 (Q q).t, .int .i64 (Q q).b, .int .i64 (Q q).d, .slice (Q q).pa (Q q).by'.length (Q q).pc] 49)).1
                    have hb5 : Below wr.heap.size wr (wr.alloc (.cells #[.int .i64 (Q q).a, .int .i64 (Q q).t, .int .i64 (Q q).b, .int .i64 (Q q).d, .slice (Q q).pa (Q q).by'.length (Q q).pc] 49)) := (Below.refl _ _).alloc (Nat.le_refl _) _
                    have HZ5 := Lib.hid hz5
                    have HB5 := Lib.hid (bthen' HBr.out hb5)
                    have HO5 := Lib.hid (own_below HO.out hb5)
                    clear hz5 hb5 HO HBr
                    go_upto_region 29 with fail
                    clear c0 c1 c2 c3 c4
                    generalize wr.alloc (.cells #[.int .i64 (Q q).a, .int .i64 (Q q).t, .int .i64 (Q q).b, .int .i64 (Q q).d, .slice (Q q).pa (Q q).by'.length (Q q).pc] 49) = w5 at *
                    generalize wr.heap.size = zq at *
                    refine wp_region_peelF 0 9 (fun i v u => match i with
                      | 0 => v = rv4
                      | 1 => ∃ b0, v = .slice (some ⟨b0, 0, none⟩) 4 4 ∧ PtrAt u b0 (adr zq [0, 1, 2, 3])
                      | 2 => v = .string (bs LS)
                      | 3 => v = .string (bs LS ++ ⟨#[32]⟩)
                      | 4 => v = .pointer (some ⟨zq, 4, none⟩)
                      | 5 => v = .slice (Q q).pa (Q q).by'.length (Q q).pc
                      | 6 => v = .string (bs HX)
                      | 7 => v = .string (bs LS ++ ⟨#[32]⟩ ++ bs HX)
                      | 8 => ∃ b0, v = .slice (some ⟨b0, 0, none⟩) 1 1 ∧ u.heap[b0]? = some (.cells #[.string (bs LS ++ ⟨#[32]⟩ ++ bs HX)] 9 (0, 0))
                      | _ => True) (by kernel_rfl) (by kernel_rfl) rfl (fun _ _ d _ _ h => by cases d <;> exact h) ?_ ?_ ?_
                    · intro i v w1 w2 hb h
                      match i with
                      | 0 => exact h
                      | 1 =>
                        obtain ⟨b0, e1, e2⟩ := h
                        exact ⟨b0, e1, fun k hk => up hb (e2 k hk)⟩
                      | 2 => exact h
                      | 3 => exact h
                      | 4 => exact h
                      | 5 => exact h
                      | 6 => exact h
                      | 7 => exact h
                      | 8 =>
                        obtain ⟨b0, e1, e2⟩ := h
                        exact ⟨b0, e1, (hb.block b0 (heap_lt e2)).trans e2⟩
                      | k + 9 => exact h
                    · intro i o hp hi ho vf u1 hb hd
                      have hi' : i = 0 ∨ i = 1 ∨ i = 2 ∨ i = 3 ∨ i = 4 ∨ i = 5 ∨ i = 6 ∨ i = 7 ∨ i = 8 := by omega
                      rcases hi' with rfl | rfl | rfl | rfl | rfl | rfl | rfl | rfl | rfl
                      all_goals obtain rfl := Option.some.inj ho
                      all_goals simp only [fillA, List.take_succ_cons, List.take_zero, List.drop_succ_cons, List.drop_zero, Nat.zero_add, Nat.reduceAdd]
                      · clear hd
                        go_wp2
                        exact ⟨rfl, Below.refl _ _, rfl⟩
                      · clear hd
                        simp only [Act.put, List.setIfInBounds_toArray, List.set_cons_succ, List.set_cons_zero]
                        go_wp2_with (go_at_call 32; refine (packet32' zq _).mono ?_; rintro e w3 ⟨rfl, hp3, hb3, hs3⟩)
                        exact ⟨rfl, hb3, _, rfl, hp3⟩
                      · obtain ⟨b0, f1, g1⟩ := hd 1 (by omega) (by omega) (by kernel_rfl)
                        clear hd
                        have KL := line27p b0 zq [(Q q).a, (Q q).t, (Q q).b, (Q q).d] u1 (HGW.out _ (bthen' HB5.out hb)) g1 (numAt_pkt ((hb.block zq (heap_lt HZ5.out)).trans HZ5.out)) HP3.out
                        rw [HLS.out] at KL
                        have KL := Lib.hid KL
                        simp only [Act.put, List.setIfInBounds_toArray, List.set_cons_succ, List.set_cons_zero]
                        generalize vf 1 = v1 at *
                        subst f1
                        go_wp2_with (go_at_call 27; refine KL.out.mono ?_; rintro e w3 ⟨rfl, hb3⟩)
                        exact ⟨rfl, hb3, rfl⟩
                      · have f2 := hd 2 (by omega) (by omega) (by kernel_rfl)
                        clear hd
                        go_wp2
                        exact ⟨rfl, Below.refl _ _, rfl⟩
                      · clear hd
                        go_wp2
                        exact ⟨rfl, Below.refl _ _, rfl⟩
                      · have f4 := hd 4 (by omega) (by omega) (by kernel_rfl)
                        clear hd
                        have hcc := cell_box ((hb.block zq (heap_lt HZ5.out)).trans HZ5.out) (k := 4) (v := .slice (Q q).pa (Q q).by'.length (Q q).pc) rfl
                        go_wp2
                        exact ⟨rfl, Below.refl _ _, rfl⟩
                      · have f5 := hd 5 (by omega) (by omega) (by kernel_rfl)
                        clear hd
                        have KH := written33 (Q q).pa (Q q).pc (Q q).by' u1 (HBY.out.mono (bthen' (HSS.out ▸ HBW.out _ HB5.out) hb)) HBL.out
                        rw [HHX.out] at KH
                        have KH := Lib.hid KH
                        simp only [Act.put, List.setIfInBounds_toArray, List.set_cons_succ, List.set_cons_zero]
                        generalize vf 5 = v5 at *
                        subst f5
                        go_wp2_with (go_at_call 33; refine KH.out.mono ?_; rintro e w3 ⟨rfl, hb3⟩)
                        exact ⟨rfl, hb3, rfl⟩
                      · have f3 := hd 3 (by omega) (by omega) (by kernel_rfl)
                        have f6 := hd 6 (by omega) (by omega) (by kernel_rfl)
                        clear hd
                        go_wp2
                        exact ⟨rfl, Below.refl _ _, rfl⟩
                      · have f7 := hd 7 (by omega) (by omega) (by kernel_rfl)
                        clear hd
                        go_wp2
                        exact ⟨rfl, (Below.refl _ _).alloc (Nat.le_refl _) _, _, rfl, (MapKept.heap_alloc u1 _).1⟩
                    · intro vf u1 hb hd
                      obtain ⟨b0, f8, g8⟩ := hd 8 (by omega) (by omega)
                      have f0 : vf 0 = rv4 := hd 0 (by omega) (by omega)
                      clear hd
                      simp only [fillA, List.take_succ_cons, List.take_zero, List.drop_succ_cons, List.drop_zero, Nat.zero_add, Nat.reduceAdd, Act.put, List.setIfInBounds_toArray, List.set_cons_succ, List.set_cons_zero]
                      generalize vf 8 = v8 at *
                      generalize vf 0 = v0 at *
                      subst f8 f0
                      have HOU := Lib.hid (own_below HO5.out hb)
                      have HBU := Lib.hid (bthen' HB5.out hb)
                      clear hb
                      refine wpList_append_at u1 w4.heap.size rfl _ _ 77 rfl 9 (.string ⟨#[]⟩) 1 16 Tryz.underlying77 pz9 rfl (by decide) (by decide) v0 (4 + c.fn + tpos T c.tn + q) (strv M) rfl b0 _ _ rfl g8 rfl (fun y hy => by simp at hy; rw [hy]; rfl) (strv M) (fun _ _ => rfl) (fun x hx => by cases (show x = 0 by omega); rw [Nat.mul_one, Nat.add_zero, HF2.out]; rfl) (by rw [Nat.mul_one]; exact HOU.out) HBU.out.size (by omega) ?_
                      intro v9 w9 hown9 hgr9 _
                      rw [Nat.mul_one] at hown9
                      have HO9 := Lib.hid hown9
                      have HB9 := Lib.hid (HBU.out.grown hgr9 HBU.out.size (fun g hg => (HOU.out.lt g hg).1))
                      clear hown9 hgr9 HOU HBU
                      go_wp2
                      go_roundw
                      case rel => exact ⟨q + 1, _, by omega, rfl, by go_num, HO9.out, HB9.out⟩
                      case measure => simp [intOf] <;> omega
                  · obtain rfl : q = n := by omega
                    have hO : OwnS wr w4.heap.size rv4 M := by
                      unfold OwnS
                      rw [HML.out]
                      exact HO.out
                    obtain ⟨a1, c1, b1, rfl, hc1, hp1, hs1⟩ := hO.slice
                    have hne : M ≠ [] := fun h => by have := HM4.out; rw [h] at this; simp at this
                    have hjc := join_cat M hne
                    obtain ⟨e1, -, hb1⟩ := hp1 (by have := HM4.out; omega)
                    subst e1
                    have hjl : (joinC 10 M).length ≤ 90000000 := by
                      have := HCL.out
                      rw [← hjc, List.length_append] at this
                      omega
                    have KJ := Lib.hid (join34 b1 0 c1 M 10 wr hs1 hb1 (by rw [HML.out]; exact HML2.out) hc1 (by omega))
                    have HJC := Lib.hid (show bs (joinC 10 M) ++ ⟨#[10]⟩ = bs (catL M) by rw [show (⟨#[10]⟩ : ByteArray) = bs [10] from rfl, bs_add, hjc])
                    have hjs : (bs (joinC 10 M)).size ≤ 90000000 := by rw [bs_size]; exact hjl
                    have hz := HZ.out
                    clear hs1 hp1 hO hjc hjl HO
                    go_wp2_with (go_at_call 34; refine KJ.out.mono ?_; rintro e w5 ⟨rfl, hb5⟩)
                    go_ret2
                    exact ⟨by rw [← HJC.out]; rfl, by rw [HSS.out]; exact bthen (HBW.out _ HBr.out) hb5 (by have h1 := (HBW.out _ HBr.out).size; have h2 := HSS.out; omega)⟩
  · have hq : (chkM c X T n Q != 0) = true := by simp [h0]
    go_wp2
    go_ret2
    exact ⟨rfl, HB2.out⟩
end Go.Proofs.YtgflfdnajchjaaaGreatDoor
