import Derived.Test.YtgflfdnajchjaaaGreatDoorRN
import Derived.Test.YtgflfdnajchjaaaGreatDoorRU
import Derived.Laws.IdiomStrings
set_option linter.unusedVariables false
set_option linter.unusedSimpArgs false
namespace Go.Proofs.YtgflfdnajchjaaaGreatDoor
open Go.Lib (hid)
open Go.RowKit
section
open Go.RowKit Go.Sort
structure BR (w : World) (g cap n : Nat) (cur : Array Value) : Prop where
 h : w.heap[g]? = some (.cells cur 5 (cap, cap + 1))
 z : cur.size = cap
 le : n ≤ cap
 c : ∀ k, k < n → ∃ x : UInt8, cur[k]? = some (.int .u8 (x.toNat : Int))
section
variable {w w' : World} {g cap n : Nat} {cur : Array Value}
theorem br_new (w : World) (s : ByteArray) (cap : Nat) (h : s.size ≤ cap) : BR (w.drew.alloc (.cells (bytesRow s cap) 5 ((bytesRow s cap).size, (bytesRow s cap).size + 1))) w.heap.size cap s.size (bytesRow s cap) := by
 have hz : (bytesRow s cap).size = cap := by
  unfold bytesRow;rw [Array.size_append, Array.size_map, Array.size_replicate];show s.size + (cap - s.size) = cap
  omega
 refine ⟨?_, hz, h, fun k hk => ?_⟩
 · have := heap_alloc_new w.drew (.cells (bytesRow s cap) 5 ((bytesRow s cap).size, (bytesRow s cap).size + 1));rw [hz] at this ⊢;exact this
 · have hk' : k < s.data.size := hk;refine ⟨s.data[k], ?_⟩
   unfold bytesRow;rw [Array.getElem?_append_left (by simpa using hk'), Array.getElem?_map, Array.getElem?_eq_getElem hk']
   rfl
theorem BR.cell (B : BR w g cap n cur) {k : Nat} (hk : k < n) : ∃ x : UInt8, w.cell? ⟨g, k, none⟩ = some (.int .u8 (x.toNat : Int)) := by
 obtain ⟨x, hx⟩ := B.c k hk;exact ⟨x, by rw [cell_of_row w g k cur 5 _ B.h]; exact hx⟩
theorem BR.frozen (B : BR w g cap n cur) {k : Nat} (hk : k < cap) : w.frozen? ⟨g, k, none⟩ = false := by
 simp only [World.frozen?, B.h, Bool.and_eq_false_iff, decide_eq_false_iff_not];left
 omega
theorem BR.lt (B : BR w g cap n cur) : g < w.heap.size := (Array.getElem?_eq_some_iff.1 B.h).1
theorem BR.kept (B : BR w g cap n cur) (h : w'.heap[g]? = w.heap[g]?) : BR w' g cap n cur := ⟨h.trans B.h, B.z, B.le, B.c⟩
theorem BR.less (B : BR w g cap n cur) {m : Nat} (h : m ≤ n) : BR w g cap m cur := ⟨B.h, B.z, Nat.le_trans h B.le, fun k hk => B.c k (by omega)⟩
theorem BR.set (B : BR w g cap n cur) (i : Nat) (x : UInt8) : BR (w.setCell ⟨g, i, none⟩ (.int .u8 (x.toNat : Int))) g cap n (cur.setIfInBounds i (.int .u8 (x.toNat : Int))) := by
 refine ⟨heap_set_same B.h _, by rw [Array.size_setIfInBounds]; exact B.z, B.le, fun k hk => ?_⟩
 rw [Array.getElem?_setIfInBounds];by_cases e : i = k
 · subst e;rw [if_pos rfl, if_pos (by rw [B.z]; have := B.le; omega)];exact ⟨x, rfl⟩
 · rw [if_neg e];exact B.c k hk
theorem u8_of {n : Int} (h : 0 ≤ n ∧ n ≤ 255) : ∃ b : UInt8, n = (b.toNat : Int) := ⟨UInt8.ofNat n.toNat, by rw [UInt8.toNat_ofNat']; omega⟩
theorem byAt_any (b q : Nat) : ∀ n, (∀ k, k < n → ∃ x : UInt8, w.cell? ⟨b, q + k, none⟩ = some (.int .u8 (x.toNat : Int))) → ∃ l : List UInt8, l.length = n ∧ ByAt w (some ⟨b, q, none⟩) l := fun n h => by
 obtain ⟨l, h1, h2⟩ := bytes_list h;exact ⟨l, h1, b, q, fun _ => rfl, fun k hk => h2 k _ (by rw [Lib.byteCells, List.getElem?_map, List.getElem?_eq_getElem hk, List.getD_eq_getElem?_getD, List.getElem?_eq_getElem hk]; rfl)⟩
theorem BR.byAt (B : BR w g cap n cur) : ∃ l : List UInt8, l.length = n ∧ ByAt w (some ⟨g, 0, none⟩) l := byAt_any g 0 n fun k hk => by
 rw [Nat.zero_add];exact B.cell hk
theorem byR_byAt {B : Nat} {v : Value} (h : ByR w B v n) : ∃ (a : Option Addr) (l : List UInt8) (c : Nat), v = .slice a l.length c ∧ l.length = n ∧ ByAt w a l := by
 obtain ⟨l, hl, ho⟩ := h;subst hl;obtain ⟨a, c, e, -, hb⟩ := (ownU_of ho).slice;exact ⟨a, l, c, e, rfl, hb⟩
end
theorem run_storeCells_atB (P : Program) (g o : Nat) (t : TypeId) (fz : Nat × Nat) : ∀ (vs : List Value) (i : Nat) (cur : Array Value) (w : World), w.heap[g]? = some (.cells cur t fz) → cur.size ≤ fz.1 → o + i + vs.length ≤ cur.size → (∀ v ∈ vs, v.oneCell' = true) →
 (storeCells ⟨g, o, none⟩ vs i).run P w = .ok () (w.setRow g (cur.toList.take (o + i) ++ vs ++ cur.toList.drop (o + i + vs.length)).toArray)
 | [], i, cur, w, hg, _, _, _ => by
   simp only [storeCells, List.append_nil, List.length_nil, Nat.add_zero, List.take_append_drop, Array.toArray_toList];rw [setRow_self w g cur t fz hg]
   rfl
 | v :: rest, i, cur, w, hg, hfz, hl, h1 => by
   have hi : o + i < cur.size := by simp at hl; omega
   have hadd : (⟨g, o, none⟩ : Addr).add i = ⟨g, o + i, none⟩ := Addr.add_mid ..;have hcell : w.cell? ⟨g, o + i, none⟩ = some cur[o + i] := by simp [World.cell?, hg, hi]
   have hfro : w.frozen? ⟨g, o + i, none⟩ = false := by
    simp only [World.frozen?, hg, Bool.and_eq_false_iff, decide_eq_false_iff_not];left
    omega
   have hst : (store ((⟨g, o, none⟩ : Addr).add i) v).run P w = .ok () (w.setRow g (cur.setIfInBounds (o + i) v)) := by
    rw [hadd, run_store P w _ v _ (h1 v (by simp)), hcell];simp [hfro, setCell_eq_setRow w g (o + i) cur t fz v hg]
   have ih := run_storeCells_atB P g o t fz rest (i + 1) (cur.setIfInBounds (o + i) v) (w.setRow g (cur.setIfInBounds (o + i) v)) (setRow_heap w g cur _ t _ hg) (by simpa using hfz) (by simp at hl ⊢; omega) (fun x hx => h1 x (by simp [hx]));simp only [storeCells, Sem.run_bind, hst, Result.andThen_ok, ih, setRow_setRow]
   congr 3
   have e := list_seg_step cur.toList (o + i) v rest (by simp at hl ⊢; omega);simpa [Array.toList_setIfInBounds, Nat.add_assoc] using e
section
variable {ops : Array Oper} {rest : List Oper} {o : Oper} {a : Act} {Q : Exit → Act → World → Prop}
theorem wpB_room (w : World) (hgd : o.guard = none) (s x : Operand) (ho : o.op = .call { callee := .builtin .append, args := #[s, x], argTypes := #[46, 46] })
 (g cap n : Nat) (cur : Array Value) (B : BR w g cap n cur) (i q m c : Nat) (hs : a.eval s = .slice (some ⟨g, 0, none⟩) i cap) (hx : a.eval x = .slice (some ⟨g, q, none⟩) m c) (hq : q + m ≤ n) (hi : i + m ≤ n)
 (h : ∀ w' cur', BR w' g cap (i + m) cur' → (∀ k, k ≠ g → w'.heap[k]? = w.heap[k]?) → w.grownBy w' (some g) → wpList Tryz.prog ops Q rest (a.put o.dst (.slice (some ⟨g, 0, none⟩) (i + m) cap)) w') : wpList Tryz.prog ops Q (o :: rest) a w := by
 obtain ⟨ti, hi1, hz, hsz, hby⟩ := info5;have hcap := B.le;have hcs := B.z
 obtain ⟨l2, hl2, hc2⟩ := bytes_list (w := w) (g := g) (q := q) (m := m) (fun k hk => by
  obtain ⟨y, hy⟩ := B.cell (show q + k < n by omega);exact ⟨y, hy⟩)
 have hnl : (Lib.byteCells l2).length = m * ti.size := by simp [Lib.byteCells, hl2, hsz]
 have hnews : ∀ j u, (Lib.byteCells l2)[j]? = some u → w.cell? ((⟨g, q, none⟩ : Addr).add j) = some u := fun j u hj => by
  rw [Addr.add_mid];exact hc2 j u hj
 have h1 : ∀ u ∈ Lib.byteCells l2, u.oneCell' = true := fun u hu => by
  obtain ⟨y, -, rfl⟩ := List.mem_map.1 hu
  rfl
 have hlen2 : (Lib.byteCells l2).length = m := by simp [Lib.byteCells, hl2]
 have hf := run_firstCells_some (P := Tryz.prog) w ti.size m ⟨g, q, none⟩ m c (Lib.byteCells l2) hnl hnews;have hst := run_storeCells_atB Tryz.prog g i 5 _ (Lib.byteCells l2) 0 cur w B.h (Nat.le_of_eq hcs) (by rw [hlen2]; omega) h1;simp only [Nat.add_zero] at hst;have hroom : i + m ≤ cap := by omega
 have hr : (Builtin.append_ #[46, 46] o.type #[.slice (some ⟨g, 0, none⟩) i cap, .slice (some ⟨g, q, none⟩) m c]).run Tryz.prog w = .ok (.slice (some ⟨g, 0, none⟩) (i + m) cap) (w.setRow g (cur.toList.take i ++ Lib.byteCells l2 ++ cur.toList.drop (i + (Lib.byteCells l2).length)).toArray) := by
  rw [hsz] at hf;simp [Builtin.append_, run_underlying Tryz.underlying46, sizeOf, typeInfo, hi1, hsz, Builtin.lenOf, hroom, hf, Addr.add_lit, hst]
 refine wpList_plain hgd fun K hK => ?_
 unfold Oper.wp execOp;simp only [ho, resolve, invoke, builtin, Sem.run_bind, Sem.run_pure, Result.andThen_ok, List.map_toArray, List.map_cons, List.map_nil, hs, hx, hr];have hoth : ∀ k, k ≠ g → (w.setRow g (cur.toList.take i ++ Lib.byteCells l2 ++ cur.toList.drop (i + (Lib.byteCells l2).length)).toArray).heap[k]? = w.heap[k]? := fun k hk => setRow_other w g k _ hk
 refine hK _ _ (h _ _ ⟨setRow_heap w g cur _ 5 _ B.h, ?_, hroom, fun k hk => ?_⟩ hoth ⟨rfl, rfl, rfl, by simp, fun k _ hk => hoth k (fun e => hk (by rw [e]))⟩)
 · simp only [List.size_toArray, List.length_append, List.length_take, List.length_drop, Array.length_toList];omega
 · rw [List.getElem?_toArray, List.append_assoc];have hti : (cur.toList.take i).length = i := by rw [List.length_take, Array.length_toList]; omega
   by_cases hki : k < i
   · rw [List.getElem?_append_left (by omega), List.getElem?_take, if_pos hki, Array.getElem?_toList];exact B.c k (by omega)
   · rw [List.getElem?_append_right (by omega), hti, List.getElem?_append_left (by omega), Lib.byteCells, List.getElem?_map, List.getElem?_eq_getElem (by omega)];exact ⟨_, rfl⟩
theorem wpB_strR (w : World) (base : Nat) (hgd : o.guard = none) (s x : Operand) (ho : o.op = .call { callee := .builtin .append, args := #[s, x], argTypes := #[46, 9] })
 (v : Value) (n : Nat) (hs : a.eval s = v) (hown : ByR w base v n) (s2 : ByteArray) (hx : a.eval x = .string s2) (hlen : n + s2.size ≤ 1000000) (hbase : base ≤ w.heap.size)
 (h : ∀ v' w', ByR w' base v' (n + s2.size) → w.grownBy w' v.ownBlock → wpList Tryz.prog ops Q rest (a.put o.dst v') w') : wpList Tryz.prog ops Q (o :: rest) a w := by
 obtain ⟨i, hi1, hz, hsz, hby⟩ := info5;obtain ⟨l, hl, hown⟩ := hown;refine Lib.wpList_append_own_string _ hgd s x 46 9 ho base 5 i Tryz.underlying46 Tryz.underlying9 hi1 hz hsz hby v n _ hs hown s2 hx (by unfold maxLen; omega) (by omega) hbase ?_
 intro v' w' h2 h3 _;refine h v' w' ⟨l ++ s2.data.toList, ?_, ?_⟩ h3
 · rw [List.length_append, hl]
   rfl
 · have e : Lib.byteCells (l ++ s2.data.toList) = Lib.byteCells l ++ Lib.strCells s2 := by simp [Lib.byteCells, Lib.strCells]
   rw [e];exact h2
end
def ix (s : Nat) : Nat := [0, 0, 4, 7, 11].getD s 0
def cn (i n s : Nat) : Nat := [0, 0, i, i + 1, n + 1].getD s 0
def Lit (u : World) (y : Value) (q : Nat) : Prop := y = .slice (some ⟨q, 0, none⟩) 1 1 ∧ q < u.heap.size ∧ ∃ x : UInt8, u.cell? ⟨q, 0, none⟩ = some (.int .u8 (x.toNat : Int))
def J17 (M : Nat) (B0 : World → Prop) (i n : Nat) (L : Nat → Bool) (vs : Nat → Value) (u : World) : Prop :=
 ∃ s, s ≤ 4 ∧ (∀ k, 1 ≤ k → k ≤ 4 → L (ix k) = decide (k ≤ s)) ∧ B0 u ∧ M ≤ u.heap.size ∧ (1 ≤ s → ByR u M (vs (ix s)) (cn i n s)) ∧ (L 6 = true → ∃ q, Lit u (vs 6) q ∧ (1 ≤ s → (vs (ix s)).ownBlock ≠ some q))
section
variable {M : Nat} {B0 : World → Prop} {i n : Nat} {L : Nat → Bool} {vs : Nat → Value} {u : World}
theorem ix_le (k : Nat) : ix k < 12 := by
 unfold ix;rcases k with _ | _ | _ | _ | _ | k
 · decide
 · decide
 · decide
 · decide
 · decide
 · show ([] : List Nat).getD k 0 < 12
   simp
theorem J17.congr (L L' : Nat → Bool) (vs vs' : Nat → Value) (u : World) (h1 : ∀ k, 0 ≤ k → k < 12 → L k = L' k) (h2 : ∀ k, 0 ≤ k → k < 12 → L k = true → vs k = vs' k) (h : J17 M B0 i n L vs u) : J17 M B0 i n L' vs' u := by
 obtain ⟨s, hs, hl, hB, hM, hr, h6⟩ := h;have e : 1 ≤ s → vs (ix s) = vs' (ix s) := fun h => h2 _ (Nat.zero_le _) (ix_le s) (by rw [hl s h hs]; exact decide_eq_true (Nat.le_refl _))
 refine ⟨s, hs, fun k a b => by rw [← h1 _ (Nat.zero_le _) (ix_le k)]; exact hl k a b, hB, hM, fun h => by rw [← e h]; exact hr h, fun hl6 => ?_⟩
 have hl6' := (h1 6 (by decide) (by decide)).trans hl6;obtain ⟨q, a, b⟩ := h6 hl6';rw [h2 6 (by decide) (by decide) hl6'] at a;exact ⟨q, a, fun h => by rw [← e h]; exact b h⟩
theorem J17.start (hB : B0 u) (hM : M ≤ u.heap.size) : J17 M B0 i n (fun k => decide (k < 0)) (fun _ => undef) u :=
 ⟨0, by decide, fun k a b => by simp; omega, hB, hM, fun h => absurd h (by decide), fun h => absurd h (by decide)⟩
theorem ix_ne {k j : Nat} (hk : 1 ≤ k) (hk4 : k ≤ 4) (h : j ≠ 0 ∧ j ≠ 4 ∧ j ≠ 7 ∧ j ≠ 11) : ix k ≠ j := by
 have : k = 1 ∨ k = 2 ∨ k = 3 ∨ k = 4 := by omega
 rcases this with rfl | rfl | rfl | rfl
 · exact h.1.symm
 · exact h.2.1.symm
 · exact h.2.2.1.symm
 · exact h.2.2.2.symm
theorem J17.other (h : J17 M B0 i n L vs u) {j : Nat} (hj : (j ≠ 0 ∧ j ≠ 4 ∧ j ≠ 7 ∧ j ≠ 11) ∧ 6 ≠ j) {v : Value} : J17 M B0 i n (updB L j) (updV vs j v) u := by
 obtain ⟨s, hs, hl, hB, hM, hr, h6⟩ := h;refine ⟨s, hs, fun k a b => by rw [updB_ne (ix_ne a b hj.1)]; exact hl k a b, hB, hM, fun h => by rw [updV_ne (ix_ne h hs hj.1)]; exact hr h, fun hl6 => ?_⟩
 rw [updB_ne hj.2] at hl6;rw [updV_ne hj.2];obtain ⟨q, a, b⟩ := h6 hl6;exact ⟨q, a, fun h => by rw [updV_ne (ix_ne h hs hj.1)]; exact b h⟩
theorem Lit.kept {u' : World} {y : Value} {q : Nat} (h : Lit u y q) (hs : u.heap.size ≤ u'.heap.size) (hb : u'.heap[q]? = u.heap[q]?) : Lit u' y q := by
 obtain ⟨a, b, x, c⟩ := h;exact ⟨a, by omega, x, by rw [World.cell?_of_block (a := ⟨q, 0, none⟩) hb]; exact c⟩
theorem alloc_kept (u : World) (o : Obj) {k : Nat} (h : k < u.heap.size) : (u.alloc o).heap[k]? = u.heap[k]? := Below.heap_alloc _ _ _ h
theorem J17.lit0 (h : J17 M B0 i n L vs u) (hun : L 0 = false) (hB' : B0 (u.alloc (.cells #[] 5))) : J17 M B0 i n (updB L 0) (updV vs 0 (.slice (some ⟨u.heap.size, 0, none⟩) 0 0)) (u.alloc (.cells #[] 5)) := by
 obtain ⟨s, hs, hl, hB, hM, hr, h6⟩ := h;have h1 := hl 1 (by decide) (by decide)
 have hs0 : s = 0 := by
  have : decide (1 ≤ s) = false := h1.symm.trans hun;have := of_decide_eq_false this;omega
 subst hs0;refine ⟨1, by decide, fun k a b => ?_, hB', by simp; omega, fun _ => ?_, fun hl6 => ?_⟩
 · by_cases e : k = 1
   · subst e;exact updB_at L 0
   · rw [updB_ne (show ix k ≠ 0 by
      have : k = 2 ∨ k = 3 ∨ k = 4 := by omega
      rcases this with rfl | rfl | rfl <;> decide), hl k a b]
     exact decide_eq_decide.2 (by omega)
 · show ByR _ M (updV vs 0 _ 0) 0
   rw [updV_at];exact ⟨[], rfl, own_base (own_lit u 5 1) hM⟩
 · rw [updB_ne (by decide)] at hl6;rw [updV_ne (by decide)];obtain ⟨q, a, -⟩ := h6 hl6;refine ⟨q, a.kept (by simp) (alloc_kept u _ a.2.1), fun _ => ?_⟩
   show (updV vs 0 _ 0).ownBlock ≠ some q
   rw [updV_at];have := a.2.1;intro e;have e2 : u.heap.size = q := oI e;omega
theorem J17.lit6 (h : J17 M B0 i n L vs u) (x : UInt8) (hB' : B0 (u.alloc (.cells #[.int .u8 (x.toNat : Int)] 5))) : J17 M B0 i n (updB L 6) (updV vs 6 (.slice (some ⟨u.heap.size, 0, none⟩) 1 1)) (u.alloc (.cells #[.int .u8 (x.toNat : Int)] 5)) := by
 obtain ⟨s, hs, hl, hB, hM, hr, h6⟩ := h;have hne : ∀ k, 1 ≤ k → k ≤ 4 → ix k ≠ 6 := fun k a b => ix_ne a b (by decide)
 refine ⟨s, hs, fun k a b => by rw [updB_ne (hne k a b)]; exact hl k a b, hB', by simp; omega, fun h => ?_, fun _ => ⟨u.heap.size, ?_, fun h => ?_⟩⟩
 · rw [updV_ne (hne s h hs)];obtain ⟨l, e, ho⟩ := hr h;exact ⟨l, e, ho.alloc _⟩
 · rw [updV_at];exact ⟨rfl, by simp, x, by rw [cell_of_row _ u.heap.size 0 _ 5 _ (MapKept.heap_alloc u _).1]; rfl⟩
 · rw [updV_ne (hne s h hs)];intro e;obtain ⟨l, -, ho⟩ := hr h;have := (ho.lt _ e).2;omega
theorem J17.stage (h : J17 M B0 i n L vs u) {s0 : Nat} (h1 : 1 ≤ s0) (h3 : s0 ≤ 3) (hp : L (ix s0) = true) (hun : L (ix (s0 + 1)) = false) : ByR u M (vs (ix s0)) (cn i n s0) := by
 obtain ⟨s, hs, hl, hB, hM, hr, h6⟩ := h;have a := hl s0 h1 (by omega);have b := hl (s0 + 1) (by omega) (by omega);rw [hp] at a;rw [hun] at b;have a := of_decide_eq_true a.symm;have b := of_decide_eq_false b.symm;obtain rfl : s = s0 := by omega
 exact hr h1
theorem J17.next (h : J17 M B0 i n L vs u) {s0 : Nat} (h1 : 1 ≤ s0) (h3 : s0 ≤ 3) (hp : L (ix s0) = true) (hun : L (ix (s0 + 1)) = false) {v' : Value} {u' : World} (hr' : ByR u' M v' (cn i n (s0 + 1))) (hg : u.grownBy u' (vs (ix s0)).ownBlock) (hv : v'.ownBlock = (vs (ix s0)).ownBlock ∨ v'.ownBlock = some u.heap.size) (hB' : B0 u') : J17 M B0 i n (updB L (ix (s0 + 1))) (updV vs (ix (s0 + 1)) v') u' := by
 obtain ⟨s, hs, hl, hB, hM, hr, h6⟩ := h;have a := hl s0 h1 (by omega);have b := hl (s0 + 1) (by omega) (by omega);rw [hp] at a;rw [hun] at b;have a := of_decide_eq_true a.symm;have b := of_decide_eq_false b.symm;obtain rfl : s = s0 := by omega
 have h6n : 6 ≠ ix (s + 1) := by
  have : s = 1 ∨ s = 2 ∨ s = 3 := by omega
  rcases this with rfl | rfl | rfl <;> decide
 refine ⟨s + 1, by omega, fun k x y => ?_, hB', Nat.le_trans hM hg.size, fun _ => by rw [updV_at]; exact hr', fun hl6 => ?_⟩
 · by_cases e : k = s + 1
   · subst e;rw [updB_at, decide_eq_true (Nat.le_refl _)]
   · have hne : ix k ≠ ix (s + 1) := by
      have q1 : k = 1 ∨ k = 2 ∨ k = 3 ∨ k = 4 := by omega
      have q2 : s = 1 ∨ s = 2 ∨ s = 3 := by omega
      rcases q1 with rfl | rfl | rfl | rfl <;> rcases q2 with rfl | rfl | rfl <;> first | (exact absurd rfl e) | decide
     rw [updB_ne hne, hl k x y];exact decide_eq_decide.2 (by omega)
 · rw [updB_ne h6n] at hl6;rw [updV_ne h6n, updV_at];obtain ⟨q, x, y⟩ := h6 hl6;have hq := y h1;refine ⟨q, x.kept hg.size (hg.block q x.2.1 (fun e => hq e.symm)), fun _ => ?_⟩
   rcases hv with e | e
   · rw [e]; exact hq
   · rw [e];have := x.2.1;intro e2;injection e2 with e2
     omega
end
end
section
open Go.RowKit Go.Sort
open Tm
attribute [local go_sem] gcell bs_tl
theorem empty_list : (⟨#[]⟩ : ByteArray).toList.isEmpty = true := by
 rw [ByteArray.toList, ByteArray.toList.loop]
 rfl
theorem slice_hi {g n cap i : Nat} (hle : n ≤ cap) (hi : i < n) : Value.slice (some ⟨g, 0, none⟩) i cap = .slice (some ⟨g, 0, none⟩) i cap := rfl
theorem slice_lo {g n cap i : Nat} (hle : n ≤ cap) (hi : i < n) : ∃ q, Value.slice (if cap = i then some ⟨g, 0, none⟩ else some ((⟨g, 0, none⟩ : Addr).add i)) (n - i) (cap - i) = .slice (some ⟨g, q, none⟩) (n - i) (cap - i) ∧ q + (n - i) ≤ n := by
 split
 · exact ⟨0, rfl, by omega⟩
 · exact ⟨i, by rw [Addr.add_mid, Nat.zero_add], by omega⟩
set_option maxRecDepth 100000 in
set_option maxHeartbeats 16000000 in
theorem near4 (a : Option Addr) (b m0 n cc : Nat) (xs : Nat → Int) (at' tw : Int) (bx how : UInt8) (w : World) (G : Gl w) (hc : n ≤ cc) (h0 : a = none → cc = 0) (ha : 0 < cc → a = some ⟨b, m0, none⟩) (hx : ∀ i, i < n → w.cell? ⟨b, m0 + i, none⟩ = some (.int .i64 (xs i)))
 (hat : -9223372036854775808 ≤ at' ∧ at' ≤ 9223372036854775807) (hto : -9223372036854775808 ≤ tw ∧ tw ≤ 9223372036854775807) :
 Calls Tryz.prog 4 #[.slice a n cc, .int .i64 at', .int .i64 tw, .int .u8 (bx.toNat : Int), .int .u8 (how.toNat : Int)] w fun e w' => e = .returned (.bool true) ∧ Below w.heap.size w w' := by
 have HA := hid (fun (W : World) (hb : Below w.heap.size w W) (s : ByteArray) (hs : s.size ≤ 800000) => agreeS s hs W (G.mono hb));have KW := hid (fun (W : World) (hb : Below w.heap.size w W) => awake8 W (G.mono hb));have KR := hid (fun h300 => roll_any w a b m0 n cc xs h300 hc h0 ha hx);clear G h0 ha hx;by_cases hn : n ≤ 300
 · go_enter Tryz.func4, Tryz.ntmps4;go_wp2_with (first | (go_at_call 9; refine (light_any a n cc _).mono ?_; rintro e w1 ⟨rfl, rfl⟩; refine Hid.out ?_));refine hid ?_
   go_upto_region 4 with (go_at_call 10; refine (KR.out hn).mono ?_; rintro e w2 ⟨p, g, ad, cap, rfl, hD, hp, hb2⟩)
   have HD := hid (show DiceS w2 p w2.heap.size from ⟨g, ad, cap, n, xs, 0, hD, hn, lt_of_cell hD.c0, hD.gl, Nat.le_refl _⟩);have hpl : p < w2.heap.size := lt_of_cell hD.c0;have HB2 := hid hb2;clear hD hb2 KR;go_wp2_with (go_at_call 12; refine (next12 (by decide) (by decide) HD.out).mono ?_; rintro e w3 ⟨x2, rfl, y0, y1, hd3, ho3⟩; refine Hid.out ?_);refine hid ?_
   clear y0 y1;have HD3 := hid hd3;have HO3 := hid ho3;have hw23 := ho3.size;clear hd3 ho3 HD;go_wp2_with (go_at_call 11; refine (config11 true _ p w2.heap.size w3 HD3.out).mono ?_; rintro e w4 ⟨c, X, T, i0, rfl, hK, hCB, hi0, hd4, ho4⟩; refine Hid.out ?_);refine hid ?_
   clear HD3;have hp3 : p < w3.heap.size := by omega
   have hcv : cfv c = .agg (cfs c).toArray := rfl;have hst := run_storeCells_new (P := Tryz.prog) w4 37 #[.int .i64 0, .int .i64 0, .int .i64 0, .int .i64 0, .int .i64 0, .int .i64 0, .int .i64 0, .int .i64 0, .int .i64 0, .int .i64 0, .int .i64 0, .int .i64 0, .int .i64 0, .int .i64 0, .int .i64 0, .int .i64 0, .int .i64 0, .int .i64 0, .slice none 0 0, .slice none 0 0] (cfs c).toArray (by kernel_rfl) rfl (one_c c);have HCB := hid hCB;have HM := hid (netM_of hCB hi0);have htn : (c.tn : Int) ≤ 3 := by have := hCB.tn; omega
   have HK := hid (hK.only (only_alloc (only_refl w4 p) (.cells (cfs c).toArray 37)) hp3);have HD5 := hid (hd4.alloc (.cells (cfs c).toArray 37));have HO5 := hid (only_alloc (only_trans HO3.out ho4) (.cells (cfs c).toArray 37));have HZ := hid (bx_new w4 (cfs c).toArray 37);have hw34 := ho4.size;clear hK hCB hd4 ho4 HO3;rw [hcv];clear hcv;go_upto_region 5 with fail
   clear hst;have hzp : w4.heap.size ≠ p := by omega
   have hpW : p < (w4.alloc (.cells (cfs c).toArray 37)).heap.size := by simp; omega
   generalize w4.alloc _ = w5 at *;generalize w4.heap.size = z at *
   refine wp_region_peelJ 0 11 (fun u u' => OnlyP u u' p) (fun i v u => match i with
    | 0 => v = .agg (cfs c).toArray
    | 1 => v = .pointer (some ⟨p, 0, none⟩)
    | 2 => v = .agg (cfs c).toArray
    | 3 => v = .pointer (some ⟨p, 0, none⟩)
    | 4 => ∃ m : Nat, v = .int .i64 m ∧ m < 5
    | 5 => ∃ (m : Nat) (Q : Nat → Tr), m < 5 ∧ TrW u w5.heap.size v m 40 c.tn Q
    | 6 => ∃ (S : ByteArray) (r : Int), v = .tuple #[.string S, .int .i64 r] ∧ S.size ≤ 200000
    | 7 => ∃ (S : ByteArray) (r : Int), v = .tuple #[.string S, .int .i64 r] ∧ S.size ≤ 200000
    | 8 => ∃ S : ByteArray, v = .string S ∧ S.size ≤ 200000
    | 9 => ∃ r : Int, v = .int .i64 r
    | 10 => ∃ S : ByteArray, v = .string S ∧ S.size ≤ 200000
    | _ => True) (fun _ _ u => DiceS u p w2.heap.size) (by kernel_rfl) (by kernel_rfl) rfl (fun _ _ d _ _ h => by cases d <;> exact h) (only_drewN (only_refl _ _) 1) (fun _ _ _ h1 h2 => only_trans h1 h2) (fun _ _ _ _ _ _ _ h => h) (HD5.out.drewN 1) ?_ ?_ ?_
   · intro i v w1 w2 hb h
     match i with
     | 0 => exact h
     | 1 => exact h
     | 2 => exact h
     | 3 => exact h
     | 4 => exact h
     | 5 =>
       obtain ⟨m, Q, e0, e1⟩ := h;exact ⟨m, Q, e0, e1.only hb hpW⟩
     | 6 => exact h
     | 7 => exact h
     | 8 => exact h
     | 9 => exact h
     | 10 => exact h
     | k + 11 => exact h
   · intro i o hp hi ho L vf u1 hun hw hb hj hd;have hi' : i = 0 ∨ i = 1 ∨ i = 2 ∨ i = 3 ∨ i = 4 ∨ i = 5 ∨ i = 6 ∨ i = 7 ∨ i = 8 ∨ i = 9 ∨ i = 10 := by omega
     rcases hi' with rfl | rfl | rfl | rfl | rfl | rfl | rfl | rfl | rfl | rfl | rfl
     all_goals obtain rfl := oI ho
     all_goals simp only [fillA, fA, fB, fC, fD, fH, Nat.reduceAdd]
     · have HRG := hid (bx_range (only_box hb hzp HZ.out) (l := cfs c) rfl);have HJ := hid hj;clear hd hw hj;simp only [Act.put, fE, fF, fG];go_wp2_with (refine wpList_load_mid rfl 37 (.tmp 12) rfl z 0 rfl (cfs c) _ HRG.out Tryz.underlying37 rfl (by kernel_rfl) ?_);exact ⟨rfl, only_refl _ _, rfl, HJ.out⟩
     · have HJ := hid hj;clear hd hw hj;go_wp2;exact ⟨rfl, only_refl _ _, rfl, HJ.out⟩
     · have HRG := hid (bx_range (only_box hb hzp HZ.out) (l := cfs c) rfl);have HJ := hid hj;clear hd hw hj;simp only [Act.put, fE, fF, fG];go_wp2_with (refine wpList_load_mid rfl 37 (.tmp 12) rfl z 0 rfl (cfs c) _ HRG.out Tryz.underlying37 rfl (by kernel_rfl) ?_);exact ⟨rfl, only_refl _ _, rfl, HJ.out⟩
     · have HJ := hid hj;clear hd hw hj;go_wp2;exact ⟨rfl, only_refl _ _, rfl, HJ.out⟩
     · have f3 := hd 3 (by omega) (by omega) (hw 3 (by kernel_rfl));have HJ := hid hj;clear hd hw hj;simp only [Act.put, fE, fF, fG];generalize vf 3 = vv at *;subst f3;go_wp2_with (go_at_call 12; refine (next12 (by decide) (by decide) HJ.out).mono ?_; rintro e w7 ⟨x, rfl, h0, h1, hd, ho⟩);obtain ⟨x, rfl⟩ : ∃ x' : Nat, x = x' := ⟨x.toNat, by omega⟩
       exact ⟨rfl, ho, ⟨x, rfl, by omega⟩, hd⟩
     · have f1 := hd 1 (by omega) (by omega) (hw 1 (by kernel_rfl));have f2 := hd 2 (by omega) (by omega) (hw 2 (by kernel_rfl));obtain ⟨m, f4, hm⟩ := hd 4 (by omega) (by omega) (hw 4 (by kernel_rfl));have hsz := hb.size;have KT := hid (traffic14 c X T m i0 40 p w2.heap.size w3.heap.size u1 (HK.out.only hb hp3) hp3 HCB.out hi0 (by omega) (by decide) (show DiceS u1 p w2.heap.size from hj));have HJ := hid hj;clear hd hw hj;simp only [Act.put, fE, fF, fG];generalize vf 1 = y1 at *;subst f1;generalize vf 2 = y2 at *;subst f2;generalize vf 4 = y4 at *;subst f4;go_wp2_with (go_at_call 14; refine KT.out.mono ?_; rintro e w7 ⟨v, Q, rfl, q1, q2, q3, hd, ho⟩);exact ⟨rfl, ho, ⟨m, Q, hm, own_base q1 hsz, fun k hk => own_base (q2 k hk) hsz, q3⟩, hd⟩
     · have f0 := hd 0 (by omega) (by omega) (hw 0 (by kernel_rfl));obtain ⟨m, Q, hm, hT⟩ := hd 5 (by omega) (by omega) (hw 5 (by kernel_rfl));generalize hv5 : vf 5 = y5 at hT;obtain ⟨a4, c4, hy5, hmc, hml, hTR⟩ := trR_of hT.1 hT.2.1;subst hy5;have KK := hid (fmt13_doc (cc := c4) (show DocIn u1 c X T a4 m Q (docOf c X T m Q) from ⟨(HK.out.only hb hp3).cfIn, hTR, hml, rfl, HM.out.h15, HM.out.kb⟩) (fun h => docN_chk HM.out h) (Nat.le_trans (size_pk HM.out (by omega) (fun k hk => (hT.2.2 k hk).toI (by decide) htn)) (by decide)))
       have HSZ := hid (show (bs (if chkD (docOf c X T m Q) = 0 then catL (textS (docOf c X T m Q)) else [])).size ≤ 200000 from by
        rw [bs_size];split
        · exact size_pk HM.out (by omega) (fun k hk => (hT.2.2 k hk).toI (by decide) htn)
        · exact Nat.zero_le _)
       generalize bs (if chkD (docOf c X T m Q) = 0 then catL (textS (docOf c X T m Q)) else []) = S at *;generalize chkD (docOf c X T m Q) = r at *;unfold cfv at KK;clear hT hTR hml hmc;have HJ := hid hj;clear hd hw hj;simp only [Act.put, fE, fF, fG];generalize vf 0 = y0 at *;subst f0;generalize vf 5 = y5 at *;subst hv5;go_wp2_with (go_at_call 13; refine KK.out.mono ?_; rintro e w7 ⟨rfl, hb7⟩);exact ⟨rfl, only_below' (only_refl _ _) hb7, ⟨S, r, rfl, HSZ.out⟩, HJ.out.mono hb7 HJ.out.le⟩
     · obtain ⟨S, r, ff, hS⟩ := hd 6 (by omega) (by omega) (hw 6 (by kernel_rfl));have HJ := hid hj;clear hd hw hj;simp only [Act.put, fE, fF, fG];generalize vf 6 = y6 at *;subst ff;go_wp2;exact ⟨rfl, only_refl _ _, ⟨S, r, rfl, hS⟩, HJ.out⟩
     · obtain ⟨S, r, ff, hS⟩ := hd 7 (by omega) (by omega) (hw 7 (by kernel_rfl));have HJ := hid hj;clear hd hw hj;simp only [Act.put, fE, fF, fG];generalize vf 7 = y7 at *;subst ff;go_wp2;exact ⟨rfl, only_refl _ _, ⟨S, rfl, hS⟩, HJ.out⟩
     · obtain ⟨S, r, ff, hS⟩ := hd 7 (by omega) (by omega) (hw 7 (by kernel_rfl));have HJ := hid hj;clear hd hw hj;simp only [Act.put, fE, fF, fG];generalize vf 7 = y7 at *;subst ff;go_wp2;exact ⟨rfl, only_refl _ _, ⟨r, rfl⟩, HJ.out⟩
     · obtain ⟨S, ff, hS⟩ := hd 8 (by omega) (by omega) (hw 8 (by kernel_rfl));have HJ := hid hj;clear hd hw hj;simp only [Act.put, fE, fF, fG];generalize vf 8 = y8 at *;subst ff;go_wp2;exact ⟨rfl, only_refl _ _, ⟨S, rfl, hS⟩, HJ.out⟩
   intro vf u1 hb hj hd;obtain ⟨S0, f10, hS0⟩ := hd 10 (by omega) (by omega);obtain ⟨r0, f9⟩ := hd 9 (by omega) (by omega);have hsz12 := HB2.out.size;have HBu := hid (show Below w1.heap.size w1 u1 from HB2.out.trans (only_below (only_trans HO5.out hb) hp hsz12));have HD6 := hid (show DiceS u1 p w2.heap.size from hj);clear hd hb hj HK HO5 HD5 HZ HCB HM;simp only [fillA, fA, fB, fC, fD, fH, Nat.reduceAdd];simp only [Act.put, fE, fF, fG];generalize vf 10 = y10 at *;subst f10;generalize vf 9 = y9 at *;subst f9;clear hzp hpW htn hw34;go_upto_region 6 with fail
   go_cut [44] (fun s44 wx => ∃ b : Bool, s44 = .bool b ∧ (b = false → S0 ≠ ⟨#[]⟩) ∧ Below w1.heap.size w1 wx)
   case first =>
    go_wp2_with (go_at_call 12; refine (next12 (by decide) (by decide) HD6.out).mono ?_; rintro e w7 ⟨x3, rfl, y0, y1, hd, ho⟩; refine Hid.out ?_);refine hid ?_
    have HBw := hid (HBu.out.trans (only_below ho hp HBu.out.size));clear HBu HD6 hd ho y0 y1;by_cases e3 : x3 = 0
    · subst e3;go_wp2_with fail;go_meet;exact ⟨true, rfl, (fun h => by cases h), HBw.out⟩
    · have b3 : (x3 == 0) = false := by simp [e3]
      clear e3
      have ES := hid (show S0.toList.isEmpty = false → S0 ≠ ⟨#[]⟩ from fun h e => by
       subst e;rw [empty_list] at h
       cases h)
      cases hE : S0.toList.isEmpty with
      | true =>
        go_wp2_with fail;go_meet;exact ⟨true, rfl, (fun h => by cases h), HBw.out⟩
      | false =>
        go_wp2_with fail;go_meet;exact ⟨false, rfl, fun _ => ES.out hE, HBw.out⟩
   case rest =>
   clear HBu HD6;obtain ⟨b44, rfl, hb44, hBw⟩ := hcut;rename World => w7
   have HBw := hid hBw;have HS44 := hid hb44;clear hBw hb44;go_upto_if 44 with fail
   go_cut [13] (fun s13 wx => ∃ S : ByteArray, s13 = .string S ∧ 1 ≤ S.size ∧ S.size ≤ 200000 ∧ wx = w7)
   case first =>
    cases b44 with
    | true =>
      go_wp2_with fail;go_meet;exact ⟨_, rfl, by decide, by decide, rfl⟩
    | false =>
      have hpos : 1 ≤ S0.size := Nat.pos_of_ne_zero fun h => HS44.out rfl (by
       cases S0 with
       | mk d => exact congrArg ByteArray.mk (Array.eq_empty_of_size_eq_zero h))
      go_wp2_with fail;go_meet;exact ⟨S0, rfl, hpos, hS0, rfl⟩
   case rest =>
    obtain ⟨S, rfl, hS1, hS2, hw⟩ := hcut;subst hw;have hmb := modp_bd at' (S.size : Int) (by omega);go_upto_region 9 with (go_at_call 15; refine (mod_any at' (S.size : Int) (by omega) _).mono ?_; rintro e w8 ⟨rfl, rfl⟩)
    generalize modp at' (S.size : Int) = mi at *;obtain ⟨ib, rfl⟩ : ∃ ib : Nat, mi = ib := ⟨mi.toNat, by omega⟩
    have hiS : ib < S.size := by omega
    clear hmb;have hcv := run_bytes_of_string (P := Tryz.prog) w8 9 46 5 S Tryz.underlying9 Tryz.underlying46 Tryz.underlying5;have hge := grownCap_ge w8 S.size 0 5
    go_upto_block 0 with fail
    clear hcv;generalize grownCap w8 S.size 0 5 = cap at *;have HQ := hid (show Below w1.heap.size w1 (w8.alloc (.cells (bytesRow S cap) 5 ((bytesRow S cap).size, (bytesRow S cap).size + 1))).drew ∧ BR (w8.alloc (.cells (bytesRow S cap) 5 ((bytesRow S cap).size, (bytesRow S cap).size + 1))).drew w8.heap.size cap S.size (bytesRow S cap) from ⟨(HBw.out.alloc HBw.out.size _).drew, br_new w8 S cap hge⟩);have hg1 : w1.heap.size ≤ w8.heap.size := HBw.out.size;have hg9 : w8.heap.size < (w8.alloc (.cells (bytesRow S cap) 5 ((bytesRow S cap).size, (bytesRow S cap).size + 1))).drew.heap.size := by simp
    have hle : S.size ≤ cap := hge;clear hge HBw;generalize (w8.alloc _).drew = w9 at *;generalize w8.heap.size = g at *;generalize bytesRow S cap = cur at *;have hw19 : w1.heap.size ≤ w9.heap.size := by omega
    go_cut [16] (fun s16 wx => ∃ (a : Option Addr) (l : List UInt8) (c : Nat), s16 = .slice a l.length c ∧ ByAt wx a l ∧ l.length ≤ 300000 ∧ Below w1.heap.size w1 wx)
    case first =>
     go_upto_if 60 with fail
     have hk5 : 0 ≤ (how.toNat : Int) % 5 ∧ (how.toNat : Int) % 5 < 5 := by omega
     generalize (how.toNat : Int) % 5 = k5 at *;by_cases e0 : k5 = 0
     · subst e0;obtain ⟨y0, hcz⟩ := HQ.out.2.cell (k := ib) hiS;have hfz := HQ.out.2.frozen (k := ib) (by omega);go_wp2_with fail;go_meet;obtain ⟨l, hl, hby⟩ := (HQ.out.2.set ib bx).byAt;exact ⟨_, l, cap, by rw [hl], hby, by omega, HQ.out.1.setCell (p := ⟨g, ib, none⟩) hg1 _⟩
     · have b0 : (k5 == 0) = false := by simp [e0]
       by_cases e1 : k5 = 1
       · subst e1;clear e0;go_upto_region 15 with fail
         refine wp_region_peelJ 0 7 (fun _ _ => True) (fun i v u => match i with
          | 0 => v = .slice (some ⟨g, 0, none⟩) S.size cap
          | 1 => v = .int .i64 ib
          | 2 => v = .slice (some ⟨g, 0, none⟩) ib cap
          | 3 => v = .slice (some ⟨g, 0, none⟩) S.size cap
          | 4 => v = .int .i64 ib
          | 5 => v = .int .i64 ((ib + 1 : Nat) : Int)
          | 6 => ∃ q, v = .slice (some ⟨g, q, none⟩) (S.size - (ib + 1)) (cap - (ib + 1)) ∧ q + (S.size - (ib + 1)) ≤ S.size
          | _ => True) (fun _ _ u => (Below w1.heap.size w1 u ∧ BR u g cap S.size cur)) (by kernel_rfl) (by kernel_rfl) rfl (fun _ _ d _ _ h => by cases d <;> exact h) trivial (fun _ _ _ _ _ => trivial) (fun _ _ _ _ _ _ _ h => h) ⟨HQ.out.1.drew, HQ.out.2.kept rfl⟩ ?_ ?_ ?_
         · intro i v w1 w2 hb h
           match i with
           | 0 => exact h
           | 1 => exact h
           | 2 => exact h
           | 3 => exact h
           | 4 => exact h
           | 5 => exact h
           | 6 => exact h
           | k + 7 => exact h
         · intro i o hp hi ho L vf u1 hun hw hb hj hd;have hi' : i = 0 ∨ i = 1 ∨ i = 2 ∨ i = 3 ∨ i = 4 ∨ i = 5 ∨ i = 6 := by omega
           rcases hi' with rfl | rfl | rfl | rfl | rfl | rfl | rfl
           all_goals obtain rfl := oI ho
           all_goals simp only [fillA, fA, fB, fC, fD, fH, Nat.reduceAdd]
           · have HJ := hid hj;clear hd hw hj;simp only [Act.put, fE, fF, fG];go_wp2
             all_goals first | exact ⟨rfl, trivial, rfl, HJ.out⟩ | exact ⟨rfl, rfl, HJ.out⟩ | (subst_vars; exact ⟨rfl, rfl, HJ.out⟩)
           · have HJ := hid hj;clear hd hw hj;simp only [Act.put, fE, fF, fG];go_wp2
             all_goals first | exact ⟨rfl, trivial, rfl, HJ.out⟩ | exact ⟨rfl, rfl, HJ.out⟩ | (subst_vars; exact ⟨rfl, rfl, HJ.out⟩)
           · have f0 := hd 0 (by omega) (by omega) (hw 0 (by kernel_rfl));have f1 := hd 1 (by omega) (by omega) (hw 1 (by kernel_rfl));have HJ := hid hj;clear hd hw hj;simp only [Act.put, fE, fF, fG];generalize vf 0 = y0 at *;subst f0;generalize vf 1 = y1 at *;subst f1;go_wp2
             all_goals first | exact ⟨rfl, trivial, (slice_hi hle hiS), HJ.out⟩ | exact ⟨rfl, (slice_hi hle hiS), HJ.out⟩ | (subst_vars; exact ⟨rfl, (slice_hi hle hiS), HJ.out⟩)
           · have HJ := hid hj;clear hd hw hj;simp only [Act.put, fE, fF, fG];go_wp2
             all_goals first | exact ⟨rfl, trivial, rfl, HJ.out⟩ | exact ⟨rfl, rfl, HJ.out⟩ | (subst_vars; exact ⟨rfl, rfl, HJ.out⟩)
           · have HJ := hid hj;clear hd hw hj;simp only [Act.put, fE, fF, fG];go_wp2
             all_goals first | exact ⟨rfl, trivial, rfl, HJ.out⟩ | exact ⟨rfl, rfl, HJ.out⟩ | (subst_vars; exact ⟨rfl, rfl, HJ.out⟩)
           · have f4 := hd 4 (by omega) (by omega) (hw 4 (by kernel_rfl));have HJ := hid hj;clear hd hw hj;simp only [Act.put, fE, fF, fG];generalize vf 4 = y4 at *;subst f4;go_wp2
             all_goals first | exact ⟨rfl, trivial, (by go_num), HJ.out⟩ | exact ⟨rfl, (by go_num), HJ.out⟩ | (subst_vars; exact ⟨rfl, (by go_num), HJ.out⟩)
           · have f3 := hd 3 (by omega) (by omega) (hw 3 (by kernel_rfl));have f5 := hd 5 (by omega) (by omega) (hw 5 (by kernel_rfl));have HJ := hid hj;clear hd hw hj;simp only [Act.put, fE, fF, fG];generalize vf 3 = y3 at *;subst f3;generalize vf 5 = y5 at *;subst f5;go_wp2
             all_goals first | exact ⟨rfl, trivial, ⟨_, rfl, by omega⟩, HJ.out⟩ | exact ⟨rfl, ⟨_, rfl, by omega⟩, HJ.out⟩ | (subst_vars; exact ⟨rfl, ⟨_, rfl, by omega⟩, HJ.out⟩)
         intro vf u1 hb hj hd;have f2 := hd 2 (by omega) (by omega);obtain ⟨q, f6, hq⟩ := hd 6 (by omega) (by omega);have HJ := hid (show Below w1.heap.size w1 u1 ∧ BR u1 g cap S.size cur from hj);clear hd hb hj;simp only [fillA, fA, fB, fC, fD, fH, Nat.reduceAdd];simp only [Act.put, fE, fF, fG];generalize vf 2 = y2 at *;subst f2;generalize vf 6 = y6 at *;subst f6;go_wp2_with (at_builtin; refine wpB_room u1 rfl (.tmp 70) (.tmp 74) rfl g cap S.size cur HJ.out.2 ib q (S.size - (ib + 1)) (cap - (ib + 1)) rfl rfl hq (by omega) ?_; intro w16 cur' r1 r2 r3);go_meet;obtain ⟨l, hl, hby⟩ := r1.byAt;exact ⟨_, l, cap, by rw [hl], hby, by omega, HJ.out.1.grown r3 HJ.out.1.size (fun k hk => by injection hk with hk; omega)⟩
       · have b1 : (k5 == 1) = false := by simp [e1]
         by_cases e2 : k5 = 2
         · subst e2;clear e0 e1;go_upto_region 17 with fail
           refine wp_region_peelJ 0 12 (fun _ _ => True) (fun i v u => match i with
            | 0 => True
            | 1 => v = .slice (some ⟨g, 0, none⟩) S.size cap
            | 2 => v = .int .i64 ib
            | 3 => v = .slice (some ⟨g, 0, none⟩) ib cap
            | 4 => True
            | 5 => v = .int .u8 (bx.toNat : Int)
            | 6 => True
            | 7 => True
            | 8 => v = .slice (some ⟨g, 0, none⟩) S.size cap
            | 9 => v = .int .i64 ib
            | 10 => ∃ q, v = .slice (some ⟨g, q, none⟩) (S.size - ib) (cap - ib) ∧ q + (S.size - ib) ≤ S.size
            | 11 => True
            | _ => True) (J17 w9.heap.size (fun u => (Below w1.heap.size w1 u ∧ BR u g cap S.size cur)) ib S.size) (by kernel_rfl) (by kernel_rfl) rfl (fun _ _ d _ _ h => by cases d <;> exact h) trivial (fun _ _ _ _ _ => trivial) (fun L L' vs vs' u h1 h2 h => J17.congr L L' vs vs' u h1 h2 h) (J17.start ⟨HQ.out.1.drew, HQ.out.2.kept rfl⟩ (Nat.le_refl _)) ?_ ?_ ?_
           · intro i v w1 w2 hb h
             match i with
             | 0 => exact h
             | 1 => exact h
             | 2 => exact h
             | 3 => exact h
             | 4 => exact h
             | 5 => exact h
             | 6 => exact h
             | 7 => exact h
             | 8 => exact h
             | 9 => exact h
             | 10 => exact h
             | 11 => exact h
             | k + 12 => exact h
           · intro i o hp hi ho L vf u1 hun hw hb hj hd;have hi' : i = 0 ∨ i = 1 ∨ i = 2 ∨ i = 3 ∨ i = 4 ∨ i = 5 ∨ i = 6 ∨ i = 7 ∨ i = 8 ∨ i = 9 ∨ i = 10 ∨ i = 11 := by omega
             rcases hi' with rfl | rfl | rfl | rfl | rfl | rfl | rfl | rfl | rfl | rfl | rfl | rfl
             all_goals obtain rfl := oI ho
             all_goals simp only [fillA, fA, fB, fC, fD, fH, Nat.reduceAdd]
             · have hJ := hj;obtain ⟨s, -, -, hB, -, -, -⟩ := hj;have HB := hid hB;have HL := hid (hJ.lit0 hun ⟨hB.1.alloc hB.1.size _, hB.2.kept (alloc_kept u1 _ hB.2.lt)⟩);clear hd hw hJ hB;go_wp2;first | exact ⟨rfl, trivial, trivial, HL.out⟩ | exact ⟨rfl, HL.out⟩
             · have HJ := hid hj;clear hd hw hj;simp only [Act.put, fE, fF, fG];go_wp2
               all_goals first | exact ⟨rfl, trivial, rfl, HJ.out.other (by decide)⟩ | exact ⟨rfl, rfl, HJ.out.other (by decide)⟩ | (subst_vars; exact ⟨rfl, rfl, HJ.out.other (by decide)⟩)
             · have HJ := hid hj;clear hd hw hj;simp only [Act.put, fE, fF, fG];go_wp2
               all_goals first | exact ⟨rfl, trivial, rfl, HJ.out.other (by decide)⟩ | exact ⟨rfl, rfl, HJ.out.other (by decide)⟩ | (subst_vars; exact ⟨rfl, rfl, HJ.out.other (by decide)⟩)
             · have f1 := hd 1 (by omega) (by omega) (hw 1 (by kernel_rfl));have f2 := hd 2 (by omega) (by omega) (hw 2 (by kernel_rfl));have HJ := hid hj;clear hd hw hj;simp only [Act.put, fE, fF, fG];generalize vf 1 = y1 at *;subst f1;generalize vf 2 = y2 at *;subst f2;go_wp2
               all_goals first | exact ⟨rfl, trivial, (slice_hi hle hiS), HJ.out.other (by decide)⟩ | exact ⟨rfl, (slice_hi hle hiS), HJ.out.other (by decide)⟩ | (subst_vars; exact ⟨rfl, (slice_hi hle hiS), HJ.out.other (by decide)⟩)
             · have f3 := hd 3 (by omega) (by omega) (hw 3 (by kernel_rfl));have hJ := hj;obtain ⟨s, -, -, hB, hM, -, h6⟩ := hj;have hr := hJ.stage (s0 := 1) (by decide) (by decide) (hw 0 (by kernel_rfl)) hun;have HR := hid (show ByR u1 w9.heap.size (vf 0) (cn ib S.size 1) from hr);have HB := hid hB;have hsM := hM;have HN := hid (fun (v' : Value) (u' : World) (r1 : ByR u' w9.heap.size v' (cn ib S.size 2)) (r2 : u1.grownBy u' (vf 0).ownBlock) (r3 : v'.ownBlock = (vf 0).ownBlock ∨ v'.ownBlock = some u1.heap.size) (r4 : Below w1.heap.size w1 u' ∧ BR u' g cap S.size cur) => hJ.next (s0 := 1) (by decide) (by decide) (hw 0 (by kernel_rfl)) hun r1 r2 r3 r4);clear hd hw hJ hr hB h6 hM;simp only [Act.put, fE, fF, fG];generalize vf 3 = y3 at *;subst f3;generalize vf 0 = v0 at *;go_wp2_with (at_builtin; refine wpList_append_by u1 w9.heap.size rfl (.tmp 78) (.tmp 81) rfl v0 (cn ib S.size 1) rfl HR.out g 0 ib cap rfl (fun k hk => by rw [Nat.zero_add]; exact HB.out.2.cell (by omega)) (by show 0 + ib ≤ _; omega) hsM ?_; intro v' w' r1 r2 r3)
               have hkk : ∀ k, k < w9.heap.size → some k ≠ v0.ownBlock := fun k hk e => by
                obtain ⟨l, -, ho⟩ := HR.out;have := (ho.lt k e.symm).1;omega
               all_goals first | exact ⟨rfl, trivial, trivial, HN.out v' w' (by rwa [show cn ib S.size 1 + ib = cn ib S.size 2 from Nat.zero_add ib] at r1) r2 r3 ⟨HB.out.1.grown r2 HB.out.1.size (fun k hk => Nat.le_of_not_lt fun h => hkk k (Nat.lt_of_lt_of_le h hw19) hk.symm), HB.out.2.kept (r2.block g HB.out.2.lt (hkk g hg9))⟩⟩ | exact ⟨rfl, HN.out v' w' (by rwa [show cn ib S.size 1 + ib = cn ib S.size 2 from Nat.zero_add ib] at r1) r2 r3 ⟨HB.out.1.grown r2 HB.out.1.size (fun k hk => Nat.le_of_not_lt fun h => hkk k (Nat.lt_of_lt_of_le h hw19) hk.symm), HB.out.2.kept (r2.block g HB.out.2.lt (hkk g hg9))⟩⟩ | (subst_vars; exact ⟨rfl, HN.out v' w' (by rwa [show cn ib S.size 1 + ib = cn ib S.size 2 from Nat.zero_add ib] at r1) r2 r3 ⟨HB.out.1.grown r2 HB.out.1.size (fun k hk => Nat.le_of_not_lt fun h => hkk k (Nat.lt_of_lt_of_le h hw19) hk.symm), HB.out.2.kept (r2.block g HB.out.2.lt (hkk g hg9))⟩⟩)
             · have HJ := hid hj;clear hd hw hj;simp only [Act.put, fE, fF, fG];go_wp2
               all_goals first | exact ⟨rfl, trivial, rfl, HJ.out.other (by decide)⟩ | exact ⟨rfl, rfl, HJ.out.other (by decide)⟩ | (subst_vars; exact ⟨rfl, rfl, HJ.out.other (by decide)⟩)
             · have f5 := hd 5 (by omega) (by omega) (hw 5 (by kernel_rfl));have hJ := hj;obtain ⟨s, -, -, hB, -, -, -⟩ := hj;have HL := hid (hJ.lit6 bx ⟨hB.1.alloc hB.1.size _, hB.2.kept (alloc_kept u1 _ hB.2.lt)⟩);clear hd hw hJ hB;simp only [Act.put, fE, fF, fG];generalize vf 5 = y5 at *;subst f5;go_wp2;first | exact ⟨rfl, trivial, trivial, HL.out⟩ | exact ⟨rfl, HL.out⟩
             · have hJ := hj;obtain ⟨s, -, -, hB, hM, -, h6⟩ := hj;have hr := hJ.stage (s0 := 2) (by decide) (by decide) (hw 4 (by kernel_rfl)) hun;have HR := hid (show ByR u1 w9.heap.size (vf 4) (cn ib S.size 2) from hr);have HB := hid hB;have hsM := hM;obtain ⟨q6, ⟨hy6, -, hc6⟩, -⟩ := h6 (hw 6 (by kernel_rfl));generalize hv6 : vf 6 = y6 at hy6;subst hy6;have HL6 := hid hc6;clear hc6;have HN := hid (fun (v' : Value) (u' : World) (r1 : ByR u' w9.heap.size v' (cn ib S.size 3)) (r2 : u1.grownBy u' (vf 4).ownBlock) (r3 : v'.ownBlock = (vf 4).ownBlock ∨ v'.ownBlock = some u1.heap.size) (r4 : Below w1.heap.size w1 u' ∧ BR u' g cap S.size cur) => hJ.next (s0 := 2) (by decide) (by decide) (hw 4 (by kernel_rfl)) hun r1 r2 r3 r4);clear hd hw hJ hr hB h6 hM;simp only [Act.put, fE, fF, fG];generalize vf 6 = y6 at *;subst hv6;generalize vf 4 = v0 at *;go_wp2_with (at_builtin; refine wpList_append_by u1 w9.heap.size rfl (.tmp 82) (.tmp 84) rfl v0 (cn ib S.size 2) rfl HR.out q6 0 1 1 rfl (fun k hk => by rw [show 0 + k = 0 by omega]; exact HL6.out) (by show ib + 1 ≤ _; omega) hsM ?_; intro v' w' r1 r2 r3)
               have hkk : ∀ k, k < w9.heap.size → some k ≠ v0.ownBlock := fun k hk e => by
                obtain ⟨l, -, ho⟩ := HR.out;have := (ho.lt k e.symm).1;omega
               all_goals first | exact ⟨rfl, trivial, trivial, HN.out v' w' r1 r2 r3 ⟨HB.out.1.grown r2 HB.out.1.size (fun k hk => Nat.le_of_not_lt fun h => hkk k (Nat.lt_of_lt_of_le h hw19) hk.symm), HB.out.2.kept (r2.block g HB.out.2.lt (hkk g hg9))⟩⟩ | exact ⟨rfl, HN.out v' w' r1 r2 r3 ⟨HB.out.1.grown r2 HB.out.1.size (fun k hk => Nat.le_of_not_lt fun h => hkk k (Nat.lt_of_lt_of_le h hw19) hk.symm), HB.out.2.kept (r2.block g HB.out.2.lt (hkk g hg9))⟩⟩ | (subst_vars; exact ⟨rfl, HN.out v' w' r1 r2 r3 ⟨HB.out.1.grown r2 HB.out.1.size (fun k hk => Nat.le_of_not_lt fun h => hkk k (Nat.lt_of_lt_of_le h hw19) hk.symm), HB.out.2.kept (r2.block g HB.out.2.lt (hkk g hg9))⟩⟩)
             · have HJ := hid hj;clear hd hw hj;simp only [Act.put, fE, fF, fG];go_wp2
               all_goals first | exact ⟨rfl, trivial, rfl, HJ.out.other (by decide)⟩ | exact ⟨rfl, rfl, HJ.out.other (by decide)⟩ | (subst_vars; exact ⟨rfl, rfl, HJ.out.other (by decide)⟩)
             · have HJ := hid hj;clear hd hw hj;simp only [Act.put, fE, fF, fG];go_wp2
               all_goals first | exact ⟨rfl, trivial, rfl, HJ.out.other (by decide)⟩ | exact ⟨rfl, rfl, HJ.out.other (by decide)⟩ | (subst_vars; exact ⟨rfl, rfl, HJ.out.other (by decide)⟩)
             · have f8 := hd 8 (by omega) (by omega) (hw 8 (by kernel_rfl));have f9 := hd 9 (by omega) (by omega) (hw 9 (by kernel_rfl));have HJ := hid hj;clear hd hw hj;simp only [Act.put, fE, fF, fG];generalize vf 8 = y8 at *;subst f8;generalize vf 9 = y9 at *;subst f9;go_wp2
               all_goals first | exact ⟨rfl, trivial, ⟨ib, rfl, by omega⟩, HJ.out.other (by decide)⟩ | exact ⟨rfl, ⟨ib, rfl, by omega⟩, HJ.out.other (by decide)⟩ | (subst_vars; exact ⟨rfl, ⟨ib, rfl, by omega⟩, HJ.out.other (by decide)⟩)
             · have hJ := hj;obtain ⟨s, -, -, hB, hM, -, h6⟩ := hj;have hr := hJ.stage (s0 := 3) (by decide) (by decide) (hw 7 (by kernel_rfl)) hun;have HR := hid (show ByR u1 w9.heap.size (vf 7) (cn ib S.size 3) from hr);have HB := hid hB;have hsM := hM;obtain ⟨q, f10, hq⟩ := hd 10 (by omega) (by omega) (hw 10 (by kernel_rfl));have HN := hid (fun (v' : Value) (u' : World) (r1 : ByR u' w9.heap.size v' (cn ib S.size 4)) (r2 : u1.grownBy u' (vf 7).ownBlock) (r3 : v'.ownBlock = (vf 7).ownBlock ∨ v'.ownBlock = some u1.heap.size) (r4 : Below w1.heap.size w1 u' ∧ BR u' g cap S.size cur) => hJ.next (s0 := 3) (by decide) (by decide) (hw 7 (by kernel_rfl)) hun r1 r2 r3 r4);clear hd hw hJ hr hB h6 hM;simp only [Act.put, fE, fF, fG];generalize vf 10 = y10 at *;subst f10;generalize vf 7 = v0 at *;go_wp2_with (at_builtin; refine wpList_append_by u1 w9.heap.size rfl (.tmp 85) (.tmp 88) rfl v0 (cn ib S.size 3) rfl HR.out g q (S.size - ib) (cap - ib) rfl (fun k hk => HB.out.2.cell (by omega)) (by show ib + 1 + (S.size - ib) ≤ _; omega) hsM ?_; intro v' w' r1 r2 r3)
               have hkk : ∀ k, k < w9.heap.size → some k ≠ v0.ownBlock := fun k hk e => by
                obtain ⟨l, -, ho⟩ := HR.out;have := (ho.lt k e.symm).1;omega
               all_goals first | exact ⟨rfl, trivial, trivial, HN.out v' w' (by rwa [show cn ib S.size 3 + (S.size - ib) = cn ib S.size 4 from (show ib + 1 + (S.size - ib) = S.size + 1 by omega)] at r1) r2 r3 ⟨HB.out.1.grown r2 HB.out.1.size (fun k hk => Nat.le_of_not_lt fun h => hkk k (Nat.lt_of_lt_of_le h hw19) hk.symm), HB.out.2.kept (r2.block g HB.out.2.lt (hkk g hg9))⟩⟩ | exact ⟨rfl, HN.out v' w' (by rwa [show cn ib S.size 3 + (S.size - ib) = cn ib S.size 4 from (show ib + 1 + (S.size - ib) = S.size + 1 by omega)] at r1) r2 r3 ⟨HB.out.1.grown r2 HB.out.1.size (fun k hk => Nat.le_of_not_lt fun h => hkk k (Nat.lt_of_lt_of_le h hw19) hk.symm), HB.out.2.kept (r2.block g HB.out.2.lt (hkk g hg9))⟩⟩ | (subst_vars; exact ⟨rfl, HN.out v' w' (by rwa [show cn ib S.size 3 + (S.size - ib) = cn ib S.size 4 from (show ib + 1 + (S.size - ib) = S.size + 1 by omega)] at r1) r2 r3 ⟨HB.out.1.grown r2 HB.out.1.size (fun k hk => Nat.le_of_not_lt fun h => hkk k (Nat.lt_of_lt_of_le h hw19) hk.symm), HB.out.2.kept (r2.block g HB.out.2.lt (hkk g hg9))⟩⟩)
           intro vf u1 hb hj hd;have hJ := hj;obtain ⟨s, hs4, hl, hB, hM, hr, -⟩ := hj
           obtain rfl : s = 4 := by
            have := of_decide_eq_true (hl 4 (by decide) (by decide)).symm;omega
           obtain ⟨a, l, c1, e, hl2, hby⟩ := byR_byAt (hr (by decide));have e : vf 11 = .slice a l.length c1 := e;have hl2 : l.length = S.size + 1 := hl2;have HBY := hid hby;have HB := hid hB;clear hd hb hJ hl hB hM hr hby;simp only [fillA, fA, fB, fC, fD, fH, Nat.reduceAdd];simp only [Act.put, fE, fF, fG];generalize vf 11 = y11 at *;subst e;go_wp2_with fail;go_meet;exact ⟨a, l, c1, rfl, HBY.out, by omega, HB.out.1⟩
         · have b2 : (k5 == 2) = false := by simp [e2]
           by_cases e3 : k5 = 3
           · subst e3;clear e0 e1 e2;go_wp2_with fail;go_meet;obtain ⟨l, hl, hby⟩ := (HQ.out.2.less (m := ib) (by omega)).byAt;exact ⟨_, l, cap, by rw [hl], hby, by omega, HQ.out.1⟩
           · have b3 : (k5 == 3) = false := by simp [e3]
             clear e0 e1 e2 e3 hk5;go_wp2_with (at_builtin; refine wpList_append_by _ w9.heap.size rfl (.tmp 53) (.tmp 54) rfl (.slice (some ⟨w9.heap.size, 0, none⟩) 0 0) 0 rfl ⟨[], rfl, own_lit w9 5 1⟩ g 0 S.size cap rfl (fun k hk => by rw [Nat.zero_add]; exact (HQ.out.2.kept (alloc_kept w9 _ hg9)).cell hk) (by omega) (by simp) ?_; intro v' w' r1 r2 r3; refine Hid.out ?_);refine hid ?_
             have hmt := modp_bd tw 170 (by decide);have HR := hid r1;have HB := hid (show Below w1.heap.size w1 w' from (HQ.out.1.alloc HQ.out.1.size _).grown r2 (HQ.out.1.alloc HQ.out.1.size _).size (fun k hk => by have e : w9.heap.size = k := oI hk; omega))
             have hsz9 : w9.heap.size ≤ w'.heap.size := by
              have := r2.size;simp at this;omega
             clear r1 r2 r3;go_wp2_with (first | (go_at_call 15; refine (mod_any tw 170 (by decide) _).mono ?_; rintro e w10 ⟨rfl, rfl⟩) | (at_builtin; refine wpB_strR _ w9.heap.size rfl (.tmp 55) (.tmp 58) rfl v' (0 + S.size) rfl HR.out _ rfl (by rw [ByteArray.size_extract]; have : (170 : Nat) ≤ 170 := Nat.le_refl _; omega) (by omega) ?_; intro v2 w12 r1 r2; refine Hid.out ?_));refine hid ?_
             obtain ⟨l0, -, ho0⟩ := HR.out;have HB2 := hid (HB.out.grown r2 HB.out.size (fun k hk => by have := (ho0.lt k hk).1; omega));have hex : ∀ s2 : ByteArray, s2.size ≤ 170 → 0 + S.size + s2.size ≤ 300000 := fun s2 h => by omega
             obtain ⟨a2, l2, c2, rfl, hl2, hby2⟩ := byR_byAt r1;have HY := hid hby2;have HL2 := hid (show l2.length ≤ 300000 from by rw [hl2, ByteArray.size_extract]; omega);clear hl2 hby2 r1 r2 ho0 hex;go_wp2_with fail;go_meet;exact ⟨a2, l2, c2, rfl, HY.out, HL2.out, HB2.out⟩
    case rest =>
     obtain ⟨a9, l9, c9, rfl, hb9, hl9, hB9⟩ := hcut;have K1 := hid (HA.out wc hB9 S (by omega));go_wp2_with (go_at_call 7; refine K1.out.mono ?_; rintro e w10 ⟨rfl, hb10⟩; refine Hid.out ?_);refine hid ?_
     have hB10 := bthen' hB9 hb10;have hcv := conv_at c9 (hb9.mono hb10);have K2 := hid (HA.out w10 hB10 (bs l9) (by rw [bs_size]; omega));have HB10 := hid hB10;clear hb9 hb10 hB10 hB9;go_wp2_with (first | (go_at_call 7; refine K2.out.mono ?_; rintro e w11 ⟨rfl, hb11⟩) | (go_at_call 8; refine (KW.out _ (bthen' HB10.out hb11)).mono ?_; rintro e w12 ⟨rfl, hb12⟩));go_ret
     exact ⟨rfl, bthen' (bthen' HB10.out hb11) hb12⟩
 · go_enter Tryz.func4, Tryz.ntmps4;go_wp2_with (first | (go_at_call 9; refine (light_any a n cc _).mono ?_; rintro e w1 ⟨rfl, rfl⟩; refine Hid.out ?_));refine hid ?_
   go_wp2_with (go_at_call 8; refine (KW.out w1 (bR)).mono ?_; rintro e w3 ⟨rfl, hb3⟩);go_ret
   exact ⟨rfl, hb3⟩
end
end Go.Proofs.YtgflfdnajchjaaaGreatDoor
