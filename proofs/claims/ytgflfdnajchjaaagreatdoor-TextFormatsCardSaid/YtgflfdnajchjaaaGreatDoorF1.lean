import Derived.Test.YtgflfdnajchjaaaGreatDoorN1
import Derived.Test.YtgflfdnajchjaaaGreatDoorRowM
import Derived.Laws.AppendOwnNone
import Derived.Test.YtgflfdnajchjaaaGreatDoorPeelJ
import Derived.Test.YtgflfdnajchjaaaGreatDoorFA
import Derived.Laws.OwnMore
/- Layer 45: networks that are changed a little, with any packets (for TextFormats). -/
namespace Go.Proofs.YtgflfdnajchjaaaGreatDoor
set_option linter.unusedVariables false
set_option linter.unusedSimpArgs false
open Go.RowKit Go.Sort
open Go.Lib (itoa)
open Tm
def Q0 : Nat → Tr := fun _ => ⟨0, 0, 0, 0, none, 0, 0, []⟩
/-- A network whose numbers are small. -/
structure NetM (c : Cf) (X : Nat → Ch.Fd) (T : Nat → Te) : Prop where
  d : DocN (docOf c X T 0 Q0)
  fn : c.fn ≤ 180
  tn : 1 ≤ c.tn ∧ c.tn ≤ 3
  bn : ∀ k, k < c.tn → (T k).bn ≤ 2
  h15 : c.h 15 = 0
  kb : ∀ k, k < c.tn → (T k).kn = (T k).bn
theorem netM_of {c : Cf} {X : Nat → Ch.Fd} {T : Nat → Te} {i : Nat} (H : CfB c X T i) (hi : 1 ≤ i ∧ i ≤ 3) : NetM c X T :=
  ⟨docN_net (n := 0) (tk := 0) H hi.2 (by decide) (fun k hk => absurd hk (Nat.not_lt_zero k)), by have := H.fn; omega, by have := H.tn; omega, fun k hk => by have := (H.t k hk).n; omega, H.h.b15, fun k hk => (H.t k hk).e⟩
/-- Another seed. -/
def seedC (c : Cf) (s : Int) : Cf := { c with h := fun k => if k = 0 then s else c.h k }
theorem NetM.seed {c : Cf} {X : Nat → Ch.Fd} {T : Nat → Te} (M : NetM c X T) {s : Int} (hs : smallI s) : NetM (seedC c s) X T := by
  refine ⟨⟨fun n hn => ?_, M.d.h1, M.d.h2, M.d.h3, M.d.f, M.d.t, M.d.p⟩, M.fn, M.tn, M.bn, M.h15, M.kb⟩
  rcases List.mem_cons.1 (show n ∈ s :: [c.h 1, c.h 2, c.h 3, c.h 4, c.h 5, c.h 6, c.h 7, c.h 8] from hn) with rfl | hn
  · exact hs
  · exact M.d.h0 n (List.mem_cons_of_mem _ hn)
/-- Another class of the first terminal. -/
def clsT (T : Nat → Te) (v : Int) : Nat → Te := fun k => if k = 0 then { T 0 with cs := v } else T k
theorem cls_zero (T : Nat → Te) (v : Int) : clsT T v 0 = { T 0 with cs := v } := if_pos rfl
theorem cls_ne {T : Nat → Te} {v : Int} {k : Nat} (h : k ≠ 0) : clsT T v k = T k := if_neg h
theorem NetM.cls {c : Cf} {X : Nat → Ch.Fd} {T : Nat → Te} (M : NetM c X T) {v : Int} (hv : smallI v) : NetM c X (clsT T v) := by
  refine ⟨⟨M.d.h0, M.d.h1, M.d.h2, M.d.h3, M.d.f, fun x hx => ?_, M.d.p⟩, M.fn, M.tn, fun k hk => ?_, M.h15, fun k hk => ?_⟩
  · obtain ⟨k, hk, rfl⟩ := List.mem_map.1 hx
    have h := M.d.t (teS (T k)) (List.mem_map.2 ⟨k, hk, rfl⟩)
    by_cases h0 : k = 0
    · subst h0
      rw [cls_zero]
      refine ⟨fun n hn => ?_, h.2⟩
      rcases List.mem_cons.1 (show n ∈ (T 0).cl :: v :: [(T 0).bt, (T 0).fr, (T 0).wd, (T 0).bk, (T 0).cy, (T 0).of', (T 0).on', (T 0).li, (T 0).sh, (T 0).ss] from hn) with rfl | hn
      · exact h.1 _ (List.mem_cons_self ..)
      rcases List.mem_cons.1 hn with rfl | hn
      · exact hv
      · exact h.1 n (List.mem_cons_of_mem _ (List.mem_cons_of_mem _ hn))
    · rw [cls_ne h0]
      exact h
  · by_cases h0 : k = 0
    · subst h0
      rw [cls_zero]
      exact M.bn 0 hk
    · rw [cls_ne h0]
      exact M.bn k hk
  · by_cases h0 : k = 0
    · subst h0
      rw [cls_zero]
      exact M.kb 0 hk
    · rw [cls_ne h0]
      exact M.kb k hk
theorem firstE_all {f : Nat → Int} : ∀ {n : Nat}, firstE f n = 0 → ∀ k, k < n → f k = 0
  | 0, _, k, hk => absurd hk (Nat.not_lt_zero k)
  | n + 1, h, k, hk => by
    have h1 : firstE f n = 0 := Classical.byContradiction fun hne => hne ((firstE_keep (Nat.le_succ n) hne).symm.trans h)
    by_cases hkn : k < n
    · exact firstE_all h1 k hkn
    · obtain rfl : k = n := by omega
      exact (if_pos h1 : firstE f (k + 1) = f k).symm.trans h
/-- What a document that is right says of its packets. -/
theorem pkt_right {c : Cf} {X : Nat → Ch.Fd} {T : Nat → Te} {n : Nat} {Q : Nat → Tr} (h : chkD (docOf c X T n Q) = 0) : ∀ k, k < n → SmL (trS (Q k)).1 ∧ (trS (Q k)).2 ≠ [] := fun k hk => by
  have e1 : (docOf c X T n Q).pkts.length = n := by show ((List.range n).map _).length = _; simp
  unfold chkD at h
  split at h
  · rename_i hne
    exact absurd h hne
  · rw [e1] at h
    unfold trafC at h
    split at h
    · exact absurd h (by decide)
    · have g := firstE_all h k hk
      have e2 : (docOf c X T n Q).pkts.getD k ([], []) = trS (Q k) := by
        show ((List.range n).map fun k => trS (Q k)).getD k ([], []) = _
        rw [getD_map_range _ _ _ _ hk]
      simp only [e2] at g
      unfold pktC at g
      split at g
      · exact absurd g (by decide)
      · rename_i hl
        split at g
        · rename_i hb
          simp only [Ch.btw, decide_eq_true_eq] at hb
          obtain ⟨b0, b1, b2, b3⟩ := hb
          refine ⟨fun m hm => ?_, fun e => hl (.inl (by rw [e]; decide))⟩
          rcases List.mem_cons.1 (show m ∈ [(trS (Q k)).1.getD 0 0, (trS (Q k)).1.getD 1 0, (trS (Q k)).1.getD 2 0, (trS (Q k)).1.getD 3 0] from hm) with rfl | hm
          · exact ⟨by omega, by omega⟩
          rcases List.mem_cons.1 hm with rfl | hm
          · exact ⟨by omega, by omega⟩
          rcases List.mem_cons.1 hm with rfl | hm
          · exact ⟨by omega, by omega⟩
          rcases List.mem_cons.1 hm with rfl | hm
          · exact ⟨by omega, by omega⟩
          · cases hm
        · exact absurd g (by decide)
theorem docN_chk {c : Cf} {X : Nat → Ch.Fd} {T : Nat → Te} (M : NetM c X T) {n : Nat} {Q : Nat → Tr} (h : chkD (docOf c X T n Q) = 0) : DocN (docOf c X T n Q) :=
  ⟨M.d.h0, M.d.h1, M.d.h2, M.d.h3, M.d.f, M.d.t, fun x hx => by
    obtain ⟨k, hk, rfl⟩ := List.mem_map.1 hx
    exact (pkt_right h k (List.mem_range.1 hk)).1⟩
theorem docF_all {c : Cf} {X : Nat → Ch.Fd} {T : Nat → Te} {n : Nat} {Q : Nat → Tr} (h : ∀ k, k < n → (Q k).by' ≠ []) : DocF (docOf c X T n Q) := by
  refine ⟨rfl, rfl, rfl, rfl, fun l hl => ?_, fun x hx => ?_, fun x hx => ?_⟩
  · obtain ⟨k, -, rfl⟩ := List.mem_map.1 hl
    rfl
  · obtain ⟨k, -, rfl⟩ := List.mem_map.1 hx
    refine ⟨rfl, fun l hl => ?_⟩
    obtain ⟨j, -, rfl⟩ := List.mem_map.1 hl
    rfl
  · obtain ⟨k, hk, rfl⟩ := List.mem_map.1 hx
    exact ⟨rfl, h k (List.mem_range.1 hk)⟩
/-- What may be appended: numbers as a machine has them, data not too long. -/
def TrI (q : Tr) : Prop := I64 q.a ∧ I64 q.t ∧ I64 q.b ∧ I64 q.d ∧ q.by'.length ≤ 1600
theorem TrB.toI {tk tn : Int} {q : Tr} (h : TrB tk tn q) (h1 : tk ≤ 100) (h2 : tn ≤ 3) : TrI q := by
  obtain ⟨q1, q2, q3, q4, q5, q6, q7, q8, q9, q10⟩ := h
  exact ⟨⟨by omega, by omega⟩, ⟨by omega, by omega⟩, ⟨by omega, by omega⟩, ⟨by omega, by omega⟩, by omega⟩
theorem size_pk {c : Cf} {X : Nat → Ch.Fd} {T : Nat → Te} (M : NetM c X T) {n : Nat} {Q : Nat → Tr} (hn : n ≤ 40) (H : ∀ k, k < n → TrI (Q k)) : (catL (textS (docOf c X T n Q))).length ≤ 200000 := by
  have h0 := size_doc (a := 180) (b := 3) (e := 0) (m := 0) (docF_all (c := c) (X := X) (T := T) (n := 0) (Q := Q0) (fun k hk => absurd hk (Nat.not_lt_zero k))) M.d (by show ((List.range c.fn).map _).length ≤ 180; simp; exact M.fn) (by show ((List.range c.tn).map _).length ≤ 3; simp; exact M.tn.2) (fun x hx => by
    obtain ⟨k, hk, rfl⟩ := List.mem_map.1 hx
    have := M.bn k (List.mem_range.1 hk)
    show ((List.range (T k).bn).map _).length ≤ 2
    simp
    exact this) (by show ([] : List (List Int × List UInt8)).length ≤ 0; simp) (fun x hx => by cases hx)
  have hps := szL_map pktS 3400 (docOf c X T n Q).pkts fun x hx => by
    obtain ⟨k, hk, rfl⟩ := List.mem_map.1 hx
    obtain ⟨i1, i2, i3, i4, i5⟩ := H k (List.mem_range.1 hk)
    have g1 := lineS_len (word := wPacket) (by decide) (ns := (trS (Q k)).1) (fun j hj => by
      have hj : j < 4 := hj
      match j, hj with
      | 0, _ => exact i1
      | 1, _ => exact i2
      | 2, _ => exact i3
      | 3, _ => exact i4)
    have g2 : (pktS (trS (Q k))).length = (lineS wPacket (trS (Q k)).1).length + (1 + (hexS (trS (Q k)).2).length) := by
      show (lineS wPacket (trS (Q k)).1 ++ 32 :: hexS (trS (Q k)).2).length = _
      rw [List.length_append, List.length_cons]
      omega
    rw [hexS_len] at g2
    have i5 : (trS (Q k)).2.length ≤ 1600 := i5
    have g3 : (trS (Q k)).1.length = 4 := rfl
    rw [g3] at g1
    omega
  have e1 : (docOf c X T n Q).pkts.length = n := by show ((List.range n).map _).length = _; simp
  rw [e1] at hps
  have h3 := Nat.mul_le_mul_right (3400 + 1) hn
  have t1 := szL_text (docOf c X T n Q)
  have t0 := szL_text (docOf c X T 0 Q0)
  have e2 : szL ((docOf c X T 0 Q0).pkts.map pktS) = 0 := rfl
  rw [e2] at t0
  have t0' : szL (textS (docOf c X T 0 Q0)) = (lineS wNetwork (docOf c X T n Q).h0).length + 1 + ((lineS wPatience (docOf c X T n Q).h1).length + 1) + ((lineS wRule (docOf c X T n Q).h2).length + 1) + ((lineS wOuter (docOf c X T n Q).h3).length + 1) + szL ((docOf c X T n Q).fades.map (lineS wFade)) + szL ((docOf c X T n Q).terms.flatMap termS) + 0 := t0
  show szL _ ≤ _
  rw [t1]
  omega
/-! ### More packets behind -/
def catQ (n : Nat) (Q R : Nat → Tr) : Nat → Tr := fun k => if k < n then Q k else R (k - n)
theorem cat_lt {n k : Nat} {Q R : Nat → Tr} (h : k < n) : catQ n Q R k = Q k := if_pos h
theorem cat_ge {n k : Nat} {Q R : Nat → Tr} (h : ¬ k < n) : catQ n Q R k = R (k - n) := if_neg h
theorem cat_keep (n : Nat) (Q R : Nat → Tr) (j : Nat) (hj : j < n * 5) : trv (catQ n Q R) j = trv Q j := by
  unfold trv
  rw [cat_lt (show j / 5 < n by omega)]
theorem cat_new (n : Nat) (Q R : Nat → Tr) (j : Nat) : trv (catQ n Q R) (n * 5 + j) = trv R j := by
  unfold trv
  rw [cat_ge (show ¬ (n * 5 + j) / 5 < n by omega), show (n * 5 + j) / 5 - n = j / 5 by omega, show (n * 5 + j) % 5 = j % 5 by omega]
theorem cat_all {n m : Nat} {Q R : Nat → Tr} {P : Tr → Prop} (h1 : ∀ k, k < n → P (Q k)) (h2 : ∀ k, k < m → P (R k)) : ∀ k, k < n + m → P (catQ n Q R k) := fun k hk => by
  by_cases h : k < n
  · rw [cat_lt h]
    exact h1 k h
  · rw [cat_ge h]
    exact h2 _ (by omega)
/-- Traffic in memory, of a row of one's own whose data lie anywhere. -/
theorem trR_any {w : World} {B n : Nat} {v : Value} {Q : Nat → Tr} (hl : w.ownsRow B 49 5 v n ((List.range (n * 5)).map (trv Q))) (hd : ∀ k, k < n → ByAt w (Q k).pa (Q k).by' ∧ (Q k).pn = (Q k).by'.length ∧ (Q k).pn ≤ maxLen) : ∃ a cc, v = .slice a n cc ∧ n ≤ cc ∧ n ≤ maxLen ∧ TrR w a n Q := by
  obtain ⟨a, cc, b, e, hc, hp, hcell⟩ := own_cellsK hl
  obtain ⟨a', cc', e', h1, h2, -⟩ := own_slice hl
  rw [e] at e'
  injection e' with q1 q2 q3
  refine ⟨a, cc, e, hc, by omega, b, 0, fun h => (hp h).1, fun k hk => ?_⟩
  have g : ∀ i, i < 5 → w.cell? ⟨b, 0 + k * 5 + i, none⟩ = some ((trC (Q k)).getD i undef) := fun i hi => by
    rw [Nat.zero_add, ← trv_at Q k i hi]
    exact hcell _ (by omega)
  have hd := hd k hk
  exact ⟨g 0 (by omega), g 1 (by omega), g 2 (by omega), g 3 (by omega), g 4 (by omega), hd.1, hd.2.1, hd.2.2⟩
/-- Traffic in rows of one's own. -/
def TrW (u : World) (B : Nat) (v : Value) (m : Nat) (tk tn : Int) (Q : Nat → Tr) : Prop := u.ownsRow B 49 5 v m ((List.range (m * 5)).map (trv Q)) ∧ (∀ k, k < m → OwnU u B (.slice (Q k).pa (Q k).pn (Q k).pc) (Q k).by') ∧ ∀ k, k < m → TrB tk tn (Q k)
theorem TrW.only {u u' : World} {B p : Nat} {v : Value} {m : Nat} {tk tn : Int} {Q : Nat → Tr} (h : TrW u B v m tk tn Q) (ho : OnlyP u u' p) (hp : p < B) : TrW u' B v m tk tn Q := ⟨own_only' h.1 ho hp, fun k hk => own_only' (h.2.1 k hk) ho hp, h.2.2⟩
end Go.Proofs.YtgflfdnajchjaaaGreatDoor
/- Layer 45: a slice is appended to a row of one's own, which stays. -/
namespace Go.Proofs.YtgflfdnajchjaaaGreatDoor
set_option linter.unusedVariables false
set_option linter.unusedSimpArgs false
open Go.RowKit Go.Sort
variable {P : Program}
theorem run_append_keep {w : World} (base : Nat) (t ty e : TypeId) (i : TypeInfo) (z : Value) (s bytes : Nat) (ht : P.underlying t = some (.slice e)) (hi : P.info? e = some i) (hz : i.zero = some z) (hsz : i.size = s) (hby : i.bytes = bytes)
    (v : Value) (n : Nat) (xs : List Value) (hown : w.ownsRow base e s v n xs) (ad : Addr) (m c : Nat) (news : List Value) (hl : news.length = m * s) (hnews : ∀ j u, news[j]? = some u → w.cell? (ad.add j) = some u) (h1 : ∀ u ∈ news, u.oneCell' = true)
    (h63 : n + m ≤ maxLen) (hbt : (n + m) * bytes ≤ 140737488355328) {v' : Value} {w' : World} (hr : (Builtin.append_ #[t, t] ty #[v, .slice (some ad) m c]).run P w = .ok v' w') : w'.ownsRow base e s v n xs := by
  subst hsz hby
  have hsm : n + m ≤ 9223372036854775807 := by simp only [maxLen] at h63; omega
  rcases hown.2 with ⟨rfl, rfl⟩ | ⟨g, cap, cur, rfl, hb, hg, hnc, hcm, hcs, htk⟩
  · have hx : xs = [] := List.eq_nil_of_length_eq_zero (by simpa using hown.1)
    subst hx
    exact World.ownsRow_nil _ _ _ _
  · by_cases hroom : n + m ≤ cap
    · have hfit : n * i.size + news.length ≤ cur.size := by rw [hl, hcs, ← Nat.add_mul]; exact Nat.mul_le_mul_right _ hroom
      rw [run_append_room (P := P) w t ty e i ht hi g n cap cur hg ad m c news hl hnews h1 hroom hfit] at hr
      injection hr with e1 e2
      subst e2
      refine ⟨hown.1, .inr ⟨g, cap, _, rfl, hb, setRow_heap w g cur _ e _ hg, hnc, hcm, ?_, ?_⟩⟩
      · simp only [List.size_toArray, List.length_append, List.length_take, List.length_drop, Array.length_toList]
        omega
      · have hlen : (cur.toList.take (n * i.size)).length = n * i.size := by
          rw [List.length_take, Array.length_toList]
          omega
        show List.take (n * i.size) (cur.toList.take (n * i.size) ++ news ++ cur.toList.drop (n * i.size + news.length)) = xs
        rw [List.append_assoc, List.take_append_of_le_length (by omega), List.take_of_length_le (by omega)]
        exact htk
    · rw [run_append_grow (P := P) w t ty e i z ht hi hz ⟨g, 0, none⟩ n cap xs hown.1 (hown.cells (g := g) rfl) ad m c news hl hnews (by omega) (by omega) (growslice_fits (by omega) hbt)] at hr
      injection hr with e1 e2
      subst e2
      exact hown.drew.alloc _
theorem wpList_append_any {ops : Array Oper} {rest : List Oper} {o : Oper} {a : Act} {Q : Exit → Act → World → Prop} (w : World) (base : Nat) (hgd : o.guard = none) (sl x : Operand) (t : TypeId)
    (ho : o.op = .call { callee := .builtin .append, args := #[sl, x], argTypes := #[t, t] })
    (e : TypeId) (z : Value) (s bytes : Nat) (ht : P.underlying t = some (.slice e)) (hi : (P.info? e).map (fun i => (i.zero, i.size, i.bytes)) = some (some z, s, bytes)) (hzs : z.cells.size = s) (hs0 : 0 < s) (hbt : bytes ≤ 1000)
    (v : Value) (n : Nat) (f : Nat → Value) (hs : a.eval sl = v) (oa : Option Addr) (b q m c : Nat) (hx : a.eval x = .slice oa m c) (hc : m ≤ c) (h0 : oa = none → c = 0) (ha : 0 < c → oa = some ⟨b, q, none⟩)
    (h : Nat → Value) (hcs : ∀ j, j < m * s → w.cell? ⟨b, q + j, none⟩ = some (h j)) (hu1 : ∀ j, j < m * s → (h j).oneCell' = true)
    (g : Nat → Value) (hg : ∀ j, j < n * s → g j = f j) (hgu : ∀ j, j < m * s → g (n * s + j) = h j)
    (hown : w.ownsRow base e s v n ((List.range (n * s)).map f)) (hbase : base ≤ w.heap.size) (hn : n + m ≤ 1000000)
    (hk : ∀ v' w', w'.ownsRow base e s v' (n + m) ((List.range ((n + m) * s)).map g) → w.grownBy w' v.ownBlock → w'.ownsRow base e s v n ((List.range (n * s)).map f) → wpList P ops Q rest (a.put o.dst v') w') :
    wpList P ops Q (o :: rest) a w := by
  obtain ⟨i, hi1, hz, hsz, hby⟩ := info_split hi
  cases oa with
  | none =>
    have hc0 := h0 rfl
    obtain rfl : m = 0 := by omega
    subst hc0
    refine wpList_append_own_none hgd sl x t ho base e i s ht hi1 v n _ hs hown hx ?_
    refine hk v w ?_ ⟨rfl, rfl, rfl, Nat.le_refl _, fun _ _ _ => rfl⟩ hown
    rw [← rows_join n 0 s f h g hg hgu]
    simpa using hown
  | some ad =>
    have hl : ((List.range (m * s)).map h).length = m * s := by simp
    have hnews : ∀ j u, ((List.range (m * s)).map h)[j]? = some u → w.cell? (ad.add j) = some u := fun j u hj => by
      have hj' : j < m * s := by have := (List.getElem?_eq_some_iff.1 hj).1; simpa using this
      have hm : 0 < c := by
        rcases Nat.eq_zero_or_pos m with rfl | hm
        · simp at hj'
        · omega
      rw [List.getElem?_map, List.getElem?_range hj'] at hj
      have ead := ha hm
      injection ead with ead
      subst ead
      rw [Addr.add_mid, hcs j hj', ← hj]
      rfl
    have h1 : ∀ u ∈ (List.range (m * s)).map h, u.oneCell' = true := fun u hu => by
      obtain ⟨j, hj, rfl⟩ := List.mem_map.1 hu
      exact hu1 j (List.mem_range.1 hj)
    have h63 : n + m ≤ maxLen := by unfold maxLen; omega
    have hb : (n + m) * bytes ≤ 140737488355328 := by
      have : (n + m) * bytes ≤ 1000000 * 1000 := Nat.mul_le_mul hn hbt
      omega
    refine wpList_plain hgd fun K hK => ?_
    obtain ⟨v', w', hr, h2, h3, -, -⟩ := run_append_own_at (P := P) w base t o.type e i z s bytes ht hi1 hz hsz hby hzs hs0 v n _ hown ad m c _ hl hnews h1 h63 hb hbase
    have h6 := run_append_keep base t o.type e i z s bytes ht hi1 hz hsz hby v n _ hown ad m c _ hl hnews h1 h63 hb hr
    rw [rows_join n m s f h g hg hgu] at h2
    unfold Oper.wp execOp
    simp only [ho, resolve, invoke, builtin, Sem.run_bind, Sem.run_pure, Result.andThen_ok, List.map_toArray, List.map_cons, List.map_nil, hs, hx, hr]
    exact hK _ _ (hk v' w' h2 h3 h6)
end Go.Proofs.YtgflfdnajchjaaaGreatDoor
/- Layer 45: a network, its traffic and what came in, side by side in memory (for TextFormats). -/
namespace Go.Proofs.YtgflfdnajchjaaaGreatDoor
set_option linter.unusedVariables false
set_option linter.unusedSimpArgs false
open Go.RowKit Go.Sort
open Tm
/-- The state: the network's box z and its rows, the traffic v of its own, and all that was there at the start. -/
structure FS (w0 u : World) (B M z : Nat) (c : Cf) (X : Nat → Ch.Fd) (T : Nat → Te) (v : Value) (m : Nat) (tn : Int) (Q : Nat → Tr) : Prop where
  bx : u.heap[z]? = some (.cells (cfs c).toArray 37 (0, 0))
  rw : CfRw u B c X T
  tr : TrW u M v m 50 tn Q
  bl : Below w0.heap.size w0 u
  hB : w0.heap.size ≤ B
  hz : w0.heap.size ≤ z
  hM : w0.heap.size ≤ M
  sm : M ≤ u.heap.size
section
variable {w0 u u' : World} {B M z : Nat} {c : Cf} {X : Nat → Ch.Fd} {T : Nat → Te} {v : Value} {m : Nat} {tn : Int} {Q : Nat → Tr}
theorem FS.drew (H : FS w0 u B M z c X T v m tn Q) (n : Nat) : FS w0 (u.drewN n) B M z c X T v m tn Q :=
  ⟨H.bx, ⟨H.rw.f, H.rw.t, H.rw.b, H.rw.u⟩, ⟨H.tr.1, H.tr.2.1, H.tr.2.2⟩, ⟨H.bl.os, H.bl.tape, H.bl.output, H.bl.size, H.bl.block⟩, H.hB, H.hz, H.hM, H.sm⟩
theorem FS.below (H : FS w0 u B M z c X T v m tn Q) (hb : Below u.heap.size u u') : FS w0 u' B M z c X T v m tn Q :=
  ⟨(hb.block z (heap_lt H.bx)).trans H.bx, ⟨own_below H.rw.f hb, own_below H.rw.t hb, fun k hk => own_below (H.rw.b k hk) hb, fun k hk => own_below (H.rw.u k hk) hb⟩, ⟨own_below H.tr.1 hb, fun k hk => own_below (H.tr.2.1 k hk) hb, H.tr.2.2⟩, bthen' H.bl hb, H.hB, H.hz, H.hM, Nat.le_trans H.sm hb.size⟩
theorem FS.grown (H : FS w0 u B M z c X T v m tn Q) (hg : u.grownBy u' v.ownBlock) (hr : u'.ownsRow M 49 5 v m ((List.range (m * 5)).map (trv Q))) : FS w0 u' B M z c X T v m tn Q := by
  have oth : ∀ {B' e' s' m' : Nat} {v' : Value} {xs' : List Value}, u.ownsRow B' e' s' v' m' xs' → e' ≠ 49 → u'.ownsRow B' e' s' v' m' xs' := fun h' hne =>
    own_kept h' fun g hg' => hg.block g (h'.lt g hg').2 (fun e => own_apart h' H.tr.1 hne hg' e.symm)
  refine ⟨(hg.block z (heap_lt H.bx) (fun e => own_ne H.tr.1 H.bx (by decide) e.symm rfl)).trans H.bx, ⟨oth H.rw.f (by decide), oth H.rw.t (by decide), fun k hk => oth (H.rw.b k hk) (by decide), fun k hk => oth (H.rw.u k hk) (by decide)⟩, ⟨hr, fun k hk => oth (H.tr.2.1 k hk) (by decide), H.tr.2.2⟩, H.bl.grown hg H.bl.size fun k hk => ?_, H.hB, H.hz, H.hM, Nat.le_trans H.sm hg.size⟩
  have := (H.tr.1.lt k hk).1
  have := H.hM
  omega
theorem FS.seed (H : FS w0 u B M z c X T v m tn Q) (s : Int) : FS w0 (u.setCell ⟨z, 0, none⟩ (.int .i64 s)) B M z (seedC c s) X T v m tn Q := by
  have oth : ∀ {B' e' s' m' : Nat} {v' : Value} {xs' : List Value}, u.ownsRow B' e' s' v' m' xs' → e' ≠ 37 → (u.setCell ⟨z, 0, none⟩ (.int .i64 s)).ownsRow B' e' s' v' m' xs' := fun h' hne =>
    own_kept h' fun g hg' => heap_set_other _ (own_ne h' H.bx hne hg')
  refine ⟨?_, ⟨oth H.rw.f (by decide), oth H.rw.t (by decide), fun k hk => oth (H.rw.b k hk) (by decide), fun k hk => oth (H.rw.u k hk) (by decide)⟩, ⟨oth H.tr.1 (by decide), fun k hk => oth (H.tr.2.1 k hk) (by decide), H.tr.2.2⟩, H.bl.setCell (p := ⟨z, 0, none⟩) H.hz _, H.hB, H.hz, H.hM, by simpa [World.setCell] using H.sm⟩
  rw [heap_set_same H.bx]
  rfl
theorem tev_cls (T : Nat → Te) (x : Int) (n : Nat) (hn : 0 < n) : ((List.range (n * 14)).map (tev' T)).set 1 (.int .i64 x) = (List.range (n * 14)).map (tev' (clsT T x)) := by
  refine List.ext_getElem? fun j => ?_
  rw [List.getElem?_set]
  by_cases hj : 1 = j
  · subst hj
    rw [if_pos rfl, if_pos (by simp; omega), List.getElem?_map, List.getElem?_range (by omega)]
    show _ = some (tev' (clsT T x) (0 * 14 + 1))
    rw [tev_at _ 0 1 (by decide), cls_zero]
    rfl
  · rw [if_neg hj, List.getElem?_map, List.getElem?_map]
    by_cases hjn : j < n * 14
    · rw [List.getElem?_range hjn]
      show some (tev' T j) = some (tev' (clsT T x) j)
      by_cases h14 : j < 14
      · have e := tev_at T 0 j h14
        have e2 := tev_at (clsT T x) 0 j h14
        rw [Nat.zero_mul, Nat.zero_add] at e e2
        rw [e, e2, cls_zero]
        have h' : j = 0 ∨ j = 2 ∨ j = 3 ∨ j = 4 ∨ j = 5 ∨ j = 6 ∨ j = 7 ∨ j = 8 ∨ j = 9 ∨ j = 10 ∨ j = 11 ∨ j = 12 ∨ j = 13 := by omega
        rcases h' with rfl | rfl | rfl | rfl | rfl | rfl | rfl | rfl | rfl | rfl | rfl | rfl | rfl <;> rfl
      · have hd : j / 14 ≠ 0 := by omega
        unfold tev'
        rw [cls_ne hd]
    · rw [List.getElem?_eq_none (by simp; omega)]
      rfl
theorem FS.cls (H : FS w0 u B M z c X T v m tn Q) {g : Nat} (hg : c.ta = some ⟨g, 0, none⟩) (hn : 0 < c.tn) (x : Int) : FS w0 (u.setCell ⟨g, 1, none⟩ (.int .i64 x)) B M z c X (clsT T x) v m tn Q := by
  have hT := H.rw.t
  rw [hg] at hT
  have hgb : B ≤ g := (hT.lt g rfl).1
  have hw := H.hB
  have oth : ∀ {B' e' s' m' : Nat} {v' : Value} {xs' : List Value}, u.ownsRow B' e' s' v' m' xs' → e' ≠ 57 → (u.setCell ⟨g, 1, none⟩ (.int .i64 x)).ownsRow B' e' s' v' m' xs' := fun h' hne =>
    own_kept h' fun k hk => heap_set_other _ (fun e => own_apart h' hT hne hk (by rw [e]; rfl))
  have eb : ∀ k, bV (clsT T x k) = bV (T k) ∧ (clsT T x k).bn = (T k).bn ∧ (clsT T x k).be = (T k).be ∧ kV (clsT T x k) = kV (T k) ∧ (clsT T x k).kn = (T k).kn ∧ (clsT T x k).P = (T k).P ∧ (clsT T x k).R = (T k).R ∧ (clsT T x k).M = (T k).M ∧ (clsT T x k).T = (T k).T := fun k => by
    by_cases h0 : k = 0
    · subst h0
      rw [cls_zero]
      exact ⟨rfl, rfl, rfl, rfl, rfl, rfl, rfl, rfl, rfl⟩
    · rw [cls_ne h0]
      exact ⟨rfl, rfl, rfl, rfl, rfl, rfl, rfl, rfl, rfl⟩
  refine ⟨(heap_set_other _ (fun e => own_ne hT H.bx (by decide) rfl e.symm)).trans H.bx, ⟨oth H.rw.f (by decide), ?_, fun k hk => ?_, fun k hk => ?_⟩, ⟨oth H.tr.1 (by decide), fun k hk => oth (H.tr.2.1 k hk) (by decide), H.tr.2.2⟩, H.bl.setCell (p := ⟨g, 1, none⟩) (by show w0.heap.size ≤ g; omega) _, H.hB, H.hz, H.hM, by simpa [World.setCell] using H.sm⟩
  · rw [hg, ← tev_cls T x c.tn hn]
    exact (hT.stored 1 _).1
  · obtain ⟨e1, e2, e3, -, -, -, -, -, -⟩ := eb k
    rw [e1, e2, e3]
    exact oth (H.rw.b k hk) (by decide)
  · obtain ⟨-, -, -, e1, e2, e3, e4, e5, e6⟩ := eb k
    rw [e1, e2, e3, e4, e5, e6]
    exact oth (H.rw.u k hk) (by decide)
/-- What is written: the network and its traffic. -/
theorem FS.doc (H : FS w0 u B M z c X T v m tn Q) (N : NetM c X T) : ∃ a cc, v = .slice a m cc ∧ DocIn u c X T a m Q (docOf c X T m Q) := by
  obtain ⟨a, cc, e, -, hl, hT⟩ := trR_of H.tr.1 H.tr.2.1
  exact ⟨a, cc, e, H.rw.cfIn, hT, hl, rfl, N.h15, N.kb⟩
/-- The same with packets that came in behind. -/
theorem FS.docs (H : FS w0 u B M z c X T v m tn Q) (N : NetM c X T) {v' : Value} {k : Nat} {R : Nat → Tr} (hv : u.ownsRow M 49 5 v' (m + k) ((List.range ((m + k) * 5)).map (trv (catQ m Q R)))) (hR : ∀ i, i < k → ByAt w0 (R i).pa (R i).by' ∧ (R i).pn = (R i).by'.length ∧ (R i).pn ≤ maxLen) : ∃ a cc, v' = .slice a (m + k) cc ∧ DocIn u c X T a (m + k) (catQ m Q R) (docOf c X T (m + k) (catQ m Q R)) := by
  obtain ⟨a, cc, e, -, hl, hT⟩ := trR_any hv (cat_all (P := fun q => ByAt u q.pa q.by' ∧ q.pn = q.by'.length ∧ q.pn ≤ maxLen) (fun i hi => (H.tr.2.1 i hi).byAt) (fun i hi => ⟨(hR i hi).1.mono H.bl, (hR i hi).2⟩))
  exact ⟨a, cc, e, H.rw.cfIn, hT, hl, rfl, N.h15, N.kb⟩
end
/-! ### A drawn region in which one operation appends -/
def AJ (F1 : World → Prop) (G1 : World → Value → Prop) (L : Nat → Bool) (vs : Nat → Value) (u : World) : Prop := F1 u ∧ (L 3 = true → G1 u (vs 3))
theorem AJ.congr {F1 : World → Prop} {G1 : World → Value → Prop} (L L' : Nat → Bool) (vs vs' : Nat → Value) (u : World) (h1 : ∀ i, 0 ≤ i → i < 9 → L i = L' i) (h2 : ∀ i, 0 ≤ i → i < 9 → L i = true → vs i = vs' i) (h : AJ F1 G1 L vs u) : AJ F1 G1 L' vs' u := by
  refine ⟨h.1, fun hl => ?_⟩
  have hl2 : L 3 = true := (h1 3 (by decide) (by decide)).trans hl
  rw [← h2 3 (by decide) (by decide) hl2]
  exact h.2 hl2
theorem AJ.start {F1 : World → Prop} {G1 : World → Value → Prop} {u : World} (h : F1 u) : AJ F1 G1 (fun i => decide (i < 0)) (fun _ => undef) u := ⟨h, fun hl => absurd hl (by decide)⟩
theorem AJ.other {F1 : World → Prop} {G1 : World → Value → Prop} {L : Nat → Bool} {vs : Nat → Value} {u u' : World} (h : AJ F1 G1 L vs u) {i : Nat} (hi : 3 ≠ i) {v : Value} (hF : F1 u') (hG : ∀ x, G1 u x → G1 u' x) : AJ F1 G1 (updB L i) (updV vs i v) u' := by
  refine ⟨hF, fun hl => ?_⟩
  rw [updB_ne hi] at hl
  rw [updV_ne hi]
  exact hG _ (h.2 hl)
theorem AJ.same {F1 : World → Prop} {G1 : World → Value → Prop} {L : Nat → Bool} {vs : Nat → Value} {u : World} (h : AJ F1 G1 L vs u) {i : Nat} (hi : 3 ≠ i) {v : Value} : AJ F1 G1 (updB L i) (updV vs i v) u := h.other hi h.1 fun _ h => h
theorem AJ.app {F1 : World → Prop} {G1 : World → Value → Prop} {L : Nat → Bool} {vs : Nat → Value} {u' : World} {v : Value} (hF : F1 u') (hG : G1 u' v) : AJ F1 G1 (updB L 3) (updV vs 3 v) u' := by
  refine ⟨hF, fun _ => ?_⟩
  rw [updV_at]
  exact hG
end Go.Proofs.YtgflfdnajchjaaaGreatDoor
