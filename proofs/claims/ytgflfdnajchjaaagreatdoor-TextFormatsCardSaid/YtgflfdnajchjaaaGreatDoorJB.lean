import Derived.StillTail
import Derived.Lib.QuietBelow
import Derived.BigQuiet
import Derived.ProofKit
import Derived.OpenShut
import Derived.SizedLaws
import Derived.Deep.Slices
import Derived.WalkKit
import Derived.WalkSpells
import Derived.WalkLawsBesides
import Derived.Lib.Hide
import Derived.Deep.MidRow
import Derived.OwnWalk
import Derived.Maps.AppendAt
import Derived.Laws.AppendOwn
import Derived.HandedShaped
import Derived.Handed
import Derived.Orders
import Derived.Maps.Keyed
/- A region that draws its order: operations that only read, and calls that only lay new blocks, in whatever order; behind them a tail whose operations come one after the other (a new slice, an append, a store). Nothing of the program is named here. -/
namespace Go.Proofs.YtgflfdnajchjaaaGreatDoor
set_option linter.unusedVariables false
set_option linter.unusedSimpArgs false
open Go.RowKit Go.Sort

section
variable {P : Program} {ops : Array Oper} {C : World → Prop} {n : Nat}

/-- The head in whatever order: each operation that may come up lies ahead of number n and is quiet in the class; at the end 'L'. -/
def headAny (P : Program) (ops : Array Oper) (C : World → Prop) (n : Nat) (L : Array Bool → Act → Prop) : Nat → Array Bool → Act → Prop
  | 0, listed, a => L listed a
  | f + 1, listed, a => Region.ready .any ops listed ≠ [] ∧ ∀ i ∈ Region.ready .any ops listed, i < n ∧ qOp P ops C i (headAny P ops C n L f (listed.setIfInBounds i true)) a

theorem headAny.wp {g : Nat} {L : Array Bool → Act → Prop} {Q : Exit → Act → World → Prop} (hL : ∀ listed a w, C w → L listed a → wpAny P .any ops Q g listed a w) :
    ∀ (f : Nat) (listed : Array Bool) (a : Act) (w : World), C w → headAny P ops C n L f listed a → wpAny P .any ops Q (f + g) listed a w
  | 0, listed, a, w, hC, h => by rw [Nat.zero_add]; exact hL _ _ _ hC h
  | f + 1, listed, a, w, hC, h => by
    rw [show f + 1 + g = (f + g) + 1 from by omega]
    exact ⟨fun h0 => absurd h0 h.1, fun i hi => wpOp_of_qOp hC (fun a' w' hC' hk => headAny.wp hL f _ a' w' hC' hk) (h.2 i hi).2⟩

/-- What is free to come first may be taken first. -/
theorem headAny.first {i : Nat} {oi : Oper} {v : Value} {L : Array Bool → Act → Prop} (hi : ops[i]? = some oi) (hsel : Region.noSelect ops = true) (hs : Region.sinkB .any ops n = true) (hc : Region.chainB .any ops n = true)
    (hn : n < ops.size) (hin : i < n) (hdone : ∀ listed a, L listed a → ∀ j ∈ Region.ready .any ops listed, n ≤ j) :
    ∀ (f : Nat) (listed : Array Bool) (a : Act), HeadInv .any ops n listed →
      (∀ j oj, ops[j]? = some oj → j ≠ i → listed.getD j true = false → (∀ e ∈ oj.after, Region.binds .any e = true → e.on ≠ i) → oi.apart ops oj = true) →
      i ∈ Region.ready .any ops listed → YieldsIn P ops C oi v a → headAny P ops C n L f (listed.setIfInBounds i true) (a.put oi.dst v) → headAny P ops C n L (f + 1) listed a
  | f, listed, a, inv, hfree, hr, hy, H => by
    have hun := (mem_ready.1 hr).1
    refine ⟨(fun h0 => by rw [h0] at hr; cases hr), fun j hj => ?_⟩
    have hjn : j < n := Nat.lt_of_not_le fun hle => tail_waits hs hc hn inv _ i rfl hin hun j hle hj
    refine ⟨hjn, ?_⟩
    by_cases hji : j = i
    · subst hji; exact hy.qOp hi H
    · cases f with
      | zero => exact absurd (hdone _ _ H j (ready_mono hj hji)) (by omega)
      | succ f =>
        have h1 := (H.2 j (ready_mono hj hji)).2
        obtain ⟨hjun, oj, hoj, hall⟩ := mem_ready.1 hj
        have hnot : ∀ e ∈ oj.after, Region.binds .any e = true → e.on ≠ i := fun e he hb heq => by
          have h2 := hall e he hb
          rw [heq, getD_both hun] at h2
          cases h2
        have h2 := qOp_put hoj (hfree j oj hoj hji hjun hnot) (fun cs b => Region.noSelect_spec hsel i oi cs b hi) (fun cs b => Region.noSelect_spec hsel j oj cs b hoj) hy h1
        refine qOp_mono (fun a' h3 => headAny.first hi hsel hs hc hn hin hdone f (listed.setIfInBounds j true) a' (inv.set hj hjn) (fun k ok hk hki hku hno => ?_) (ready_mono hr (Ne.symm hji)) h3.1 ?_) h2
        · refine hfree k ok hk hki ?_ hno
          by_cases hjk : j = k
          · subst hjk; exact hjun
          · rw [getD_set_ne true hjk] at hku; exact hku
        · rw [Array.setIfInBounds_comm _ _ hji]
          exact h3.2

theorem headAny.lex {g : Nat} {Lq : Act → Prop} (hsel : Region.noSelect ops = true) (hs : Region.sinkB .any ops n = true) (hc : Region.chainB .any ops n = true) (hn : n < ops.size) :
    ∀ (l : List Oper) (k : Nat) (listed : Array Bool) (a : Act), (∀ j, j < l.length → l[j]? = ops[k + j]?) → k + l.length = n → HeadInv .any ops n listed →
    Region.lexHead .any ops g l.length k listed = true → wpQuiet P ops C Lq l a → headAny P ops C n (fun listed' a' => Region.seqB .any ops g n listed' = true ∧ Lq a') l.length listed a
  | [], k, listed, a, _, hk, _, hB, h => by
    have : k = n := by simpa using hk
    subst this
    exact ⟨by simpa [Region.lexHead] using hB, h⟩
  | o :: l, k, listed, a, hl, hk, inv, hB, h => by
    simp only [List.length_cons] at hk
    have h0 : ops[k]? = some o := by simpa using (hl 0 (by simp)).symm
    simp only [List.length_cons, Region.lexHead, Bool.and_eq_true] at hB
    obtain ⟨⟨hr, hf⟩, hB'⟩ := hB
    have hr' : k ∈ Region.ready .any ops listed := by simpa using hr
    have hq : qOp P ops C k (wpQuiet P ops C Lq l) a := by unfold qOp; simp only [h0]; exact h
    obtain ⟨v, hy, hK⟩ := yieldsIn_of_qOp h0 hq
    exact headAny.first h0 hsel hs hc hn (by omega) (fun listed' a' hL => seqB_ready hL.1) l.length listed a inv (Region.free_spec h0 hf) hr' hy
      (headAny.lex hsel hs hc hn l (k + 1) _ _ (fun j hj => by have := hl (j + 1) (by simp; omega); simpa [Nat.add_assoc, Nat.add_comm 1 j] using this) (by omega) (inv.set hr' (by omega)) hB' hK)

/-- **The head in the order of the text, every operation quiet in the class; then the tail, in whatever world of the class.** -/
theorem wp_region_quiet_tail {id : Nat} {Q : Exit → Act → World → Prop} {a : Act} {w : World} {l : List Oper} (n : Nat) (hm : P.follows .mixedOrders = true) (hB : Region.lexTailB .any l.toArray n = true) (hC : C { w with drawn := w.drawn + 1 })
    (h : wpQuiet P l.toArray C (fun a' => ∀ w', C w' → wpList P l.toArray Q (l.drop n) a' w') (l.take n) a) : (Code.region id l.toArray true).wp P Q a w := by
  simp only [Region.lexTailB, Bool.and_eq_true, decide_eq_true_eq] at hB
  obtain ⟨⟨⟨⟨hsel, hn⟩, hs⟩, hc⟩, hlex⟩ := hB
  have hn' : n < l.length := by simpa using hn
  have htl : (l.take n).length = n := by simp; omega
  have hdl : (l.drop n).length = l.toArray.size - n := by simp
  have inv0 : HeadInv .any l.toArray n (Array.replicate l.toArray.size false) :=
    ⟨by simp, fun j oj _ hl => (by rw [getD_replicate_false] at hl; cases hl), fun t _ ht => getD_in (by simpa using ht) (getD_replicate_false _ _)⟩
  have H := headAny.lex (g := l.toArray.size - n) hsel hs hc hn (l.take n) 0 _ a (fun j hj => by rw [htl] at hj; simp [hj]) (by simpa using htl) inv0 (by rw [htl]; exact hlex) h
  refine wp_region_any hm ?_
  have h2 := headAny.wp (Q := Q) (g := l.toArray.size - n) (fun listed a' w' hC' hL => by
    have h3 := wpAny_of_seq (md := .any) (Q' := Q) (l.drop n) n listed a' w' (fun j => by simp [List.getElem?_drop]) (by rw [hdl]; exact hL.1) (hL.2 w' hC')
    rwa [hdl] at h3) _ _ _ _ hC H
  rw [htl, show n + (l.toArray.size - n) = l.toArray.size from by omega] at h2
  exact h2

/-- .. at the class 'w with some blocks laid behind it'. -/
theorem wp_region_grown_tail {id : Nat} {Q : Exit → Act → World → Prop} {a : Act} {w : World} {l : List Oper} (n : Nat) (hm : P.follows .mixedOrders = true) (hB : Region.lexTailB .any l.toArray n = true)
    (h : wpQuiet P l.toArray (fun w' => ∃ p : Regrown, w' = grow (redrawn w p.d) p.os) (fun a' => ∀ w', (∃ p : Regrown, w' = grow (redrawn w p.d) p.os) → wpList P l.toArray Q (l.drop n) a' w') (l.take n) a) : (Code.region id l.toArray true).wp P Q a w :=
  wp_region_quiet_tail (C := fun w' => ∃ p : Regrown, w' = grow (redrawn w p.d) p.os) n hm hB ⟨⟨w.drawn + 1, #[]⟩, by rw [grow_empty]; rfl⟩ h

end
end Go.Proofs.YtgflfdnajchjaaaGreatDoor
/- What a law's arguments are, as the walk wants them; and the step from a walk of a law to its row. Conditions: none. Nothing of the program is named here. -/
namespace Go.Proofs.YtgflfdnajchjaaaGreatDoor
set_option linter.unusedVariables false
set_option linter.unusedSimpArgs false
open Go.RowKit Go.ChangeShapes Go.WideShapes Go.ChangeAt

/-- The cells 'cs' can be read as a value of type t, and no string, slice or map in it is greater than the form's reach. -/
def Rd (P : Program) (W : World) (t : TypeId) (cs : List Value) : Prop :=
  ∃ (H : Type) (enc : TypeId × Value → H) (fuel : Nat) (x : DataW H × List MemPlace), DataW.trod enc P W 0 (fun _ => true) true fuel t cs = some x ∧ ∀ n ∈ x.1.weights P t, n ≤ reachBytes

theorem Rd.int {P : Program} {W : World} {t : TypeId} {cs : List Value} {k : IntKind} (h : Rd P W t cs) (ht : P.underlying t = some (.int k)) : ∃ n, cs = [.int k n] ∧ (Lit.int k n).wf = true := by
  obtain ⟨H, enc, fuel, x, hx, _⟩ := h
  obtain ⟨n, h1, _, h3⟩ := DataW.trod_int ht hx
  exact ⟨n, h1, h3⟩

theorem Rd.bool {P : Program} {W : World} {t : TypeId} {cs : List Value} (h : Rd P W t cs) (ht : P.underlying t = some .bool) : ∃ b, cs = [.bool b] := by
  obtain ⟨H, enc, fuel, x, hx, _⟩ := h
  obtain ⟨b, h1, _⟩ := DataW.trod_bool ht hx
  exact ⟨b, h1⟩

theorem Rd.string {P : Program} {W : World} {t : TypeId} {cs : List Value} (h : Rd P W t cs) (ht : P.underlying t = some .string) : ∃ s : ByteArray, cs = [.string s] ∧ s.size ≤ reachBytes := by
  obtain ⟨H, enc, fuel, x, hx, hw⟩ := h
  obtain ⟨s, h1, h2, h3⟩ := DataW.trod_string ht hx
  subst h2
  refine ⟨s, h1, ?_⟩
  have := hw s.data.toList.length (by simp [DataW.weights])
  simpa using this

theorem weightsEach_mem {H : Type} {P : Program} : ∀ {ts : List TypeId} {ds : List (DataW H)} {i : Nat} {t : TypeId} {d : DataW H}, ts[i]? = some t → ds[i]? = some d → ∀ n ∈ d.weights P t, n ∈ DataW.weightsEach P ts ds :=
  fun h1 h2 => DataW.weights_mem_each h1 h2

theorem weightsAll_mem {H : Type} {P : Program} {e : TypeId} : ∀ {ds : List (DataW H)} {i : Nat} {d : DataW H}, ds[i]? = some d → ∀ n ∈ d.weights P e, n ∈ DataW.weightsAll P e ds
  | d0 :: ds, 0, d, hd, n, hn => by
    simp only [List.getElem?_cons_zero, Option.some.injEq] at hd
    subst hd
    simp only [DataW.weightsAll, List.mem_append]
    exact Or.inl hn
  | d0 :: ds, j + 1, d, hd, n, hn => by
    simp only [List.getElem?_cons_succ] at hd
    simp only [DataW.weightsAll, List.mem_append]
    exact Or.inr (weightsAll_mem hd n hn)
  | [], _, _, hd, _, _ => by simp at hd

theorem Rd.struct {P : Program} {W : World} {t : TypeId} {cs : List Value} {fs : Array Field} (h : Rd P W t cs) (ht : P.underlying t = some (.struct fs)) :
    cs.length = P.cellsOf t ∧ ∀ (i : Nat) (f : Field), fs[i]? = some f → Rd P W f.type ((cs.drop f.offset).take (P.cellsOf f.type)) := by
  obtain ⟨H, enc, fuel, x, hx, hw⟩ := h
  obtain ⟨xs, n, rfl, rfl, hl, hsz, hf⟩ := DataW.trod_struct ht hx
  refine ⟨hl, fun i f hi => ?_⟩
  have h1 := hf i f hi
  have hlt : i < xs.length := by rw [hsz]; exact (Array.getElem?_eq_some_iff.1 hi).1
  rw [List.getElem?_eq_getElem hlt] at h1
  refine ⟨H, enc, n, xs[i], h1, fun m hm => hw m ?_⟩
  simp only [DataW.weights, ht]
  refine weightsEach_mem (i := i) (t := f.type) (d := xs[i].1) ?_ ?_ m hm
  · rw [List.getElem?_map, Array.getElem?_toList, hi]; rfl
  · rw [List.getElem?_map, List.getElem?_eq_getElem hlt]; rfl

theorem Rd.array {P : Program} {W : World} {t e : TypeId} {n : Nat} {cs : List Value} (h : Rd P W t cs) (ht : P.underlying t = some (.array n e)) :
    cs.length = P.cellsOf t ∧ ∀ i, i < n → Rd P W e ((cs.drop (i * P.cellsOf e)).take (P.cellsOf e)) := by
  obtain ⟨H, enc, fuel, x, hx, hw⟩ := h
  obtain ⟨xs, m, rfl, rfl, hl, hsz, hf⟩ := DataW.trod_array ht hx
  refine ⟨hl, fun i hi => ?_⟩
  have h1 := hf i hi
  have hlt : i < xs.length := by omega
  rw [List.getElem?_eq_getElem hlt] at h1
  refine ⟨H, enc, m, xs[i], h1, fun k hk => hw k ?_⟩
  simp only [DataW.weights, ht]
  refine weightsAll_mem (i := i) (d := xs[i].1) ?_ k hk
  rw [List.getElem?_map, List.getElem?_eq_getElem hlt]; rfl

theorem Rd.slice {P : Program} {W : World} {t e : TypeId} {cs : List Value} (h : Rd P W t cs) (ht : P.underlying t = some (.slice e)) :
    cs = [.slice none 0 0] ∨ ∃ (a : Addr) (len cap : Nat), cs = [.slice (some a) len cap] ∧ len ≤ cap ∧ cap ≤ maxLen ∧ cap * P.bytesOf e ≤ reachBytes ∧
      ∀ i, i < cap → ∃ cs', W.cells? 0 (a.add (i * P.cellsOf e)) (P.cellsOf e) = some cs' ∧ Rd P W e cs' := by
  obtain ⟨H, enc, fuel, x, hx, hw⟩ := h
  rcases DataW.trod_slice ht hx with ⟨h1, _⟩ | ⟨a, len, cap, elems, rest, n, rfl, rfl, rfl, hb, hl, hm, hlen, hel, hsp, _⟩
  · exact Or.inl h1
  right
  obtain ⟨hrl, hr⟩ := hsp rfl
  simp only [DataW.weights, ht] at hw
  refine ⟨a, len, cap, rfl, hl, hm, ?_, fun i hi => ?_⟩
  · have := hw _ (List.mem_cons_self ..)
    rwa [List.length_map, List.length_map, hlen, hrl, show len + (cap - len) = cap by omega] at this
  · by_cases hil : i < len
    · have h1 := hel i hil
      have hlt : i < elems.length := by omega
      rw [List.getElem?_eq_getElem hlt] at h1
      obtain ⟨cs', h2, h3⟩ := Option.bind_eq_some_iff.1 h1
      refine ⟨cs', h2, H, enc, n, elems[i], h3, fun k hk => hw k (List.mem_cons_of_mem _ (List.mem_append.2 (Or.inl ?_)))⟩
      refine weightsAll_mem (i := i) (d := elems[i].1) ?_ k hk
      rw [List.getElem?_map, List.getElem?_eq_getElem hlt]; rfl
    · have h1 := hr (i - len) (by omega)
      have hlt : i - len < rest.length := by omega
      rw [show len + (i - len) = i by omega, List.getElem?_eq_getElem hlt] at h1
      obtain ⟨cs', h2, h3⟩ := Option.bind_eq_some_iff.1 h1
      refine ⟨cs', h2, H, enc, n, rest[i - len], h3, fun k hk => hw k (List.mem_cons_of_mem _ (List.mem_append.2 (Or.inr ?_)))⟩
      refine weightsAll_mem (i := i - len) (d := (rest[i - len]).1) ?_ k hk
      rw [List.getElem?_map, List.getElem?_eq_getElem hlt]; rfl

/-- The cells of one element, each by its place. -/
theorem cells_at {W : World} {n : Nat} {cs : List Value} {a : Addr} (h : W.cells? 0 a n = some cs) (hn : 0 < n) : ∃ b o, a = ⟨b, o, none⟩ ∧ cs.length = n ∧ ∀ j, j < n → W.cell? ⟨b, o + j, none⟩ = cs[j]? := by
  obtain ⟨_, hl, hc⟩ := World.cells?_some h
  obtain ⟨b, o, s⟩ := a
  have h0 := hc 0 (by omega)
  have hs : s = none := by
    cases s with
    | none => rfl
    | some x =>
      rw [List.getElem?_eq_getElem (by omega)] at h0
      simp only [Addr.add, World.cell?] at h0
      split at h0 <;> simp_all
  subst hs
  refine ⟨b, o, rfl, hl, fun j hj => ?_⟩
  have := hc j hj
  by_cases hj0 : j = 0
  · subst hj0; simpa [Addr.add] using this
  · simpa [Addr.add, hj0] using this

/-- A slice that came in, whatever its elements: its cells by their places; 'C k': the cells of element k. -/
theorem Rd.rows {P : Program} {W : World} {t e n : Nat} {cs : List Value} (h : Rd P W t cs) (ht : P.underlying t = some (.slice e)) (hn : P.cellsOf e = n) (h0 : 0 < n) :
    ∃ (a : Option Addr) (len cap b m : Nat) (C : Nat → List Value), cs = [.slice a len cap] ∧ len ≤ cap ∧ cap ≤ maxLen ∧ cap * P.bytesOf e ≤ reachBytes ∧ (0 < cap → a = some ⟨b, m, none⟩) ∧ (a = none → cap = 0) ∧
      ∀ k, k < cap → (C k).length = n ∧ Rd P W e (C k) ∧ ∀ j, j < n → W.cell? ⟨b, m + (k * n + j), none⟩ = (C k)[j]? := by
  rcases h.slice ht with h1 | ⟨a, len, cap, h1, hl, hm, hr, hc⟩
  · exact ⟨none, 0, 0, 0, 0, fun _ => [], h1, Nat.le_refl _, by decide, by simp [reachBytes], fun h => absurd h (Nat.lt_irrefl _), fun _ => rfl, fun k hk => absurd hk (Nat.not_lt_zero _)⟩
  · by_cases h0c : 0 < cap
    · obtain ⟨C, hC⟩ := Deep.choose_lt (α := List Value) hc
      rw [hn] at hC
      obtain ⟨b, m, hbm, _, _⟩ := cells_at (hC 0 h0c).1 h0
      have ha : a = ⟨b, m, none⟩ := by simpa [Addr.add] using hbm
      subst ha
      refine ⟨some ⟨b, m, none⟩, len, cap, b, m, C, h1, hl, hm, hr, fun _ => rfl, (fun h => by cases h), fun k hk => ?_⟩
      obtain ⟨b', m', hbm', hlen, hcell⟩ := cells_at (hC k hk).1 h0
      refine ⟨hlen, (hC k hk).2, fun j hj => ?_⟩
      have e1 : b' = b ∧ m' = m + k * n := by
        unfold Addr.add at hbm'
        split at hbm'
        · rename_i hz
          injection hbm' with x y z
          exact ⟨x.symm, by omega⟩
        · injection hbm' with x y z
          exact ⟨x.symm, y.symm⟩
      obtain ⟨rfl, rfl⟩ := e1
      rw [← hcell j hj, Nat.add_assoc]
    · have : cap = 0 := by omega
      subst this
      exact ⟨some a, len, 0, 0, 0, fun _ => [], h1, hl, hm, hr, fun h => absurd h (Nat.lt_irrefl _), fun _ => rfl, fun k hk => absurd hk (Nat.not_lt_zero _)⟩

/-- A slice of integers that came in. -/
theorem Rd.ints {P : Program} {W : World} {t e : Nat} {cs : List Value} {κ : IntKind} (h : Rd P W t cs) (ht : P.underlying t = some (.slice e)) (he : P.underlying e = some (.int κ)) (hn : P.cellsOf e = 1) :
    ∃ (a : Option Addr) (len cap b m : Nat) (xs : Nat → Int), cs = [.slice a len cap] ∧ len ≤ cap ∧ cap ≤ maxLen ∧ cap * P.bytesOf e ≤ reachBytes ∧ (0 < cap → a = some ⟨b, m, none⟩) ∧ (a = none → cap = 0) ∧
      ∀ k, k < cap → W.cell? ⟨b, m + k, none⟩ = some (.int κ (xs k)) ∧ (Lit.int κ (xs k)).wf = true := by
  obtain ⟨a, len, cap, b, m, C, h1, h2, h3, h4, h5, h6, h7⟩ := h.rows ht hn Nat.one_pos
  obtain ⟨xs, hxs⟩ := Deep.choose_lt (α := Int) (n := cap) (p := fun k x => C k = [.int κ x] ∧ (Lit.int κ x).wf = true) fun k hk => (h7 k hk).2.1.int he
  refine ⟨a, len, cap, b, m, xs, h1, h2, h3, h4, h5, h6, fun k hk => ?_⟩
  have := (h7 k hk).2.2 0 Nat.one_pos
  rw [(hxs k hk).1] at this
  exact ⟨by simpa using this, (hxs k hk).2⟩

/-- An argument: its value has its type's outer form, and its cells can be read. -/
def Arg (P : Program) (W : World) (base : Nat) (t : TypeId) (v : Value) : Prop := Value.okWide P W .any base t v ∧ Rd P W t v.cells.toList

theorem Arg.int {P : Program} {W : World} {base : Nat} {t : TypeId} {v : Value} {k : IntKind} (h : Arg P W base t v) (ht : P.underlying t = some (.int k)) : ∃ n, v = .int k n ∧ (Lit.int k n).wf = true := by
  obtain ⟨n, rfl⟩ := okWide_int ht h.1
  obtain ⟨m, h1, h2⟩ := h.2.int ht
  simp [Value.cells] at h1
  subst h1
  exact ⟨n, rfl, h2⟩
theorem Arg.bool {P : Program} {W : World} {base : Nat} {t : TypeId} {v : Value} (h : Arg P W base t v) (ht : P.underlying t = some .bool) : ∃ b, v = .bool b := okWide_bool ht h.1
theorem Arg.string {P : Program} {W : World} {base : Nat} {t : TypeId} {v : Value} (h : Arg P W base t v) (ht : P.underlying t = some .string) : ∃ s, v = .string s ∧ s.size ≤ reachBytes := by
  obtain ⟨s, rfl⟩ := okWide_string ht h.1
  obtain ⟨m, h1, h2⟩ := h.2.string ht
  simp [Value.cells] at h1
  subst h1
  exact ⟨s, rfl, h2⟩
theorem Arg.struct {P : Program} {W : World} {base : Nat} {t : TypeId} {v : Value} {fs : Array Field} (h : Arg P W base t v) (ht : P.underlying t = some (.struct fs)) : ∃ cs : List Value, v = .agg cs.toArray ∧ Rd P W t cs := by
  obtain ⟨h1, h2⟩ := h
  simp only [Value.okWide, ht] at h1
  obtain ⟨cs, rfl, _⟩ := h1
  exact ⟨cs.toList, by simp, h2⟩
theorem Arg.array {P : Program} {W : World} {base : Nat} {t e n : Nat} {v : Value} (h : Arg P W base t v) (ht : P.underlying t = some (.array n e)) : ∃ cs : List Value, v = .agg cs.toArray ∧ Rd P W t cs := by
  obtain ⟨h1, h2⟩ := h
  simp only [Value.okWide, ht] at h1
  obtain ⟨cs, rfl, _⟩ := h1
  exact ⟨cs.toList, by simp, h2⟩
theorem Arg.rows {P : Program} {W : World} {base : Nat} {t e n : Nat} {v : Value} (h : Arg P W base t v) (ht : P.underlying t = some (.slice e)) (hn : P.cellsOf e = n) (h0 : 0 < n) :
    ∃ (a : Option Addr) (len cap b m : Nat) (C : Nat → List Value), v = .slice a len cap ∧ len ≤ cap ∧ cap ≤ maxLen ∧ cap * P.bytesOf e ≤ reachBytes ∧ (0 < cap → a = some ⟨b, m, none⟩) ∧ (a = none → cap = 0) ∧
      ∀ k, k < cap → (C k).length = n ∧ Rd P W e (C k) ∧ ∀ j, j < n → W.cell? ⟨b, m + (k * n + j), none⟩ = (C k)[j]? := by
  obtain ⟨a, len, cap, rfl⟩ := okWide_slice ht h.1
  obtain ⟨a', len', cap', b, m, C, h1, h2⟩ := h.2.rows ht hn h0
  simp [Value.cells] at h1
  obtain ⟨rfl, rfl, rfl⟩ := h1
  exact ⟨a, len, cap, b, m, C, rfl, h2⟩
theorem Arg.ints {P : Program} {W : World} {base : Nat} {t e : Nat} {v : Value} {κ : IntKind} (h : Arg P W base t v) (ht : P.underlying t = some (.slice e)) (he : P.underlying e = some (.int κ)) (hn : P.cellsOf e = 1) :
    ∃ (a : Option Addr) (len cap b m : Nat) (xs : Nat → Int), v = .slice a len cap ∧ len ≤ cap ∧ cap ≤ maxLen ∧ cap * P.bytesOf e ≤ reachBytes ∧ (0 < cap → a = some ⟨b, m, none⟩) ∧ (a = none → cap = 0) ∧
      ∀ k, k < cap → W.cell? ⟨b, m + k, none⟩ = some (.int κ (xs k)) ∧ (Lit.int κ (xs k)).wf = true := by
  obtain ⟨a, len, cap, rfl⟩ := okWide_slice ht h.1
  obtain ⟨a', len', cap', b, m, C, h1, h2⟩ := h.2.ints ht he hn
  simp [Value.cells] at h1
  obtain ⟨rfl, rfl, rfl⟩ := h1
  exact ⟨a, len, cap, b, m, C, rfl, h2⟩

theorem trodAll_split {H : Type} {enc : TypeId × Value → H} {P : Program} {W : World} : ∀ {ts : List TypeId} {vs : List Value} {ds : List (DataW H)} {ps : List MemPlace}, DataW.TrodAll enc P W 0 (fun _ => true) true ts vs ds ps →
    (DataW.weightsEach P ts ds).all (· ≤ reachBytes) = true → ds.length = ts.length ∧ ∀ (j : Nat) (t : TypeId) (v : Value), ts[j]? = some t → vs[j]? = some v → Rd P W t v.cells.toList
  | [], [], [], _, _, _ => ⟨rfl, fun j t v h _ => by simp at h⟩
  | t0 :: ts, v0 :: vs, d0 :: ds, ps, h, hw => by
    obtain ⟨p, q, ⟨fuel, h0⟩, hr, _⟩ := h
    simp only [DataW.weightsEach, List.all_append, Bool.and_eq_true] at hw
    obtain ⟨hl, ih⟩ := trodAll_split hr hw.2
    refine ⟨by simp [hl], fun j t v ht hv => ?_⟩
    cases j with
    | zero =>
      simp only [List.getElem?_cons_zero, Option.some.injEq] at ht hv
      subst ht; subst hv
      exact ⟨H, enc, fuel, (d0, p), h0, fun n hn => by simpa using List.all_eq_true.1 hw.1 n hn⟩
    | succ j => exact ih j t v (by simpa using ht) (by simpa using hv)

theorem trodAll_below {H : Type} {enc : TypeId × Value → H} {P : Program} {W W' : World} (hlaid : laidOutB P = true) (hb : Below W.heap.size W W') : ∀ {ts : List TypeId} {vs : List Value} {ds : List (DataW H)} {ps : List MemPlace},
    (ts.all fun t => P.readableRec t && decide (t < P.types.size)) = true → DataW.TrodAll enc P W 0 (fun _ => true) true ts vs ds ps → (∀ x ∈ ps, x.block < W.heap.size) →
    DataW.TrodAll enc P W' 0 (fun b => decide (b < W.heap.size)) true ts vs ds ps
  | [], [], [], _, _, h, _ => h
  | t0 :: ts, v0 :: vs, d0 :: ds, ps, ha, h, hlt => by
    obtain ⟨p, q, h0, hr, rfl⟩ := h
    simp only [List.all_cons, Bool.and_eq_true, decide_eq_true_eq] at ha
    exact ⟨p, q, Below.trod hlaid ha.1.1 ha.1.2 h0 hb (fun x hx => hlt x (List.mem_append.2 (Or.inl hx))), trodAll_below hlaid hb ha.2 hr (fun x hx => hlt x (List.mem_append.2 (Or.inr hx))), rfl⟩

theorem trodAll_blocks {H : Type} {enc : TypeId × Value → H} {P : Program} {W : World} : ∀ {ts : List TypeId} {vs : List Value} {ds : List (DataW H)} {ps : List MemPlace}, DataW.TrodAll enc P W 0 (fun _ => true) true ts vs ds ps → ∀ x ∈ ps, x.block < W.heap.size
  | [], [], [], _, h => by intro x hx; cases h; cases hx
  | t0 :: ts, v0 :: vs, d0 :: ds, ps, h => by
    obtain ⟨p, q, ⟨m, hm⟩, hr, rfl⟩ := h
    intro x hx
    rcases List.mem_append.1 hx with hx | hx
    · exact DataW.trod_lt m _ _ _ hm x hx
    · exact trodAll_blocks hr x hx

/-- FROM THE WALK OF A LAW TO THE STEP OF ITS ROW: the law returns true and turns nothing that was there. -/
theorem lift_law {C : Checked} {os : Os} {f : FuncId} {fn : Func} {s : ChangeSpec} {tb : TypeId} {H : Type} {enc : TypeId × Value → H}
    (own : ownKnob C.prog.godebug = none) (started : os.Started) (noInit : C.prog.inits.idxOf? f = none) (hfn : C.prog.funcs[f]? = some fn)
    (witness : ∃ (w : World) (tape : Tape) (i : Input), w.os = os ∧ (w.forCall tape i).Shaped C.prog ∧ i.vars = [] ∧ Input.okWide C.prog (w.forCall tape i) .any w.heap.size f i ∧
      s.pre6 enc C.prog fn [] false (w.forCall tape i).memory i.args ∧ Assume.holds {} C.prog (lone (Frame.enter C.prog f i.args .normal) [] (w.forCall tape i)))
    (hlaid : laidOutB C.prog = true) (hvars : s.vars = []) (hres : fn.resultTypes = #[tb]) (hb : C.prog.underlying tb = some .bool)
    (hread : (fn.params.toList.all fun t => C.prog.readableRec t && decide (t < C.prog.types.size)) = true)
    (hspec : ∀ ds : List (DataW H), ds.length = fn.params.size → s.fn H ds = { results := [.lit (.bool true)], args := ds })
    (walk : ∀ (W : World) (base : Nat) (args : Array Value), (∀ (j : Nat) t v, fn.params[j]? = some t → args[j]? = some v → Arg C.prog W base t v) → args.size = fn.params.size →
      Calls C.prog f args W fun e W' => e = .returned (.bool true) ∧ Below W.heap.size W W') :
    ReturnsInHanded {} C os f .any (s.pre6 enc C.prog fn [] false) (s.post enc C.prog fn false true false false) := by
  refine returnsInHanded_of_change_sized own started noInit hfn witness ?_
  intro W base args ds gs before hval hW _ hsz _
  have hW' := hW
  obtain ⟨p, q, hA, hV, rfl, _, _⟩ := hW
  rw [hvars] at hV
  obtain ⟨rfl, rfl⟩ := trodVars_none hV
  have hvt : s.plain.varTypes C.prog = [] := by simp [ChangeSpec.plain, DataSpec.varTypes, hvars]
  rw [hvt] at hsz
  simp only [List.append_nil] at hsz hW'
  obtain ⟨hl, hrd⟩ := trodAll_split hA hsz
  have hargs : args.size = fn.params.size := by
    have aux : ∀ {ts : List TypeId} {vs : List Value} {ds : List (DataW H)} {ps : List MemPlace}, DataW.TrodAll enc C.prog W 0 (fun _ => true) true ts vs ds ps → vs.length = ts.length := by
      intro ts
      induction ts with
      | nil => intro vs ds ps h; cases vs <;> cases ds <;> simp_all [DataW.TrodAll]
      | cons t ts ih =>
        intro vs ds ps h
        cases vs with
        | nil => cases ds <;> simp_all [DataW.TrodAll]
        | cons v vs => cases ds with
          | nil => simp_all [DataW.TrodAll]
          | cons d ds =>
            obtain ⟨_, _, _, hr, _⟩ := h
            simp [ih hr]
    have := aux hA
    simpa using this
  refine (walk W base args (fun j t v ht hv => ⟨hval j t v ht hv, hrd j t v (by simpa using ht) (by simpa using hv)⟩) hargs).mono fun e W' ⟨he, bel⟩ => ?_
  subst he
  have e1 := hspec ds (by simpa using hl)
  refine ⟨_, rfl, ds, [], p, [], p, [], hW', ?_, ?_, ?_, bel.frame _, fun h => by cases h⟩
  · rw [List.append_nil, e1, hres]
    exact trodAll_mk1 (shut_bool hb _)
  · rw [List.append_nil, e1]
    exact trodAll_below hlaid bel hread hA (trodAll_blocks hA)
  · rw [List.append_nil, e1, hvars]
    rfl

end Go.Proofs.YtgflfdnajchjaaaGreatDoor
/- Small facts on worlds that every walk of this seat uses. Nothing of the program is named here. -/
namespace Go.Proofs.YtgflfdnajchjaaaGreatDoor
set_option linter.unusedVariables false
set_option linter.unusedSimpArgs false
open Go.RowKit Go.Sort

theorem ret_int {k : IntKind} {a b : Int} (h : a = b) : Ending.returned (.int k a) = .returned (.int k b) := by rw [h]
theorem ret_bool {a b : Bool} (h : a = b) : Ending.returned (.bool a) = .returned (.bool b) := by rw [h]

theorem bcell {W w1 : World} (hb : Below W.heap.size W w1) : (∀ b o, b < W.heap.size → w1.cell? ⟨b, o, none⟩ = W.cell? ⟨b, o, none⟩) ∧ (∀ b o, b < W.heap.size → w1.frozen? ⟨b, o, none⟩ = W.frozen? ⟨b, o, none⟩) :=
  ⟨fun b o h => hb.cell (p := ⟨b, o, none⟩) h, fun b o h => hb.frozen (p := ⟨b, o, none⟩) h⟩

theorem gcell (W : World) (d : Nat) (os : Array Obj) (b o : Nat) (h : b < W.heap.size) : (grow (redrawn W d) os).cell? ⟨b, o, none⟩ = W.cell? ⟨b, o, none⟩ :=
  (below_regrown W d os).cell (p := ⟨b, o, none⟩) h
theorem gfrozen (W : World) (d : Nat) (os : Array Obj) (b o : Nat) (h : b < W.heap.size) : (grow (redrawn W d) os).frozen? ⟨b, o, none⟩ = W.frozen? ⟨b, o, none⟩ :=
  (below_regrown W d os).frozen (p := ⟨b, o, none⟩) h

theorem lt_of_cell {w : World} {b o : Nat} {v : Value} (h : w.cell? ⟨b, o, none⟩ = some v) : b < w.heap.size := block_lt_of_cell h

/-- A cell that was there is there in a world that has grown. -/
theorem up {W w : World} {b o : Nat} {v : Value} (hb : Below W.heap.size W w) (h : W.cell? ⟨b, o, none⟩ = some v) : w.cell? ⟨b, o, none⟩ = some v := (hb.cell (lt_of_cell h)).trans h
theorem upf {W w : World} {b o : Nat} (hb : Below W.heap.size W w) (hl : b < W.heap.size) (h : W.frozen? ⟨b, o, none⟩ = false) : w.frozen? ⟨b, o, none⟩ = false := (hb.frozen (p := ⟨b, o, none⟩) hl).trans h

/-- Two worlds that have grown, one behind the other. -/
theorem bthen {B : Nat} {a b c : World} (h : Below B a b) (k : Below b.heap.size b c) (hB : B ≤ b.heap.size) : Below B a c := h.trans (k.mono hB)
theorem bthen' {a b c : World} (h : Below a.heap.size a b) (k : Below b.heap.size b c) : Below a.heap.size a c := h.trans (k.mono h.size)

theorem below_of_regrown {W w : World} (h : ∃ p : Regrown, w = grow (redrawn W p.d) p.os) : Below W.heap.size W w := by
  obtain ⟨p, rfl⟩ := h
  exact below_regrown _ _ _

theorem below_of_same {P : Program} {f : FuncId} {args : Array Value} {w : World} {v : Value} (h : Calls P f args w fun e w' => e = .returned v ∧ w' = w) : Calls P f args w fun e w' => e = .returned v ∧ Below w.heap.size w w' :=
  h.mono fun _ _ ⟨he, hw⟩ => ⟨he, hw ▸ Below.refl _ _⟩
theorem regrown_same {P : Program} {f : FuncId} {args : Array Value} {w : World} {d : Nat} {os : Array Obj} {v : Value}
    (h : Calls P f args (grow (redrawn w d) os) fun e w' => e = .returned v ∧ w' = grow (redrawn w d) os) : Calls P f args (grow (redrawn w d) os) fun e w'' => e = .returned v ∧ ∃ p : Regrown, w'' = grow (redrawn w p.d) p.os :=
  Calls.regrown_of (below_of_same h)

theorem cell_set (w : World) (a b : Addr) (v : Value) : (w.setCell a v).cell? b = if a = b then (w.cell? b).map (fun _ => v) else w.cell? b := by
  by_cases h : a = b
  · subst h
    rw [if_pos rfl]
    cases hc : w.cell? a with
    | some u => exact World.cell?_setCell_same _ _ _ hc
    | none =>
      simp only [World.setCell, World.cell?, Array.getElem?_modify, if_true, Option.map_none] at hc ⊢
      cases hb : w.heap[a.block]? with
      | none => simp
      | some o =>
        rw [hb] at hc
        cases o with
        | cells c t f =>
          simp only [Option.map_some] at hc ⊢
          split at hc
          · rename_i h1; simp [h1]
          · rename_i h1
            have : c.size ≤ a.off := by simpa using hc
            simp [h1, this]
        | _ => simp
  · rw [if_neg h]; exact World.cell?_setCell_other _ _ _ _ h

/-- What a function hands back that lies in a row of memory. -/
theorem results_range {P : Program} {fn : Func} {p : Tmp} {ty : TypeId} (h : fn.results = #[.cell p ty]) (tmps : Array Value) (w : World) (g : Nat) (cs : List Value) (d : TypeDesc)
    (hp : tmps.getD p undef = .pointer (some ⟨g, 0, none⟩)) (hc : w.rangeAt g 0 cs) (hu : P.underlying ty = some d) (hd : d.isRow = true) (hi : (P.info? ty).map (·.size) = some cs.length) :
    (results fn tmps).run P w = .ok (.agg cs.toArray) w := by
  have hp' : tmps[p]?.getD undef = .pointer (some ⟨g, 0, none⟩) := by simpa using hp
  have h1 := run_loadAt_mid (P := P) w g 0 ty cs d hc hu hd hi
  simp only [Instr.loadAt, Instr.sureAddr, Sem.run_bind, Sem.run_pure, Result.andThen_ok] at h1
  simp [results, h, hp', asAddr, h1]

end Go.Proofs.YtgflfdnajchjaaaGreatDoor
/- Rows of whole numbers as they lie in memory, and rows that grow by append. Nothing of the program is named here. -/
namespace Go.Proofs.YtgflfdnajchjaaaGreatDoor
set_option linter.unusedVariables false
set_option linter.unusedSimpArgs false
open Go.RowKit Go.Sort

/-- A slice of whole numbers as it lies in memory. -/
def Row (w : World) (a : Option Addr) (n : Nat) (xs : Nat → Int) : Prop := ∃ b m, (0 < n → a = some ⟨b, m, none⟩) ∧ ∀ k, k < n → w.cell? ⟨b, m + k, none⟩ = some (.int .i64 (xs k))

theorem Row.mono {W w : World} {a : Option Addr} {n : Nat} {xs : Nat → Int} (R : Row W a n xs) (hb : Below W.heap.size W w) : Row w a n xs := by
  obtain ⟨b, m, h1, h2⟩ := R
  exact ⟨b, m, h1, fun k hk => up hb (h2 k hk)⟩
theorem Row.congr {w : World} {a : Option Addr} {n m : Nat} {xs ys : Nat → Int} (R : Row w a n xs) (hn : n = m) (h : ∀ k, k < n → xs k = ys k) : Row w a m ys := by
  subst hn
  obtain ⟨b, m, h1, h2⟩ := R
  exact ⟨b, m, h1, fun k hk => by rw [← h k hk]; exact h2 k hk⟩
theorem Row.zero (w : World) (a : Option Addr) (xs : Nat → Int) : Row w a 0 xs := ⟨0, 0, fun h => absurd h (Nat.lt_irrefl _), fun k hk => absurd hk (Nat.not_lt_zero _)⟩

theorem info_split {P : Program} {e : TypeId} {z : Value} {n b : Nat} (h : (P.info? e).map (fun i => (i.zero, i.size, i.bytes)) = some (some z, n, b)) : ∃ i, P.info? e = some i ∧ i.zero = some z ∧ i.size = n ∧ i.bytes = b := by
  cases hi : P.info? e with
  | none => rw [hi] at h; simp at h
  | some i => rw [hi] at h; simp at h; exact ⟨i, rfl, h.1, h.2.1, h.2.2⟩

theorem vals_succ (f : Nat → Value) (n : Nat) : (List.range n).map f ++ [f n] = (List.range (n + 1)).map f := by
  rw [List.range_succ, List.map_append]; rfl

theorem own_cells {w : World} {base e : Nat} {v : Value} {n : Nat} {f : Nat → Value} (h : w.ownsRow base e 1 v n ((List.range n).map f)) :
    ∃ a c b, v = .slice a n c ∧ n ≤ c ∧ (0 < n → a = some ⟨b, 0, none⟩ ∧ base ≤ b ∧ b < w.heap.size) ∧ ∀ i, i < n → w.cell? ⟨b, i, none⟩ = some (f i) := by
  obtain ⟨_, ⟨hv, rfl⟩ | ⟨g, cap, cur, hv, hg, hh, hn, hm, hs, ht⟩⟩ := h
  · exact ⟨none, 0, 0, hv, Nat.le_refl _, fun h => absurd h (Nat.lt_irrefl _), fun i hi => absurd hi (Nat.not_lt_zero _)⟩
  · refine ⟨_, cap, g, hv, hn, fun _ => ⟨rfl, hg, (Array.getElem?_eq_some_iff.1 hh).1⟩, fun i hi => ?_⟩
    have h2 := congrArg (fun l => l[i]?) ht
    simp only [Nat.mul_one, List.getElem?_take, List.getElem?_map, List.getElem?_range hi, Option.map_some, if_pos hi] at h2
    rw [cell_of_row w g i cur e (0, 0) hh]
    simpa using h2

theorem own_row {w : World} {base e : Nat} {v : Value} {n : Nat} {xs : Nat → Int} (h : w.ownsRow base e 1 v n ((List.range n).map fun i => .int .i64 (xs i))) : ∃ a c, v = .slice a n c ∧ n ≤ c ∧ Row w a n xs := by
  obtain ⟨a, c, b, h1, h2, h3, h4⟩ := own_cells h
  exact ⟨a, c, h1, h2, b, 0, fun h0 => (h3 h0).1, fun k hk => by simpa using h4 k hk⟩

variable {P : Program}

/-- One value is appended to a row of one's own: it lies in a new block of one cell. -/
theorem wpList_append1 {ops : Array Oper} {rest : List Oper} {o : Oper} {a : Act} {Q : Exit → Act → World → Prop} (w W0 : World) (base : Nat) (hgd : o.guard = none) (s x : Operand) (t : TypeId)
    (ho : o.op = .call { callee := .builtin .append, args := #[s, x], argTypes := #[t, t] })
    (e : TypeId) (z : Value) (bytes : Nat) (ht : P.underlying t = some (.slice e)) (hi : (P.info? e).map (fun i => (i.zero, i.size, i.bytes)) = some (some z, 1, bytes)) (hzs : z.cells.size = 1) (hbt : bytes ≤ 1000)
    (v : Value) (n : Nat) (f : Nat → Value) (hs : a.eval s = v) (u : Value) (hx : a.eval x = .slice (some ⟨w.heap.size, 0, none⟩) 1 1)
    (hown : w.ownsRow base e 1 v n ((List.range n).map f)) (hB : Below base W0 w) (hbase : base ≤ w.heap.size) (hu : u = f n) (h1 : u.oneCell' = true) (hn : n + 1 ≤ 1000000)
    (h : ∀ v' w', w'.ownsRow base e 1 v' (n + 1) ((List.range (n + 1)).map f) → Below base W0 w' → base ≤ w'.heap.size → w.heap.size ≤ w'.heap.size → w.grownBy w' v.ownBlock → wpList P ops Q rest (a.put o.dst v') w') :
    wpList P ops Q (o :: rest) a (w.alloc (.cells #[u] e)) := by
  obtain ⟨i, hi1, hz, hsz, hby⟩ := info_split hi
  have hgr : w.grownBy (w.alloc (.cells #[u] e)) none := ⟨rfl, rfl, rfl, by simp, fun i hi _ => Below.heap_alloc _ _ _ hi⟩
  refine wpList_append_own _ hgd s x t ho base e i z 1 bytes ht hi1 hz hsz hby hzs (by omega) v n _ hs (hown.alloc _) ⟨w.heap.size, 0, none⟩ 1 1 [u] hx (by simp) (fun j v' hj => ?_) (fun v' hv => by simp at hv; rw [hv]; exact h1) (by unfold maxLen; omega) ?_ (by simp; omega) ?_
  · match j with
    | 0 => simp at hj; subst hj; simp [go_sem, Addr.add_mid]
    | j + 1 => simp at hj
  · have : (n + 1) * bytes ≤ 1000000 * 1000 := Nat.mul_le_mul hn hbt
    omega
  · intro v' w' h2 h3 _
    have h4 : w.heap.size ≤ w'.heap.size := by have := h3.size; simp at this; omega
    rw [hu, vals_succ] at h2
    refine h v' w' h2 ?_ (Nat.le_trans hbase h4) h4 ⟨h3.os, h3.tape, h3.output, h4, fun i hi hne => ?_⟩
    · exact (hB.alloc hbase _).grown h3 (by simp; omega) (fun k hk => (hown.lt k hk).1)
    · exact (h3.block i (by simp; omega) hne).trans (Below.heap_alloc _ _ _ hi)

/-- .. with the word on where the row lies afterwards: where it lay, or in a new block. -/
theorem wpList_append1_at {ops : Array Oper} {rest : List Oper} {o : Oper} {a : Act} {Q : Exit → Act → World → Prop} (w W0 : World) (base : Nat) (hgd : o.guard = none) (s x : Operand) (t : TypeId)
    (ho : o.op = .call { callee := .builtin .append, args := #[s, x], argTypes := #[t, t] })
    (e : TypeId) (z : Value) (bytes : Nat) (ht : P.underlying t = some (.slice e)) (hi : (P.info? e).map (fun i => (i.zero, i.size, i.bytes)) = some (some z, 1, bytes)) (hzs : z.cells.size = 1) (hbt : bytes ≤ 1000)
    (v : Value) (n : Nat) (f : Nat → Value) (hs : a.eval s = v) (u : Value) (hx : a.eval x = .slice (some ⟨w.heap.size, 0, none⟩) 1 1)
    (hown : w.ownsRow base e 1 v n ((List.range n).map f)) (hB : Below base W0 w) (hbase : base ≤ w.heap.size) (hu : u = f n) (h1 : u.oneCell' = true) (hn : n + 1 ≤ 1000000)
    (h : ∀ v' w', w'.ownsRow base e 1 v' (n + 1) ((List.range (n + 1)).map f) → Below base W0 w' → w.heap.size ≤ w'.heap.size → w.grownBy w' v.ownBlock → (v'.ownBlock = v.ownBlock ∨ v'.ownBlock = some (w.heap.size + 1)) → wpList P ops Q rest (a.put o.dst v') w') :
    wpList P ops Q (o :: rest) a (w.alloc (.cells #[u] e)) := by
  obtain ⟨i, hi1, hz, hsz, hby⟩ := info_split hi
  refine wpList_append_own_at _ hgd s x t ho base e i z 1 bytes ht hi1 hz hsz hby hzs (by omega) v n _ hs (hown.alloc _) ⟨w.heap.size, 0, none⟩ 1 1 [u] hx (by simp) (fun j v' hj => ?_) (fun v' hv => by simp at hv; rw [hv]; exact h1) (by unfold maxLen; omega) ?_ (by simp; omega) ?_
  · match j with
    | 0 => simp at hj; subst hj; simp [go_sem, Addr.add_mid]
    | j + 1 => simp at hj
  · have : (n + 1) * bytes ≤ 1000000 * 1000 := Nat.mul_le_mul hn hbt
    omega
  · intro v' w' h2 h3 _ h5
    have h4 : w.heap.size ≤ w'.heap.size := by have := h3.size; simp at this; omega
    rw [hu, vals_succ] at h2
    refine h v' w' h2 ?_ h4 ⟨h3.os, h3.tape, h3.output, h4, fun i hi hne => ?_⟩ (by simpa using h5)
    · exact (hB.alloc hbase _).grown h3 (by simp; omega) (fun k hk => (hown.lt k hk).1)
    · exact (h3.block i (by simp; omega) hne).trans (Below.heap_alloc _ _ _ hi)

/-- Two rows that lie in different blocks. -/
def Apart (u v : Value) : Prop := ∀ b, u.ownBlock = some b → v.ownBlock ≠ some b
theorem Apart.symm {u v : Value} (h : Apart u v) : Apart v u := fun b h1 h2 => h b h2 h1
theorem Apart.grown {w : World} {base e n k : Nat} {u v v' : Value} {xs : List Value} (h : Apart u v) (hu : w.ownsRow base e k u n xs) (hv : v'.ownBlock = v.ownBlock ∨ v'.ownBlock = some (w.heap.size + 1)) : Apart u v' := fun b h1 h2 => by
  rcases hv with hv | hv
  · exact h b h1 (hv ▸ h2)
  · have h3 := (hu.lt b h1).2
    rw [h2] at hv
    have := Option.some.inj hv
    omega
theorem Apart.keep {w w' : World} {base e n k : Nat} {u v : Value} {xs : List Value} (h : Apart u v) (hu : w.ownsRow base e k u n xs) (hg : w.grownBy w' v.ownBlock) : w'.ownsRow base e k u n xs := by
  refine hu.kept hg ?_
  cases hb : u.ownBlock with
  | none => exact .inl rfl
  | some b => exact .inr fun h2 => h b hb h2.symm
theorem Apart.nil (v : Value) : Apart (.slice none 0 0) v := fun b h => by cases h

end Go.Proofs.YtgflfdnajchjaaaGreatDoor
/- Rows of one-cell elements in a block of one's own, written in place. Nothing of the program is named here. -/
namespace Go.Proofs.YtgflfdnajchjaaaGreatDoor
set_option linter.unusedVariables false
set_option linter.unusedSimpArgs false
open Go.RowKit Go.Sort

/-- Block z holds a row of n cells that may be written. -/
structure VAt (w : World) (z n : Nat) (f : Nat → Value) : Prop where
  c : ∀ k, k < n → w.cell? ⟨z, k, none⟩ = some (f k)
  fr : ∀ k, w.frozen? ⟨z, k, none⟩ = false
  lt : z < w.heap.size
def putV (f : Nat → Value) (j : Nat) (v : Value) : Nat → Value := fun k => if k = j then v else f k
theorem putV_at (f : Nat → Value) (j : Nat) (v : Value) : putV f j v j = v := if_pos rfl
theorem putV_ne {f : Nat → Value} {j k : Nat} {v : Value} (h : k ≠ j) : putV f j v k = f k := if_neg h
theorem VAt.mono {w w' : World} {z n : Nat} {f : Nat → Value} (Q : VAt w z n f) (hb : Below w.heap.size w w') : VAt w' z n f :=
  ⟨fun k hk => up hb (Q.c k hk), fun k => upf hb Q.lt (Q.fr k), Nat.lt_of_lt_of_le Q.lt hb.size⟩
theorem VAt.set {w : World} {z n : Nat} {f : Nat → Value} (Q : VAt w z n f) (j : Nat) (v : Value) : VAt (w.setCell ⟨z, j, none⟩ v) z n (putV f j v) := by
  refine ⟨fun k hk => ?_, fun k => ?_, by simpa using Q.lt⟩
  · have := Q.c k hk
    by_cases e : k = j
    · subst e
      rw [putV_at, cell_set, if_pos rfl, this]; rfl
    · rw [putV_ne e, cell_set, if_neg (by simp [Ne.symm e])]; exact this
  · rw [World.frozen?_setCell]; exact Q.fr k
theorem VAt.far {w : World} {z n p o : Nat} {f : Nat → Value} {v : Value} (Q : VAt w z n f) (h : p ≠ z) : VAt (w.setCell ⟨p, o, none⟩ v) z n f := by
  refine ⟨fun k hk => ?_, fun k => ?_, by simpa using Q.lt⟩
  · rw [cell_set, if_neg (by simp [h])]; exact Q.c k hk
  · rw [World.frozen?_setCell]; exact Q.fr k
theorem VAt.congr {w : World} {z n : Nat} {f g : Nat → Value} (Q : VAt w z n f) (h : ∀ k, k < n → g k = f k) : VAt w z n g :=
  ⟨fun k hk => by rw [h k hk]; exact Q.c k hk, Q.fr, Q.lt⟩
/-- .. in a world in which that block alone may have turned as told, and what lies below B has not. -/
theorem VAt.made {W w : World} {base e n : Nat} {v : Value} (h : w.ownsRow base e 1 (.slice (some ⟨W.heap.size, 0, none⟩) n n) n (madeCells #[v] n).toList) : VAt w W.heap.size n (fun _ => v) := by
  refine ⟨fun j hj => ?_, fun j => h.frozenAt j, (h.lt _ rfl).2⟩
  rw [h.cellAt j (by omega), toList_madeCells_one]
  simp [List.getElem?_replicate, hj]
theorem below_of_grown {W w : World} (h : W.grownBy w none) : Below W.heap.size W w := ⟨h.os, h.tape, h.output, h.size, fun i hi => h.block i hi (by simp)⟩
/-- Whole numbers as values. -/
def iv (xs : Nat → Int) (k : Nat) : Value := .int .i64 (xs k)
theorem VAt.row {w : World} {z n : Nat} {xs : Nat → Int} (Q : VAt w z n (iv xs)) : Row w (some ⟨z, 0, none⟩) n xs :=
  ⟨z, 0, fun _ => rfl, fun k hk => by rw [Nat.zero_add]; exact Q.c k hk⟩
def putI (xs : Nat → Int) (j : Nat) (x : Int) : Nat → Int := fun k => if k = j then x else xs k
theorem VAt.setI {w : World} {z n : Nat} {xs : Nat → Int} (Q : VAt w z n (iv xs)) (j : Nat) (x : Int) : VAt (w.setCell ⟨z, j, none⟩ (.int .i64 x)) z n (iv (putI xs j x)) :=
  (Q.set j _).congr fun k _ => by
    unfold putV iv putI
    split <;> rfl
end Go.Proofs.YtgflfdnajchjaaaGreatDoor
/- Whether any of the first n has a property. Nothing of the program is named here. -/
namespace Go.Proofs.YtgflfdnajchjaaaGreatDoor
set_option linter.unusedVariables false
set_option linter.unusedSimpArgs false

def anyB (p : Nat → Bool) : Nat → Bool
  | 0 => false
  | k + 1 => anyB p k || p k
theorem anyB_true {p : Nat → Bool} {n k : Nat} (hk : k < n) (h : p k = true) : anyB p n = true := by
  induction n with
  | zero => omega
  | succ n ih =>
    unfold anyB
    by_cases h2 : k < n
    · rw [ih h2]; rfl
    · have : k = n := by omega
      subst this; rw [h]; simp
theorem anyB_false {p : Nat → Bool} {n : Nat} : anyB p n = false ↔ ∀ k, k < n → p k = false := by
  constructor
  · intro h k hk
    cases hp : p k
    · rfl
    · rw [anyB_true hk hp] at h; cases h
  · intro h
    induction n with
    | zero => rfl
    | succ n ih => unfold anyB; rw [ih (fun k hk => h k (by omega)), h n (by omega)]; rfl

theorem anyB_or (p q : Nat → Bool) (n : Nat) : anyB (fun k => p k || q k) n = (anyB p n || anyB q n) := by
  induction n with
  | zero => rfl
  | succ n ih => unfold anyB; rw [ih]; cases anyB p n <;> cases anyB q n <;> cases p n <;> cases q n <;> rfl
end Go.Proofs.YtgflfdnajchjaaaGreatDoor
/- From the walk of a law to the step of its row, where the row lists package variables: the walk may use what they hold, and the world's shape. Nothing of the program is named here. -/
namespace Go.Proofs.YtgflfdnajchjaaaGreatDoor
set_option linter.unusedVariables false
set_option linter.unusedSimpArgs false
open Go.RowKit Go.ChangeShapes Go.WideShapes Go.ChangeAt
theorem change_and_shaped {H : Type} {enc : TypeId × Value → H} {a : Assume} {C : Checked} {os : Os} {f : FuncId} {fn : Func} {s : ChangeSpec} {conds : List PathCond} {apart fresh handsOn again : Bool} {X : World → Array Value → Prop}
    (hX : ∀ (w w' : World) (args : Array Value), w.heap = w'.heap → X w args → X w' args)
    (own : ownKnob C.prog.godebug = none) (started : os.Started) (noInit : C.prog.inits.idxOf? f = none) (hfn : C.prog.funcs[f]? = some fn)
    (witness : ∃ (w : World) (tape : Tape) (i : Input), w.os = os ∧ (w.forCall tape i).Shaped C.prog ∧ i.vars = [] ∧ Input.okWide C.prog (w.forCall tape i) .any w.heap.size f i ∧
      ((s.pre enc C.prog fn conds apart (w.forCall tape i).memory i.args ∧ X (w.forCall tape i).memory i.args) ∧ sizedMet enc C.prog fn (OpenSpec.ofChange s) apart (w.forCall tape i).memory i.args) ∧ a.holds C.prog (lone (Frame.enter C.prog f i.args .normal) [] (w.forCall tape i)))
    (contract : ∀ (W : World) (base : Nat) (args : Array Value) (ds gs : List (DataW H)) (before : List MemPlace),
      (∀ (j : Nat) t v, fn.params[j]? = some t → args[j]? = some v → Value.okWide C.prog W .any base t v) →
      DataW.Whole enc C.prog fn.params.toList s.vars apart W args.toList ds gs before →
      conds.all (PathCond.test C.prog ⟨fn.params.toList, ds, s.plain.varTypes C.prog, gs⟩) = true →
      (DataW.weightsEach C.prog (fn.params.toList ++ s.plain.varTypes C.prog) (ds ++ gs)).all (· ≤ reachBytes) = true → X W args → W.ShapedOpen C.prog →
      a.holds C.prog (lone (Frame.enter C.prog f args .normal) [] W) →
      Calls C.prog f args W fun e W' => ∃ v, e = .returned v ∧ s.post enc C.prog fn apart fresh handsOn again W args v W') :
    ReturnsInHanded a C os f .any (fun w args => (s.pre enc C.prog fn conds apart w args ∧ X w args) ∧ sizedMet enc C.prog fn (OpenSpec.ofChange s) apart w args) (s.post enc C.prog fn apart fresh handsOn again) := by
  refine returnsInHanded_of_calls own started noInit witness ?_
  intro w tape i _ hsh _ hok hpre hholds
  obtain ⟨_, _, _, fn', hfn', _, _, _, _, hval⟩ := hok
  have e : fn' = fn := Option.some.inj (hfn'.symm.trans hfn)
  subst e
  obtain ⟨⟨⟨ds, gs, before, hw, hc⟩, hx⟩, hz⟩ := hpre
  have hw' := DataW.Whole.of_heap (w' := w.forCall tape i) (by rfl) hw
  refine (contract (w.forCall tape i) w.heap.size i.args ds gs before hval hw' hc (hz.weights hw) (hX _ _ _ (by rfl) hx) hsh hholds).mono fun e W' ⟨v, he, hp⟩ => ?_
  subst he
  exact ChangeSpec.post_blind hp
theorem lift_lawX {C : Checked} {os : Os} {f : FuncId} {fn : Func} {s : ChangeSpec} {tb : TypeId} {H : Type} {enc : TypeId × Value → H} {X : World → Array Value → Prop}
    (hX : ∀ (w w' : World) (args : Array Value), w.heap = w'.heap → X w args → X w' args)
    (own : ownKnob C.prog.godebug = none) (started : os.Started) (noInit : C.prog.inits.idxOf? f = none) (hfn : C.prog.funcs[f]? = some fn)
    (witness : ∃ (w : World) (tape : Tape) (i : Input), w.os = os ∧ (w.forCall tape i).Shaped C.prog ∧ i.vars = [] ∧ Input.okWide C.prog (w.forCall tape i) .any w.heap.size f i ∧
      ((s.pre enc C.prog fn [] false (w.forCall tape i).memory i.args ∧ X (w.forCall tape i).memory i.args) ∧ sizedMet enc C.prog fn (OpenSpec.ofChange s) false (w.forCall tape i).memory i.args) ∧ Assume.holds {} C.prog (lone (Frame.enter C.prog f i.args .normal) [] (w.forCall tape i)))
    (hlaid : laidOutB C.prog = true) (hvars : s.vars = []) (hres : fn.resultTypes = #[tb]) (hb : C.prog.underlying tb = some .bool)
    (hread : (fn.params.toList.all fun t => C.prog.readableRec t && decide (t < C.prog.types.size)) = true)
    (hspec : ∀ ds : List (DataW H), ds.length = fn.params.size → s.fn H ds = { results := [.lit (.bool true)], args := ds })
    (walk : ∀ (W : World) (base : Nat) (args : Array Value), X W args → W.ShapedOpen C.prog → (∀ (j : Nat) t v, fn.params[j]? = some t → args[j]? = some v → Arg C.prog W base t v) → args.size = fn.params.size →
      Calls C.prog f args W fun e W' => e = .returned (.bool true) ∧ Below W.heap.size W W') :
    ReturnsInHanded {} C os f .any (fun w args => (s.pre enc C.prog fn [] false w args ∧ X w args) ∧ sizedMet enc C.prog fn (OpenSpec.ofChange s) false w args) (s.post enc C.prog fn false true false false) := by
  refine change_and_shaped hX own started noInit hfn witness ?_
  intro W base args ds gs before hval hW _ hsz hx hsh _
  have hW' := hW
  obtain ⟨p, q, hA, hV, rfl, _, _⟩ := hW
  rw [hvars] at hV
  obtain ⟨rfl, rfl⟩ := trodVars_none hV
  have hvt : s.plain.varTypes C.prog = [] := by simp [ChangeSpec.plain, DataSpec.varTypes, hvars]
  rw [hvt] at hsz
  simp only [List.append_nil] at hsz hW'
  obtain ⟨hl, hrd⟩ := trodAll_split hA hsz
  have hargs : args.size = fn.params.size := by
    have aux : ∀ {ts : List TypeId} {vs : List Value} {ds : List (DataW H)} {ps : List MemPlace}, DataW.TrodAll enc C.prog W 0 (fun _ => true) true ts vs ds ps → vs.length = ts.length := by
      intro ts
      induction ts with
      | nil => intro vs ds ps h; cases vs <;> cases ds <;> simp_all [DataW.TrodAll]
      | cons t ts ih =>
        intro vs ds ps h
        cases vs with
        | nil => cases ds <;> simp_all [DataW.TrodAll]
        | cons v vs => cases ds with
          | nil => simp_all [DataW.TrodAll]
          | cons d ds =>
            obtain ⟨_, _, _, hr, _⟩ := h
            simp [ih hr]
    have := aux hA
    simpa using this
  refine (walk W base args hx hsh (fun j t v ht hv => ⟨hval j t v ht hv, hrd j t v (by simpa using ht) (by simpa using hv)⟩) hargs).mono fun e W' ⟨he, bel⟩ => ?_
  subst he
  have e1 := hspec ds (by simpa using hl)
  refine ⟨_, rfl, ds, [], p, [], p, [], hW', ?_, ?_, ?_, bel.frame _, fun h => by cases h⟩
  · rw [List.append_nil, e1, hres]
    exact trodAll_mk1 (shut_bool hb _)
  · rw [List.append_nil, e1]
    exact trodAll_below hlaid bel hread hA (trodAll_blocks hA)
  · rw [List.append_nil, e1, hvars]
    rfl
end Go.Proofs.YtgflfdnajchjaaaGreatDoor
/- A map written as a literal: its entries are stored in whatever order; and the look-up in it. Also: a region that draws its order, by an invariant over what has come up. Nothing of the program is named here. -/
namespace Go.Proofs.YtgflfdnajchjaaaGreatDoor
set_option linter.unusedVariables false
set_option linter.unusedSimpArgs false
open Go.RowKit Go.Maps Go.ChangeMaps

section
variable {P : Program} {ops : Array Oper} {Q : Exit → Act → World → Prop} {md : Region.Mode}

def unlisted (listed : Array Bool) : Nat := (listed.toList.filter (fun b => !b)).length
theorem unlisted_set {listed : Array Bool} {i : Nat} (h : listed.getD i true = false) : unlisted (listed.setIfInBounds i true) + 1 = unlisted listed := by
  have hi : i < listed.toList.length := by
    rcases Nat.lt_or_ge i listed.size with h' | h'
    · simpa using h'
    · simp [Array.getElem?_eq_none h'] at h
  have hf : listed.toList[i] = false := by
    have h' : i < listed.size := by simpa using hi
    simpa [h'] using h
  unfold unlisted
  rw [Array.toList_setIfInBounds]
  have key : ∀ (l : List Bool) (i : Nat) (hi : i < l.length), l[i] = false → ((l.set i true).filter (fun b => !b)).length + 1 = (l.filter (fun b => !b)).length := by
    intro l
    induction l with
    | nil => intro i hi; simp at hi
    | cons x l ih =>
      intro i hi hx
      cases i with
      | zero =>
        simp at hx
        subst hx
        simp
      | succ i =>
        have hi' : i < l.length := by simpa using hi
        have := ih i hi' (by simpa using hx)
        cases x <;> simp <;> omega
  exact key _ i hi hf
theorem ready_none {listed : Array Bool} (h : unlisted listed = 0) (hs : listed.size = ops.size) : Region.ready md ops listed = [] := by
  rw [List.eq_nil_iff_forall_not_mem]
  intro j hj
  have := unlisted_set (mem_ready.1 hj).1
  omega

/-- **A region in whatever order, by an invariant over what has come up.** -/
theorem wpAny_inv (I : Array Bool → Act → World → Prop)
    (hstep : ∀ listed i a w, listed.size = ops.size → i ∈ Region.ready md ops listed → I listed a w → wpOp P ops Q i (I (listed.setIfInBounds i true)) a w)
    (hend : ∀ listed a w, listed.size = ops.size → Region.ready md ops listed = [] → I listed a w → Q .normal a w) :
    ∀ (fuel : Nat) (listed : Array Bool) (a : Act) (w : World), listed.size = ops.size → unlisted listed ≤ fuel → I listed a w → wpAny P md ops Q fuel listed a w
  | 0, listed, a, w, hs, hu, h => by
    have hr := ready_none (ops := ops) (md := md) (listed := listed) (by omega) hs
    exact ⟨hr, hend listed a w hs hr h⟩
  | fuel + 1, listed, a, w, hs, hu, h =>
    ⟨fun hr => hend listed a w hs hr h, fun i hi => wpOp_mono (fun a' w' h' => wpAny_inv I hstep hend fuel (listed.setIfInBounds i true) a' w' (by simpa using hs) (by have := unlisted_set (mem_ready.1 hi).1; omega) h') (hstep listed i a w hs hi h)⟩

theorem unlisted_start (n : Nat) : unlisted (Array.replicate n false) ≤ n := by
  unfold unlisted
  refine Nat.le_trans (List.length_filter_le _ _) (by simp)

/-- A region by an invariant. -/
theorem wp_region_inv {id : Nat} {a : Act} {w : World} (hm : P.follows .mixedOrders = true) (I : Array Bool → Act → World → Prop)
    (hstep : ∀ listed i a w, listed.size = ops.size → i ∈ Region.ready .any ops listed → I listed a w → wpOp P ops Q i (I (listed.setIfInBounds i true)) a w)
    (hend : ∀ listed a w, listed.size = ops.size → Region.ready .any ops listed = [] → I listed a w → Q .normal a w)
    (h0 : I (Array.replicate ops.size false) a w.drew) : (Code.region id ops true).wp P Q a w :=
  wp_region_any hm (wpAny_inv I hstep hend _ _ _ _ (by simp) (unlisted_start _) h0)

theorem set_true {listed : Array Bool} {i j : Nat} : (listed.setIfInBounds i true).getD j false = true ↔ (listed.getD j false = true ∨ (i = j ∧ j < listed.size)) := by
  by_cases h : i = j
  · subst h
    by_cases h2 : i < listed.size
    · simp [h2]
    · have h3 : listed.getD i false = false := by simp [Array.getElem?_eq_none (Nat.le_of_not_lt h2)]
      simp [h2]
  · rw [getD_set_ne false h]
    simp [h]

variable {T K E : TypeId}

/-- What a literal's entries are, as far as they have been stored: 'st i': number i has been stored. -/
def Entries (w : World) (B n : Nat) (key val : Nat → Value) (st : Nat → Prop) : Prop :=
  ∃ es clock, w.heap[B]? = some (.map es clock) ∧ (∀ e ∈ es.toList, ∃ i, i < n ∧ st i ∧ e.key = key i ∧ e.val = val i) ∧ ∀ i, i < n → st i → ∃ e ∈ es.toList, e.key = key i

theorem insert_run (law : Keyed P K) (hT : P.underlying T = some (.map K E)) {w : World} {B n : Nat} {key val : Nat → Value} {kl : Nat → Lit} {st : Nat → Prop} (hkl : ∀ i, i < n → keyOf P K (key i) = some (kl i)) (hap : ∀ i j, i < n → j < n → key i = key j → i = j)
    (h : Entries w B n key val st) {i : Nat} (hi : i < n) (hn : ¬ st i) :
    ∃ w', (Instr.mapUpdate T (.map (some B)) (key i) (val i)).run P w = .ok () w' ∧ Entries w' B n key val (fun j => st j ∨ j = i) ∧ Below B w w' ∧ w'.heap.size = w.heap.size := by
  obtain ⟨es, clock, hb, h1, h2⟩ := h
  have hlt : B < w.heap.size := (Array.getElem?_eq_some_iff.1 hb).1
  have hkeys : ∀ e ∈ es.toList, ∃ l, keyOf P K e.key = some l := fun e he => by
    obtain ⟨j, hj, _, hk, _⟩ := h1 e he
    exact ⟨_, by rw [hk]; exact hkl j hj⟩
  rcases law.find w (hkl i hi) es.toList hkeys with ⟨hf, hne⟩ | ⟨j, e, hf, hj, hk⟩
  · refine ⟨setBlock w B (.map (es.push ⟨key i, val i, clock⟩) (clock + 1)), ?_, ⟨es.push ⟨key i, val i, clock⟩, clock + 1, ?_, fun e he => ?_, fun j hj hst => ?_⟩, ⟨rfl, rfl, rfl, by simp [setBlock], fun k hk => ?_⟩, by simp [setBlock]⟩
    · simp [Instr.mapUpdate, run_underlying hT, MapKept.run_getObj_map hb, law.check w false (hkl i hi), hf, MapKept.run_setObj_map _ hb, Result.andThen, setBlock]
    · simp [setBlock, hlt]
    · simp only [Array.toList_push, List.mem_append, List.mem_singleton] at he
      rcases he with he | rfl
      · obtain ⟨j, hj, hst, hk, hv⟩ := h1 e he
        exact ⟨j, hj, .inl hst, hk, hv⟩
      · exact ⟨i, hi, .inr rfl, rfl, rfl⟩
    · simp only [Array.toList_push, List.mem_append, List.mem_singleton]
      rcases hst with hst | rfl
      · obtain ⟨e, he, hk⟩ := h2 j hj hst
        exact ⟨e, .inl he, hk⟩
      · exact ⟨_, .inr rfl, rfl⟩
    · have : B ≠ k := by omega
      simp [setBlock, this]
  · exfalso
    have he : e ∈ es.toList := List.mem_of_getElem? hj
    obtain ⟨m, hm, hst, hk2, _⟩ := h1 e he
    have := hap m i hm hi (hk2.symm.trans hk)
    subst this
    exact hn hst

/-- **The look-up**: what stands at that key, or the zero value. -/
theorem lookup_run (law : Keyed P K) (hT : P.underlying T = some (.map K E)) {w : World} {B n : Nat} {key val : Nat → Value} {kl : Nat → Lit} (hkl : ∀ i, i < n → keyOf P K (key i) = some (kl i)) (hap : ∀ i j, i < n → j < n → key i = key j → i = j)
    (h : Entries w B n key val (fun _ => True)) {z x : Value} {lx : Lit} (hz : (zeroValue E).run P w = .ok z w) (hx : keyOf P K x = some lx) :
    (∀ i, i < n → x = key i → (Instr.lookup T (.map (some B)) x true).run P w = .ok (.tuple #[val i, .bool true]) w) ∧ ((∀ i, i < n → x ≠ key i) → (Instr.lookup T (.map (some B)) x true).run P w = .ok (.tuple #[z, .bool false]) w) := by
  obtain ⟨es, clock, hb, h1, h2⟩ := h
  have hkeys : ∀ e ∈ es.toList, ∃ l, keyOf P K e.key = some l := fun e he => by
    obtain ⟨j, hj, _, hk, _⟩ := h1 e he
    exact ⟨_, by rw [hk]; exact hkl j hj⟩
  refine ⟨fun i hi hxi => ?_, fun hno => ?_⟩
  · rcases law.find w hx es.toList hkeys with ⟨hf, hne⟩ | ⟨j, e, hf, hj, hk⟩
    · obtain ⟨e, he, hk⟩ := h2 i hi trivial
      exact absurd (hk.trans hxi.symm) (hne e he)
    · have he : e ∈ es.toList := List.mem_of_getElem? hj
      obtain ⟨m, hm, _, hk2, hv⟩ := h1 e he
      have := hap m i hm hi (hk2.symm.trans (hk.trans hxi))
      subst this
      simp [Instr.lookup, run_underlying hT, MapKept.run_getObj_map hb, law.check w es.isEmpty hx, hf, hv, Result.andThen]
  · rcases law.find w hx es.toList hkeys with ⟨hf, hne⟩ | ⟨j, e, hf, hj, hk⟩
    · simp [Instr.lookup, run_underlying hT, MapKept.run_getObj_map hb, law.check w es.isEmpty hx, hf, hz, Result.andThen]
    · have he : e ∈ es.toList := List.mem_of_getElem? hj
      obtain ⟨m, hm, _, hk2, hv⟩ := h1 e he
      exact absurd (hk.symm.trans hk2) (hno m hm)

theorem wpOp_value {i : Nat} {o : Oper} {v : Value} {a : Act} {w w' : World} {K : Act → World → Prop} (ho : ops[i]? = some o) (hg : o.guard = none) (hrun : (execOp a.eval o).run P w = .ok (.value v) w') (hK : K (a.put o.dst v) w') : wpOp P ops Q i K a w := by
  unfold wpOp
  simp only [ho]
  rw [if_pos (by simp [Region.wanted, hg])]
  refine .inl ?_
  unfold Oper.wp
  rw [hrun]
  exact hK
theorem wpOp_skip {i : Nat} {o : Oper} {a : Act} {w w' : World} {K : Act → World → Prop} (ho : ops[i]? = some o) (hg : o.guard = none) (hrun : (execOp a.eval o).run P w = .ok .skip w') (hK : K (a.put o.dst undef) w') : wpOp P ops Q i K a w := by
  unfold wpOp
  simp only [ho]
  rw [if_pos (by simp [Region.wanted, hg])]
  refine .inl ?_
  unfold Oper.wp
  rw [hrun]
  exact hK

/-- Every operation waits for earlier ones alone. -/
def backB (ops : Array Oper) : Bool := (List.range ops.size).all fun i => match ops[i]? with | some o => o.after.all fun e => decide (e.on < i) | none => true
theorem all_listed {listed : Array Bool} (hb : backB ops = true) (hr : Region.ready md ops listed = []) (hs : listed.size = ops.size) : ∀ i, i < ops.size → listed.getD i false = true := by
  intro i
  induction i using Nat.strongRecOn with
  | _ i ih =>
    intro hi
    cases hl : listed.getD i false with
    | true => rfl
    | false =>
      exfalso
      have hl2 : listed.getD i true = false := by
        have : i < listed.size := by omega
        simp [this] at hl ⊢
        exact hl
      have h1 := List.all_eq_true.1 hb i (List.mem_range.2 hi)
      have ho : ops[i]? = some ops[i] := Array.getElem?_eq_getElem hi
      rw [ho] at h1
      have h2 : i ∈ Region.ready md ops listed := mem_ready.2 ⟨hl2, ops[i], ho, fun e he _ => by
        have h3 := Array.all_eq_true_iff_forall_mem.1 h1 e he
        have h4 : e.on < i := by simpa using h3
        exact ih e.on h4 (by omega)⟩
      rw [hr] at h2
      cases h2

/-- What a slot holds. -/
def Slot (a : Act) (t : Tmp) (v : Value) : Prop := a.tmps[t]? = some v
theorem Slot.eval {a : Act} {t : Tmp} {v : Value} (h : Slot a t v) : a.eval (.tmp t) = v := by
  unfold Slot at h
  show a.tmps.getD t undef = v
  rw [Array.getD_eq_getD_getElem?, h]
  rfl
theorem Slot.put {a : Act} {t : Tmp} {v : Value} (h : t < a.tmps.size) : Slot (a.put (some t) v) t v := by
  unfold Slot Act.put
  simp [h]
theorem Slot.other {a : Act} {t d : Tmp} {v u : Value} (h : Slot a t v) (hne : d ≠ t) : Slot (a.put (some d) u) t v := by
  unfold Slot Act.put at *
  simp only
  rw [Array.getElem?_setIfInBounds_ne hne]
  exact h

/-- Number i waits for number j. -/
def waitB (ops : Array Oper) (i j : Nat) : Bool := match ops[i]? with | none => false | some o => o.after.any fun e => Region.binds .any e && e.on == j
theorem waitB_spec {i j : Nat} {o : Oper} (h : waitB ops i j = true) (ho : ops[i]? = some o) : ∃ e ∈ o.after, Region.binds .any e = true ∧ e.on = j := by
  unfold waitB at h
  rw [ho] at h
  obtain ⟨k, hk, h2⟩ := Array.any_eq_true.1 h
  simp only [Bool.and_eq_true, beq_iff_eq] at h2
  exact ⟨o.after[k], Array.getElem_mem hk, h2⟩
def litWaits (ops : Array Oper) (n : Nat) : Bool := ((List.range n).all fun i => waitB ops (3 * i + 3) 0 && waitB ops (3 * i + 3) (3 * i + 1) && waitB ops (3 * i + 3) (3 * i + 2)) && waitB ops (3 * n + 1) 0 && waitB ops (3 * n + 2) (3 * n + 1)

/-- The operations of a map's literal: the map; each entry's key, its value, its store; the map's copy; its assignment. -/
structure Lits (P : Program) (ops : Array Oper) (T : TypeId) (n : Nat) (m z1 z2 : Tmp) (sk sv : Nat → Tmp) (key val : Nat → Value) : Prop where
  size : ops.size = 3 * n + 3
  back : backB ops = true
  waits : litWaits ops n = true
  o0 : ∃ o, ops[0]? = some o ∧ o.guard = none ∧ o.dst = some m ∧ o.op = .makeMap T none
  ok : ∀ i, i < n → ∃ o, ops[3 * i + 1]? = some o ∧ o.guard = none ∧ o.dst = some (sk i) ∧ ∀ (a : Act) w, (execOp a.eval o).run P w = .ok (.value (key i)) w
  ov : ∀ i, i < n → ∃ o, ops[3 * i + 2]? = some o ∧ o.guard = none ∧ o.dst = some (sv i) ∧ ∀ (a : Act) w, (execOp a.eval o).run P w = .ok (.value (val i)) w
  oi : ∀ i, i < n → ∃ o, ops[3 * i + 3]? = some o ∧ o.guard = none ∧ o.dst = none ∧ o.op = .insert T (.tmp m) (.tmp (sk i)) (.tmp (sv i))
  om : ∃ o, ops[3 * n + 1]? = some o ∧ o.guard = none ∧ o.dst = some z1 ∧ o.op = .move (.tmp m)
  oa : ∃ o, ops[3 * n + 2]? = some o ∧ o.guard = none ∧ o.dst = some z2 ∧ o.op = .assign (.tmp z1)
  d1 : ∀ i, i < n → sk i ≠ m ∧ sv i ≠ m ∧ sk i ≠ z1 ∧ sv i ≠ z1 ∧ sk i ≠ z2 ∧ sv i ≠ z2
  d2 : m ≠ z1 ∧ m ≠ z2 ∧ z1 ≠ z2
  d3 : ∀ i j, i < n → j < n → (i ≠ j → sk i ≠ sk j ∧ sv i ≠ sv j) ∧ sk i ≠ sv j

/-- How far a map's literal has come. -/
structure LitInv (P : Program) (W : World) (S n : Nat) (m z1 z2 : Tmp) (sk sv : Nat → Tmp) (key val : Nat → Value) (listed : Array Bool) (a : Act) (w : World) : Prop where
  sz : a.tmps.size = S
  df : a.defers = []
  s0 : listed.getD 0 false = true → Slot a m (.map (some W.heap.size))
  sk : ∀ i, i < n → listed.getD (3 * i + 1) false = true → Slot a (sk i) (key i)
  sv : ∀ i, i < n → listed.getD (3 * i + 2) false = true → Slot a (sv i) (val i)
  s1 : listed.getD (3 * n + 1) false = true → Slot a z1 (.map (some W.heap.size))
  s2 : listed.getD (3 * n + 2) false = true → Slot a z2 (.map (some W.heap.size))
  bel : Below W.heap.size W w
  w0 : listed.getD 0 false = false → w.heap.size = W.heap.size
  w1 : listed.getD 0 false = true → Entries w W.heap.size n key val (fun i => listed.getD (3 * i + 3) false = true)
  wi : ∀ i, i < n → listed.getD (3 * i + 3) false = true → listed.getD 0 false = true

theorem Entries.congr {w : World} {B n : Nat} {key val : Nat → Value} {st st' : Nat → Prop} (h : Entries w B n key val st) (hs : ∀ i, i < n → (st i ↔ st' i)) : Entries w B n key val st' := by
  obtain ⟨es, clock, hb, h1, h2⟩ := h
  exact ⟨es, clock, hb, fun e he => by obtain ⟨i, hi, hst, h⟩ := h1 e he; exact ⟨i, hi, (hs i hi).1 hst, h⟩, fun i hi hst => h2 i hi ((hs i hi).2 hst)⟩

set_option maxHeartbeats 1000000 in
/-- **The region of a map's literal.** -/
theorem wp_mapLit {id : Nat} {a : Act} {w : World} {S n : Nat} {m z1 z2 : Tmp} {sk sv : Nat → Tmp} {key val : Nat → Value} {kl : Nat → Lit} (hm : P.follows .mixedOrders = true) (law : Keyed P K) (hT : P.underlying T = some (.map K E))
    (hkl : ∀ i, i < n → keyOf P K (key i) = some (kl i)) (hap : ∀ i j, i < n → j < n → key i = key j → i = j) (L : Lits P ops T n m z1 z2 sk sv key val) (hsz : a.tmps.size = S) (hdf : a.defers = [])
    (hS : m < S ∧ z1 < S ∧ z2 < S ∧ ∀ i, i < n → sk i < S ∧ sv i < S)
    (h : ∀ a' w', a'.tmps.size = S → a'.defers = [] → Slot a' z2 (.map (some w.heap.size)) → Below w.heap.size w w' → Entries w' w.heap.size n key val (fun _ => True) → Q .normal a' w') : (Code.region id ops true).wp P Q a w := by
  have hwts := L.waits
  simp only [litWaits, Bool.and_eq_true] at hwts
  obtain ⟨⟨hw1, hw2⟩, hw3⟩ := hwts
  refine wp_region_inv hm (LitInv P w S n m z1 z2 sk sv key val) ?_ ?_ ?_
  · intro listed i a w' hls hr I
    obtain ⟨hun, o', ho', hall⟩ := mem_ready.1 hr
    have hi : i < ops.size := (Array.getElem?_eq_some_iff.1 ho').1
    have hunf : listed.getD i false = false := getD_both hun
    have hls2 : i < listed.size := by omega
    have lset : ∀ j, (listed.setIfInBounds i true).getD j false = true → j = i ∨ listed.getD j false = true := fun j hj => by
      rcases set_true.1 hj with h | h
      · exact .inr h
      · exact .inl h.1.symm
    have lkeep : ∀ j, listed.getD j false = true → (listed.setIfInBounds i true).getD j false = true := fun j hj => set_true.2 (.inl hj)
    rw [L.size] at hi
    have hcase : i = 0 ∨ (∃ j, j < n ∧ i = 3 * j + 1) ∨ (∃ j, j < n ∧ i = 3 * j + 2) ∨ (∃ j, j < n ∧ i = 3 * j + 3) ∨ i = 3 * n + 1 ∨ i = 3 * n + 2 := by
      by_cases h0 : i = 0
      · exact .inl h0
      · by_cases h1 : i = 3 * n + 1
        · exact .inr (.inr (.inr (.inr (.inl h1))))
        · by_cases h2 : i = 3 * n + 2
          · exact .inr (.inr (.inr (.inr (.inr h2))))
          · have h3 : i % 3 = 0 ∨ i % 3 = 1 ∨ i % 3 = 2 := by omega
            rcases h3 with h3 | h3 | h3
            · exact .inr (.inr (.inr (.inl ⟨i / 3 - 1, by omega, by omega⟩)))
            · exact .inr (.inl ⟨i / 3, by omega, by omega⟩)
            · exact .inr (.inr (.inl ⟨i / 3, by omega, by omega⟩))
    -- a slot that is written, in a world that stays
    have stay : ∀ {d : Tmp} {v : Value}, i ≠ 0 → (∀ j, j < n → i ≠ 3 * j + 3) → d < S →
        (i ≠ 0 → d ≠ m) → (∀ j, j < n → i ≠ 3 * j + 1 → d ≠ sk j) → (∀ j, j < n → i ≠ 3 * j + 2 → d ≠ sv j) → (i ≠ 3 * n + 1 → d ≠ z1) → (i ≠ 3 * n + 2 → d ≠ z2) →
        (∀ j, j < n → i = 3 * j + 1 → d = sk j ∧ v = key j) → (∀ j, j < n → i = 3 * j + 2 → d = sv j ∧ v = val j) → (i = 3 * n + 1 → d = z1 ∧ v = .map (some w.heap.size)) → (i = 3 * n + 2 → d = z2 ∧ v = .map (some w.heap.size)) →
        LitInv P w S n m z1 z2 sk sv key val (listed.setIfInBounds i true) (a.put (some d) v) w' := by
      intro d v hi0 hi3 hd n0 nk nv n1 n2 yk yv y1 y2
      have hda : d < a.tmps.size := by rw [I.sz]; exact hd
      refine ⟨by simp [Act.put, I.sz], by simp [Act.put, I.df], fun hl => ?_, fun j hj hl => ?_, fun j hj hl => ?_, fun hl => ?_, fun hl => ?_, I.bel, fun hl => ?_, fun hl => ?_, fun j hj hl => ?_⟩
      · rcases lset _ hl with h | h
        · exact absurd h.symm hi0
        · exact (I.s0 h).other (n0 hi0)
      · rcases lset _ hl with h | h
        · obtain ⟨rfl, rfl⟩ := yk j hj h.symm; exact Slot.put hda
        · by_cases e : i = 3 * j + 1
          · obtain ⟨rfl, rfl⟩ := yk j hj e; exact Slot.put hda
          · exact (I.sk j hj h).other (nk j hj e)
      · rcases lset _ hl with h | h
        · obtain ⟨rfl, rfl⟩ := yv j hj h.symm; exact Slot.put hda
        · by_cases e : i = 3 * j + 2
          · obtain ⟨rfl, rfl⟩ := yv j hj e; exact Slot.put hda
          · exact (I.sv j hj h).other (nv j hj e)
      · rcases lset _ hl with h | h
        · obtain ⟨rfl, rfl⟩ := y1 h.symm; exact Slot.put hda
        · by_cases e : i = 3 * n + 1
          · obtain ⟨rfl, rfl⟩ := y1 e; exact Slot.put hda
          · exact (I.s1 h).other (n1 e)
      · rcases lset _ hl with h | h
        · obtain ⟨rfl, rfl⟩ := y2 h.symm; exact Slot.put hda
        · by_cases e : i = 3 * n + 2
          · obtain ⟨rfl, rfl⟩ := y2 e; exact Slot.put hda
          · exact (I.s2 h).other (n2 e)
      · rw [getD_set_ne false hi0] at hl; exact I.w0 hl
      · rw [getD_set_ne false hi0] at hl
        exact (I.w1 hl).congr fun j hj => by rw [getD_set_ne false (hi3 j hj)]
      · rw [getD_set_ne false (hi3 j hj)] at hl
        exact lkeep _ (I.wi j hj hl)
    rcases hcase with rfl | ⟨j, hj, rfl⟩ | ⟨j, hj, rfl⟩ | ⟨j, hj, rfl⟩ | rfl | rfl
    · obtain ⟨o, ho, hg, hd, hop⟩ := L.o0
      refine wpOp_value (v := .map (some w'.heap.size)) (w' := w'.alloc (.map #[] 0)) ho hg (by simp [execOp, hop, Instr.makeMap, Result.andThen]) ?_
      rw [hd]
      have hw := I.w0 hunf
      have hda : m < a.tmps.size := by rw [I.sz]; exact hS.1
      rw [hw]
      refine ⟨by simp [Act.put, I.sz], by simp [Act.put, I.df], fun hl => Slot.put hda, fun j hj hl => ?_, fun j hj hl => ?_, fun hl => ?_, fun hl => ?_, I.bel.alloc (by omega) _, fun hl => ?_, fun hl => ?_, fun j hj hl => set_true.2 (.inr ⟨rfl, hls2⟩)⟩
      · rw [getD_set_ne false (by omega)] at hl; exact (I.sk j hj hl).other (Ne.symm (L.d1 j hj).1)
      · rw [getD_set_ne false (by omega)] at hl; exact (I.sv j hj hl).other (Ne.symm (L.d1 j hj).2.1)
      · rw [getD_set_ne false (by omega)] at hl; exact (I.s1 hl).other L.d2.1
      · rw [getD_set_ne false (by omega)] at hl; exact (I.s2 hl).other L.d2.2.1
      · have h5 : (listed.setIfInBounds 0 true).getD 0 false = true := set_true.2 (.inr ⟨rfl, hls2⟩)
        rw [h5] at hl; cases hl
      · refine ⟨#[], 0, ?_, fun e he => by simp at he, fun j hj hst => ?_⟩
        · rw [← hw]; exact (MapKept.heap_alloc w' _).1
        · change (listed.setIfInBounds 0 true).getD (3 * j + 3) false = true at hst
          rw [getD_set_ne false (by omega)] at hst
          have := I.wi j hj hst
          rw [hunf] at this; cases this
    · obtain ⟨o, ho, hg, hd, hrun⟩ := L.ok j hj
      refine wpOp_value ho hg (hrun a w') ?_
      rw [hd]
      have hd1 := L.d1 j hj
      exact stay (by omega) (fun k hk => by omega) (hS.2.2.2 j hj).1 (fun _ => hd1.1) (fun k hk e => (L.d3 j k hj hk).1 (by omega) |>.1) (fun k hk e => (L.d3 j k hj hk).2) (fun _ => hd1.2.2.1) (fun _ => hd1.2.2.2.2.1) (fun k hk e => by (have e2 : j = k := by omega); subst e2; exact ⟨rfl, rfl⟩) (fun k hk e => by omega) (fun e => by omega) (fun e => by omega)
    · obtain ⟨o, ho, hg, hd, hrun⟩ := L.ov j hj
      refine wpOp_value ho hg (hrun a w') ?_
      rw [hd]
      have hd1 := L.d1 j hj
      exact stay (by omega) (fun k hk => by omega) (hS.2.2.2 j hj).2 (fun _ => hd1.2.1) (fun k hk e => Ne.symm (L.d3 k j hk hj).2) (fun k hk e => (L.d3 j k hj hk).1 (by omega) |>.2) (fun _ => hd1.2.2.2.1) (fun _ => hd1.2.2.2.2.2) (fun k hk e => by omega) (fun k hk e => by (have e2 : j = k := by omega); subst e2; exact ⟨rfl, rfl⟩) (fun e => by omega) (fun e => by omega)
    · obtain ⟨o, ho, hg, hd, hop⟩ := L.oi j hj
      have hwj := List.all_eq_true.1 hw1 j (List.mem_range.2 hj)
      simp only [Bool.and_eq_true] at hwj
      obtain ⟨e0, he0, hb0, hn0⟩ := waitB_spec hwj.1.1 ho
      obtain ⟨e1, he1, hb1, hn1⟩ := waitB_spec hwj.1.2 ho
      obtain ⟨e2, he2, hb2, hn2⟩ := waitB_spec hwj.2 ho
      obtain rfl := Option.some.inj (ho.symm.trans ho')
      have l0 := hall e0 he0 hb0
      have l1 := hall e1 he1 hb1
      have l2 := hall e2 he2 hb2
      rw [hn0] at l0
      rw [hn1] at l1
      rw [hn2] at l2
      obtain ⟨w2, hrun, hE, hB, hwz⟩ := insert_run law hT hkl hap (I.w1 l0) hj (by simp [hunf])
      refine wpOp_skip (w' := w2) ho hg (by simp [execOp, hop, (I.s0 l0).eval, (I.sk j hj l1).eval, (I.sv j hj l2).eval, hrun, Result.andThen]) ?_
      rw [hd]
      refine ⟨I.sz, I.df, fun hl => I.s0 l0, fun k hk hl => ?_, fun k hk hl => ?_, fun hl => ?_, fun hl => ?_, I.bel.trans hB, fun hl => ?_, fun hl => ?_, fun k hk hl => lkeep _ l0⟩
      · rw [getD_set_ne false (by omega)] at hl; exact I.sk k hk hl
      · rw [getD_set_ne false (by omega)] at hl; exact I.sv k hk hl
      · rw [getD_set_ne false (by omega)] at hl; exact I.s1 hl
      · rw [getD_set_ne false (by omega)] at hl; exact I.s2 hl
      · rw [getD_set_ne false (by omega)] at hl; rw [l0] at hl; cases hl
      · exact hE.congr fun k hk => ⟨fun h => by
          rcases h with h | rfl
          · exact lkeep _ h
          · exact set_true.2 (.inr ⟨rfl, hls2⟩), fun h => by
          rcases lset _ h with h | h
          · exact .inr (by omega)
          · exact .inl h⟩
    · obtain ⟨o, ho, hg, hd, hop⟩ := L.om
      obtain ⟨e0, he0, hb0, hn0⟩ := waitB_spec hw2 ho
      obtain rfl := Option.some.inj (ho.symm.trans ho')
      have l0 := hall e0 he0 hb0
      rw [hn0] at l0
      refine wpOp_value (v := .map (some w.heap.size)) (w' := w') ho hg (by simp [execOp, hop, (I.s0 l0).eval]) ?_
      rw [hd]
      exact stay (by omega) (fun k hk => by omega) hS.2.1 (fun _ => Ne.symm L.d2.1) (fun k hk e => Ne.symm (L.d1 k hk).2.2.1) (fun k hk e => Ne.symm (L.d1 k hk).2.2.2.1) (fun h => absurd rfl h) (fun _ => L.d2.2.2) (fun k hk e => by omega) (fun k hk e => by omega) (fun e => ⟨rfl, rfl⟩) (fun e => by omega)
    · obtain ⟨o, ho, hg, hd, hop⟩ := L.oa
      obtain ⟨e0, he0, hb0, hn0⟩ := waitB_spec hw3 ho
      obtain rfl := Option.some.inj (ho.symm.trans ho')
      have l0 := hall e0 he0 hb0
      rw [hn0] at l0
      refine wpOp_value (v := .map (some w.heap.size)) (w' := w') ho hg (by simp [execOp, hop, (I.s1 l0).eval]) ?_
      rw [hd]
      exact stay (by omega) (fun k hk => by omega) hS.2.2.1 (fun _ => Ne.symm L.d2.2.1) (fun k hk e => Ne.symm (L.d1 k hk).2.2.2.2.1) (fun k hk e => Ne.symm (L.d1 k hk).2.2.2.2.2) (fun _ => Ne.symm L.d2.2.2) (fun h => absurd rfl h) (fun k hk e => by omega) (fun k hk e => by omega) (fun e => by omega) (fun e => ⟨rfl, rfl⟩)
  · intro listed a w' hls hr I
    have H := all_listed L.back hr hls
    rw [L.size] at H
    exact h a w' I.sz I.df (I.s2 (H _ (by omega))) I.bel ((I.w1 (H _ (by omega))).congr fun j hj => ⟨fun _ => trivial, fun _ => H _ (by omega)⟩)
  · have hf : ∀ j, (Array.replicate ops.size false).getD j false = false := fun j => by
      by_cases hj : j < ops.size <;> simp [hj]
    exact ⟨hsz, hdf, fun hl => (by rw [hf] at hl; cases hl), fun j hj hl => (by rw [hf] at hl; cases hl), fun j hj hl => (by rw [hf] at hl; cases hl), fun hl => (by rw [hf] at hl; cases hl), fun hl => (by rw [hf] at hl; cases hl), (Below.refl _ _).drew, fun _ => rfl, fun hl => (by rw [hf] at hl; cases hl), fun j hj hl => (by rw [hf] at hl; cases hl)⟩
end
end Go.Proofs.YtgflfdnajchjaaaGreatDoor
/- A region that draws its order, by facts: each of its first n operations, in whatever order they come up, yields a value of which a fact holds that stays true; behind them a tail whose operations come one after the other. Nothing of the program is named here. -/
namespace Go.Proofs.YtgflfdnajchjaaaGreatDoor
set_option linter.unusedVariables false
set_option linter.unusedSimpArgs false
open Go.RowKit

section
variable {P : Program} {ops : Array Oper} {Q : Exit → Act → World → Prop}

def dstAt (ops : Array Oper) (i : Nat) : Option Tmp := (ops[i]?).bind (·.dst)
/-- The slots of the first n operations are apart, and there. -/
def dstsB (ops : Array Oper) (n S : Nat) : Bool := (List.range n).all fun i => match dstAt ops i with
  | none => true
  | some d => decide (d < S) && (List.range i).all fun j => dstAt ops j != some d
theorem dstsB_lt {n S i : Nat} {d : Tmp} (h : dstsB ops n S = true) (hi : i < n) (hd : dstAt ops i = some d) : d < S := by
  have h1 := List.all_eq_true.1 h i (List.mem_range.2 hi)
  rw [hd] at h1
  simp only [Bool.and_eq_true, decide_eq_true_eq] at h1
  exact h1.1
theorem dstsB_ne {n S i j : Nat} {d : Tmp} (h : dstsB ops n S = true) (hi : i < n) (hj : j < n) (hij : i ≠ j) (hd : dstAt ops i = some d) : dstAt ops j ≠ some d := by
  intro hd2
  have key : ∀ i j : Nat, i < n → j < i → dstAt ops i = some d → dstAt ops j = some d → False := fun i j hi hj h1 h2 => by
    have h3 := List.all_eq_true.1 h i (List.mem_range.2 hi)
    rw [h1] at h3
    simp only [Bool.and_eq_true] at h3
    have h4 := List.all_eq_true.1 h3.2 j (List.mem_range.2 hj)
    rw [h2] at h4
    simp at h4
  rcases Nat.lt_or_ge j i with h1 | h1
  · exact key i j hi h1 hd hd2
  · exact key j i hj (by omega) hd2 hd

/-- The first n operations have come up. -/
def headAll (n m : Nat) : Array Bool := ((List.range m).map fun i => decide (i < n)).toArray
theorem headAll_eq {n : Nat} {listed : Array Bool} (hs : listed.size = ops.size) (hh : ∀ i, i < n → listed.getD i false = true) (ht : ∀ t, n ≤ t → t < ops.size → listed.getD t true = false) : listed = headAll n ops.size := by
  apply Array.ext
  · simp [headAll, hs]
  · intro i h1 h2
    have : (headAll n ops.size)[i] = decide (i < n) := by simp [headAll]
    rw [this]
    by_cases hi : i < n
    · have := hh i hi
      simp [h1] at this
      simp [hi, this]
    · have := ht i (by omega) (by omega)
      simp [h1] at this
      simp [hi, this]

/-- Slots filled one after the other. -/
def fillA (a : Act) : List Oper → Nat → (Nat → Value) → Act
  | [], _, _ => a
  | o :: l, k, vs => fillA (a.put o.dst (vs k)) l (k + 1) vs
theorem fillA_size : ∀ (l : List Oper) (a : Act) (k : Nat) (vs : Nat → Value), (fillA a l k vs).tmps.size = a.tmps.size ∧ (fillA a l k vs).defers = a.defers
  | [], a, k, vs => ⟨rfl, rfl⟩
  | o :: l, a, k, vs => by
    obtain ⟨h1, h2⟩ := fillA_size l (a.put o.dst (vs k)) (k + 1) vs
    refine ⟨h1.trans ?_, h2.trans ?_⟩
    · cases o.dst <;> simp [Act.put]
    · cases o.dst <;> simp [Act.put]
theorem fillA_other : ∀ (l : List Oper) (a : Act) (k : Nat) (vs : Nat → Value) (t : Tmp), (∀ o ∈ l, o.dst ≠ some t) → (fillA a l k vs).tmps[t]? = a.tmps[t]?
  | [], a, k, vs, t, h => rfl
  | o :: l, a, k, vs, t, h => by
    rw [fillA, fillA_other l _ _ _ _ (fun x hx => h x (List.mem_cons_of_mem _ hx))]
    have h0 := h o (List.mem_cons_self ..)
    cases hd : o.dst with
    | none => rfl
    | some d =>
      have : d ≠ t := fun e => h0 (by rw [hd, e])
      simp [Act.put, Array.getElem?_setIfInBounds_ne this]
theorem fillA_at : ∀ (l : List Oper) (a : Act) (k : Nat) (vs : Nat → Value) (j : Nat) (t : Tmp), (l[j]?).bind (·.dst) = some t → t < a.tmps.size → (∀ i, i ≠ j → (l[i]?).bind (·.dst) ≠ some t) → (fillA a l k vs).tmps[t]? = some (vs (k + j))
  | [], a, k, vs, j, t, h, ht, hne => by simp at h
  | o :: l, a, k, vs, 0, t, h, ht, hne => by
    have h0 : o.dst = some t := by simpa using h
    rw [fillA, fillA_other l _ _ _ _ (fun x hx he => by
      obtain ⟨i, hi⟩ := List.mem_iff_getElem?.1 hx
      exact hne (i + 1) (by omega) (by simp [hi, he]))]
    rw [h0]
    simp [Act.put, ht]
  | o :: l, a, k, vs, j + 1, t, h, ht, hne => by
    have h1 := fillA_at l (a.put o.dst (vs k)) (k + 1) vs j t (by simpa using h) (by cases o.dst <;> simpa [Act.put] using ht) (fun i hi he => hne (i + 1) (by omega) (by simpa using he))
    rw [fillA, h1]
    congr 2
    omega

/-- Number i waits for number j. -/
def WaitsOn (ops : Array Oper) (i j : Nat) : Prop := ∃ o, ops[i]? = some o ∧ ∃ e ∈ o.after, Region.binds .any e = true ∧ e.on = j

/-- How far a region's head has come. -/
structure HeadSt (ops : Array Oper) (n : Nat) (Φ : (Nat → Bool) → (Nat → Value) → World → Prop) (a0 : Act) (listed : Array Bool) (a : Act) (w : World) (vs : Nat → Value) : Prop where
  inv : HeadInv .any ops n listed
  sz : a.tmps.size = a0.tmps.size
  df : a.defers = a0.defers
  slot : ∀ i d, i < n → listed.getD i false = true → dstAt ops i = some d → Slot a d (vs i)
  other : ∀ t, (∀ i, i < n → listed.getD i false = true → dstAt ops i ≠ some t) → a.tmps[t]? = a0.tmps[t]?
  phi : Φ (fun i => listed.getD i false) vs w

theorem act_ext {a b : Act} (h1 : a.tmps.size = b.tmps.size) (h2 : a.defers = b.defers) (h3 : ∀ t : Nat, a.tmps[t]? = b.tmps[t]?) : a = b := by
  cases a; cases b
  simp only at h1 h2 h3
  subst h2
  congr 1
  exact Array.ext_getElem? h3

/-- One step of the head, as the walk shows it. -/
def HeadStep (P : Program) (ops : Array Oper) (Q : Exit → Act → World → Prop) (n : Nat) (Φ : (Nat → Bool) → (Nat → Value) → World → Prop) (a0 : Act) : Prop :=
  ∀ i, i < n → ∀ (L : Nat → Bool) (vs : Nat → Value) (a : Act) (w : World), L i = false → (∀ j, WaitsOn ops i j → L j = true) →
    (∀ j d, j < n → L j = true → dstAt ops j = some d → Slot a d (vs j)) → (∀ t, (∀ j, j < n → dstAt ops j ≠ some t) → a.tmps[t]? = a0.tmps[t]?) → Φ L vs w →
    wpOp P ops Q i (fun a' w' => ∃ v, a' = a.put (dstAt ops i) v ∧ Φ (fun j => L j || j == i) (fun j => if j = i then v else vs j) w') a w

theorem unlisted_headAll {n : Nat} (hn : n ≤ ops.size) : unlisted (headAll n ops.size) = ops.size - n := by
  have key : ∀ m n : Nat, n ≤ m → (((List.range m).map fun i => decide (i < n)).filter (fun b => !b)).length = m - n := by
    intro m
    induction m with
    | zero => intro n h; simp
    | succ m ih =>
      intro n h
      rw [List.range_succ, List.map_append, List.filter_append, List.length_append]
      by_cases h1 : n ≤ m
      · rw [ih n h1]
        simp [show ¬ m < n by omega]
        omega
      · have h2 : n = m + 1 := by omega
        subst h2
        have := ih m (Nat.le_refl _)
        have e : (((List.range m).map fun i => decide (i < m + 1)).filter (fun b => !b)).length = 0 := by
          rw [List.length_eq_zero_iff, List.filter_eq_nil_iff]
          intro b hb
          obtain ⟨i, hi, rfl⟩ := List.mem_map.1 hb
          have := List.mem_range.1 hi
          simp
          omega
        rw [e]
        simp
  unfold unlisted headAll
  rw [List.toList_toArray]
  exact key _ _ hn

set_option maxHeartbeats 1000000 in
theorem wpAny_head {n : Nat} {Φ : (Nat → Bool) → (Nat → Value) → World → Prop} {a0 : Act} {l : List Oper} (hΦ : ∀ L L' vs vs' w, (∀ i, i < n → L i = L' i) → (∀ i, i < n → L i = true → vs i = vs' i) → Φ L vs w → Φ L' vs' w) (hops : ops = l.toArray) (hn : n < ops.size) (hb : backB ops = true) (hs : Region.sinkB .any ops n = true) (hc : Region.chainB .any ops n = true) (hd : dstsB ops n a0.tmps.size = true)
    (hq : Region.seqB .any ops (ops.size - n) n (headAll n ops.size) = true) (hstep : HeadStep P ops Q n Φ a0)
    (hend : ∀ vs w, Φ (fun _ => true) vs w → wpList P ops Q (l.drop n) (fillA a0 (l.take n) 0 vs) w) :
    ∀ (f : Nat) (listed : Array Bool) (a : Act) (w : World) (vs : Nat → Value), unlisted listed = f → HeadSt ops n Φ a0 listed a w vs → wpAny P .any ops Q f listed a w := by
  have hends : ∀ (listed : Array Bool) (a : Act) (w : World) (vs : Nat → Value), HeadSt ops n Φ a0 listed a w vs → (∀ i, i < n → listed.getD i false = true) → wpAny P .any ops Q (unlisted listed) listed a w := by
    intro listed a w vs H hall
    have hl : listed = headAll n ops.size := headAll_eq H.inv.size hall H.inv.tail
    have ha : a = fillA a0 (l.take n) 0 vs := by
      obtain ⟨g1, g2⟩ := fillA_size (l.take n) a0 0 vs
      refine act_ext (H.sz.trans g1.symm) (H.df.trans g2.symm) fun t => ?_
      have hat : ∀ i, i < n → ((l.take n)[i]?).bind (·.dst) = dstAt ops i := fun i hi => by
        unfold dstAt
        rw [List.getElem?_take, if_pos hi, hops]
        simp
      by_cases hx : ∃ i, i < n ∧ dstAt ops i = some t
      · obtain ⟨i, hi, hit⟩ := hx
        rw [H.slot i t hi (hall i hi) hit]
        rw [fillA_at (l.take n) a0 0 vs i t (by rw [hat i hi]; exact hit) (dstsB_lt hd hi hit) (fun j hj he => by
          by_cases hjn : j < n
          · rw [hat j hjn] at he
            exact dstsB_ne hd hi hjn (fun e => hj e.symm) hit he
          · rw [List.getElem?_take, if_neg hjn] at he
            simp at he)]
        rw [Nat.zero_add]
      · have hno : ∀ i, i < n → dstAt ops i ≠ some t := fun i hi he => hx ⟨i, hi, he⟩
        rw [H.other t (fun i hi _ => hno i hi)]
        rw [fillA_other]
        intro o ho he
        obtain ⟨i, hi⟩ := List.mem_iff_getElem?.1 ho
        have hin : i < n := by
          rw [List.getElem?_take] at hi
          by_cases h : i < n
          · exact h
          · rw [if_neg h] at hi; cases hi
        have := hat i hin
        rw [hi] at this
        exact hno i hin (this.symm.trans (by simpa using he))
    rw [ha]
    have hlen : (l.drop n).length = ops.size - n := by rw [hops]; simp
    have h3 := wpAny_of_seq (md := .any) (Q' := Q) (l.drop n) n (headAll n ops.size) (fillA a0 (l.take n) 0 vs) w (fun j => by rw [hops]; simp) (by rw [hlen]; exact hq) (hend vs w (hΦ _ _ _ _ _ (fun i hi => hall i hi) (fun _ _ _ => rfl) H.phi))
    rw [hl, unlisted_headAll (Nat.le_of_lt hn), ← hlen]
    exact h3
  intro f
  induction f with
  | zero =>
    intro listed a w vs hu H
    have := hends listed a w vs H (fun i hi => by
      cases hl : listed.getD i false with
      | true => rfl
      | false =>
        have := unlisted_set (i := i) (getD_in (by rw [H.inv.size]; omega) hl)
        omega)
    rw [hu] at this
    exact this
  | succ f ih =>
    intro listed a w vs hu H
    by_cases hall : ∀ i, i < n → listed.getD i false = true
    · have := hends listed a w vs H hall
      rw [hu] at this
      exact this
    · obtain ⟨i0, hi0, hun0⟩ : ∃ i, i < n ∧ listed.getD i false = false := by
        false_or_by_contra
        rename_i hc'
        refine hall fun i hi => ?_
        cases hl : listed.getD i false with
        | true => rfl
        | false => exact absurd ⟨i, hi, hl⟩ hc'
      have hun0' := getD_in (by rw [H.inv.size]; omega) hun0
      refine ⟨fun hr => ?_, fun i hi => ?_⟩
      · have := all_listed hb hr H.inv.size i0 (by omega)
        rw [hun0] at this
        cases this
      · have hin : i < n := Nat.lt_of_not_le fun hle => tail_waits hs hc hn H.inv _ i0 rfl hi0 hun0' i hle hi
        obtain ⟨hun, o, ho, hao⟩ := mem_ready.1 hi
        have hunf := getD_both hun
        have hilt : i < listed.size := by rw [H.inv.size]; omega
        have lset : ∀ j, (listed.setIfInBounds i true).getD j false = (listed.getD j false || j == i) := fun j => by
          by_cases e : i = j
          · subst e; simp [hilt]
          · rw [getD_set_ne false e]
            have : (j == i) = false := by simp; omega
            rw [this, Bool.or_false]
        have h0 := hstep i hin (fun j => listed.getD j false) vs a w hunf (fun j hj => by
          obtain ⟨o', ho', e, he, hbd, hon⟩ := hj
          have : o' = o := Option.some.inj (ho'.symm.trans ho)
          subst this
          rw [← hon]
          exact hao e he hbd) (fun j d hj hlj hdj => H.slot j d hj hlj hdj) (fun t ht => H.other t fun j hj _ => ht j hj) H.phi
        refine wpOp_mono (fun a' w' h1 => ?_) h0
        obtain ⟨v, rfl, hphi⟩ := h1
        refine ih _ _ _ (fun j => if j = i then v else vs j) ?_ ⟨H.inv.set hi hin, ?_, ?_, fun j d hj hl hdj => ?_, fun t ht => ?_, ?_⟩
        · have := unlisted_set (i := i) hun
          omega
        · cases dstAt ops i <;> simp [Act.put, H.sz]
        · cases dstAt ops i <;> simp [Act.put, H.df]
        · by_cases e : j = i
          · subst e
            rw [hdj]
            simp only [if_pos]
            exact Slot.put (by rw [H.sz]; exact dstsB_lt hd hj hdj)
          · simp only [if_neg e]
            rw [lset] at hl
            have : (j == i) = false := by simp [e]
            rw [this, Bool.or_false] at hl
            have hs0 := H.slot j d hj hl hdj
            cases hdi : dstAt ops i with
            | none => exact hs0
            | some d' => exact hs0.other (fun e2 => dstsB_ne hd hj hin e hdj (e2 ▸ hdi))
        · have h2 := H.other t fun j hj hl => ht j hj (by rw [lset, hl]; rfl)
          rw [← h2]
          have h3 := ht i hin (by rw [lset]; simp)
          cases hdi : dstAt ops i with
          | none => rfl
          | some d' =>
            have : d' ≠ t := fun e => h3 (by rw [hdi, e])
            simp [Act.put, Array.getElem?_setIfInBounds_ne this]
        · refine hΦ _ _ _ _ _ (fun j _ => (lset j).symm) (fun _ _ _ => rfl) hphi

/-- What the region's form has to be: the tail waits for the head, and comes in order. -/
def headB (ops : Array Oper) (n S : Nat) : Bool :=
  decide (n < ops.size) && backB ops && Region.sinkB .any ops n && Region.chainB .any ops n && dstsB ops n S && Region.seqB .any ops (ops.size - n) n (headAll n ops.size)

/-- **A drawn region by a state of its head.** -/
theorem wp_region_state {id : Nat} {a : Act} {w : World} {l : List Oper} (n : Nat) (Φ : (Nat → Bool) → (Nat → Value) → World → Prop) (hm : P.follows .mixedOrders = true) (hB : headB l.toArray n a.tmps.size = true)
    (hΦ : ∀ L L' vs vs' w, (∀ i, i < n → L i = L' i) → (∀ i, i < n → L i = true → vs i = vs' i) → Φ L vs w → Φ L' vs' w)
    (h0 : Φ (fun _ => false) (fun _ => undef) w.drew) (hstep : HeadStep P l.toArray Q n Φ a)
    (hend : ∀ vs w, Φ (fun _ => true) vs w → wpList P l.toArray Q (l.drop n) (fillA a (l.take n) 0 vs) w) : (Code.region id l.toArray true).wp P Q a w := by
  simp only [headB, Bool.and_eq_true, decide_eq_true_eq] at hB
  obtain ⟨⟨⟨⟨⟨hn, hb⟩, hs⟩, hc⟩, hd⟩, hq⟩ := hB
  refine wp_region_any hm ?_
  have hu : unlisted (Array.replicate l.toArray.size false) = l.toArray.size := by
    unfold unlisted
    simp
  have := wpAny_head hΦ rfl hn hb hs hc hd hq hstep hend (unlisted (Array.replicate l.toArray.size false)) (Array.replicate l.toArray.size false) a w.drew (fun _ => undef) rfl
    ⟨⟨by simp, fun j oj _ hl => (by rw [getD_replicate_false] at hl; cases hl), fun t _ ht => getD_in (by simpa using ht) (getD_replicate_false _ _)⟩, rfl, rfl, fun i d _ hl _ => (by rw [getD_replicate_false] at hl; cases hl), fun t _ => rfl, by
      refine hΦ _ _ _ _ _ (fun i _ => (getD_replicate_false _ _).symm) (fun _ _ _ => rfl) h0⟩
  rw [hu] at this
  exact this

/-- **A drawn region by facts that stay true.** -/
theorem wp_region_facts {id : Nat} {a : Act} {w : World} {l : List Oper} (n : Nat) (F : Nat → Value → World → Prop) (hm : P.follows .mixedOrders = true) (hB : headB l.toArray n a.tmps.size = true)
    (hF : ∀ i v u u', Below u.heap.size u u' → F i v u → F i v u')
    (hstep : ∀ i, i < n → ∀ (a' : Act) (u : World), Below w.heap.size w u → (∀ j, j < n → WaitsOn l.toArray i j → ∃ v, (∀ d, dstAt l.toArray j = some d → Slot a' d v) ∧ F j v u) →
      (∀ t, (∀ j, j < n → dstAt l.toArray j ≠ some t) → a'.tmps[t]? = a.tmps[t]?) →
      wpOp P l.toArray Q i (fun a'' u' => ∃ v, a'' = a'.put (dstAt l.toArray i) v ∧ Below u.heap.size u u' ∧ F i v u') a' u)
    (hend : ∀ vs u, Below w.heap.size w u → (∀ i, i < n → F i (vs i) u) → wpList P l.toArray Q (l.drop n) (fillA a (l.take n) 0 vs) u) : (Code.region id l.toArray true).wp P Q a w := by
  refine wp_region_state n (fun L vs u => Below w.heap.size w u ∧ ∀ i, i < n → L i = true → F i (vs i) u) hm hB ?_ ⟨(Below.refl _ _).drew, fun i _ h => by cases h⟩ ?_ ?_
  · intro L L' vs vs' u h1 h2 h3
    refine ⟨h3.1, fun i hi hl => ?_⟩
    have hl2 : L i = true := (h1 i hi).trans hl
    rw [← h2 i hi hl2]
    exact h3.2 i hi hl2
  · intro i hi L vs a' u hun hw hsl hot hphi
    have h0 := hstep i hi a' u hphi.1 (fun j hj hwj => ⟨vs j, fun d hdj => hsl j d hj (hw j hwj) hdj, hphi.2 j hj (hw j hwj)⟩) hot
    refine wpOp_mono (fun a'' u' h1 => ?_) h0
    obtain ⟨v, ha, hb, hf⟩ := h1
    refine ⟨v, ha, hphi.1.trans (hb.mono hphi.1.size), fun j hj hl => ?_⟩
    by_cases e : j = i
    · subst e; simp only [if_pos]; exact hf
    · simp only [if_neg e]
      have hlj : L j = true := by
        have : (j == i) = false := by simp [e]
        have hl3 : (L j || j == i) = true := hl
        rw [this, Bool.or_false] at hl3
        exact hl3
      exact hF j _ _ _ hb (hphi.2 j hj hlj)
  · intro vs u hphi
    exact hend vs u hphi.1 fun i hi => hphi.2 i hi rfl
end
end Go.Proofs.YtgflfdnajchjaaaGreatDoor
/- A region that draws its order, by facts: each operation of the head is walked alone, with the slots of the others filled. Nothing of the program is named here. -/
namespace Go.Proofs.YtgflfdnajchjaaaGreatDoor
set_option linter.unusedVariables false
set_option linter.unusedSimpArgs false
open Go.RowKit

section
variable {P : Program} {ops : Array Oper} {Q : Exit → Act → World → Prop}

/-- What a slot holds, or nothing. -/
def slotOf (a : Act) : Option Tmp → Value
  | some d => a.tmps.getD d undef
  | none => undef
/-- What is to be shown of one operation. -/
def StepQ (A : Act) (dst : Option Tmp) (K : Value → World → Prop) : Exit → Act → World → Prop
  | .normal, a, w => a.defers = A.defers ∧ K (slotOf a dst) w
  | _, _, _ => False
/-- Number i waits for number j. -/
def waitB' (ops : Array Oper) (i j : Nat) : Bool := match ops[i]? with
  | none => false
  | some o => o.after.any fun e => Region.binds .any e && e.on == j
theorem waitB'_on {i j : Nat} (h : waitB' ops i j = true) : WaitsOn ops i j := by
  unfold waitB' at h
  cases ho : ops[i]? with
  | none => rw [ho] at h; cases h
  | some o =>
    rw [ho] at h
    obtain ⟨k, hk, h2⟩ := Array.any_eq_true.1 h
    simp only [Bool.and_eq_true, beq_iff_eq] at h2
    exact ⟨o, ho, o.after[k], Array.getElem_mem hk, h2⟩
/-- What an operation of the head reads of the head, it waits for. -/
def readsB (ops : Array Oper) (n : Nat) : Bool := (List.range n).all fun i => match ops[i]? with
  | none => true
  | some o => (List.range n).all fun j => match dstAt ops j with
    | none => true
    | some d => !(o.looksAt ops).contains d || waitB' ops i j
theorem readsB_spec {n i j : Nat} {o : Oper} {d : Tmp} (h : readsB ops n = true) (hi : i < n) (hj : j < n) (ho : ops[i]? = some o) (hd : dstAt ops j = some d) (hl : d ∈ o.looksAt ops) : WaitsOn ops i j := by
  have h1 := List.all_eq_true.1 h i (List.mem_range.2 hi)
  rw [ho] at h1
  have h2 := List.all_eq_true.1 h1 j (List.mem_range.2 hj)
  rw [hd] at h2
  simp only [Bool.or_eq_true, Bool.not_eq_true', List.contains_iff_mem] at h2
  rcases h2 with h2 | h2
  · exfalso
    have : (o.looksAt ops).contains d = true := List.contains_iff_mem.2 hl
    rw [this] at h2
    cases h2
  · exact waitB'_on h2
theorem looks_operand {o : Oper} {t : Tmp} (h : .tmp t ∈ o.op.operands) : t ∈ o.looksAt ops :=
  List.mem_append_left _ (List.mem_filterMap.2 ⟨.tmp t, by simpa using h, rfl⟩)
theorem looks_guard {o : Oper} {g : Nat} {b : Bool} {t : Tmp} (hg : o.guard = some (g, b)) (ht : dstAt ops g = some t) : t ∈ o.looksAt ops := by
  unfold Oper.looksAt
  refine List.mem_append_right _ ?_
  rw [hg]
  unfold dstAt at ht
  simp [ht]
theorem slot_put {a : Act} {d : Tmp} {v : Value} (h : d < a.tmps.size) : slotOf (a.put (some d) v) (some d) = v := by
  simp [slotOf, Act.put, h]

/-- From the walk of one operation at the filled slots to what the region asks. -/
theorem wpOp_of_step {i n : Nat} {o : Oper} {A a' : Act} {u : World} {K : Value → World → Prop} (ho : ops[i]? = some o) (hsel : ∀ cs b, o.op ≠ .select cs b) (hd : ∀ d, o.dst = some d → d < A.tmps.size)
    (hev : ∀ t ∈ o.looksAt ops, a'.tmps[t]? = A.tmps[t]?)
    (h : wpList P ops (StepQ A o.dst K) [o] A u) : wpOp P ops Q i (fun a'' u' => ∃ v, a'' = a'.put (dstAt ops i) v ∧ K v u') a' u := by
  have hdst : dstAt ops i = o.dst := by unfold dstAt; rw [ho]; rfl
  have he : execOp a'.eval o = execOp A.eval o := execOp_congr o hsel fun x hx => by
    cases x with
    | tmp t =>
      have := hev t (looks_operand hx)
      show a'.tmps.getD t undef = A.tmps.getD t undef
      rw [Array.getD_eq_getD_getElem?, Array.getD_eq_getD_getElem?, this]
    | const v => rfl
    | global g => rfl
    | func f => rfl
  have hw : Region.wanted o (yielded ops a'.tmps) = Region.wanted o (yielded ops A.tmps) := by
    unfold Region.wanted
    cases hg : o.guard with
    | none => rfl
    | some p =>
      obtain ⟨g, b⟩ := p
      have : yielded ops a'.tmps g = yielded ops A.tmps g := by
        unfold yielded
        cases hgd : (ops[g]?).bind (·.dst) with
        | none => rfl
        | some t =>
          have := hev t (looks_guard hg hgd)
          simp [this]
      simp only [this]
  have hput : ∀ v w', StepQ A o.dst K .normal (A.put o.dst v) w' → ∃ v', a'.put o.dst v = a'.put o.dst v' ∧ K v' w' := fun v w' hq => by
    cases hod : o.dst with
    | none =>
      rw [hod] at hq
      exact ⟨undef, rfl, hq.2⟩
    | some d =>
      rw [hod] at hq
      refine ⟨v, rfl, ?_⟩
      have h2 := hq.2
      rwa [slot_put (hd d hod)] at h2
  have hlo : ¬ LetsOut (StepQ A o.dst K) := fun ⟨a, w, hq⟩ => hq
  unfold wpOp
  simp only [ho]
  unfold wpList at h
  rw [hw, hdst]
  split
  · rename_i hwt
    rw [if_pos hwt] at h
    rcases h with h | h
    · refine .inl ?_
      unfold Oper.wp at h ⊢
      rw [he]
      revert h
      generalize (execOp A.eval o).run P u = r
      cases r with
      | ok nx w' =>
        cases nx with
        | value v => intro h; exact hput v w' h
        | skip => intro h; exact hput undef w' h
        | enter f args =>
          intro h
          refine Calls.mono h fun e w'' hq => ?_
          cases e with
          | returned v => exact hput v w'' hq
          | panicked c => exact absurd hq (fun h => h)
          | outgrown => exact absurd hq hlo
        | row rw' args =>
          intro h
          exact Rows.mono h fun v w'' hq => hput v w'' hq
        | _ => first
          | (intro h; exact h.elim)
          | (rename_i df
             intro h
             exfalso
             have h1 : ({ A with defers := df :: A.defers }.put o.dst undef).defers = A.defers := h.1
             have h2 : ({ A with defers := df :: A.defers }.put o.dst undef).defers = df :: A.defers := by cases o.dst <;> rfl
             rw [h2] at h1
             have := congrArg List.length h1
             simp at this)
      | halt x w' =>
        cases x <;> intro h <;> exact h.elim
    · exact absurd h.2 hlo
  · rename_i hwt
    rw [if_neg hwt] at h
    exact hput undef u h

/-- **A drawn region by a state of its head: each operation of the head is walked alone.** -/
theorem wp_region_walkS {id : Nat} {a : Act} {w : World} {l : List Oper} (n : Nat) (Φ : (Nat → Bool) → (Nat → Value) → World → Prop) (hm : P.follows .mixedOrders = true) (hB : (headB l.toArray n a.tmps.size && readsB l.toArray n && Region.noSelect l.toArray) = true)
    (hΦ : ∀ L L' vs vs' w, (∀ i, i < n → L i = L' i) → (∀ i, i < n → L i = true → vs i = vs' i) → Φ L vs w → Φ L' vs' w)
    (h0 : Φ (fun _ => false) (fun _ => undef) w.drew)
    (hstep : ∀ i o, i < n → l[i]? = some o → ∀ (L : Nat → Bool) (vs : Nat → Value) (u : World), L i = false → (∀ j, waitB' l.toArray i j = true → L j = true) → Φ L vs u →
      wpList P l.toArray (StepQ (fillA a (l.take n) 0 vs) o.dst fun v u' => Φ (fun j => L j || j == i) (fun j => if j = i then v else vs j) u') [o] (fillA a (l.take n) 0 vs) u)
    (hend : ∀ vs u, Φ (fun _ => true) vs u → wpList P l.toArray Q (l.drop n) (fillA a (l.take n) 0 vs) u) : (Code.region id l.toArray true).wp P Q a w := by
  simp only [Bool.and_eq_true] at hB
  obtain ⟨⟨hB, hR⟩, hS⟩ := hB
  have hB' := hB
  simp only [headB, Bool.and_eq_true, decide_eq_true_eq] at hB'
  obtain ⟨⟨⟨⟨⟨hn, -⟩, -⟩, -⟩, hds⟩, -⟩ := hB'
  have hat : ∀ i, i < n → ((l.take n)[i]?).bind (·.dst) = dstAt l.toArray i := fun i hi => by
    unfold dstAt
    rw [List.getElem?_take, if_pos hi]
    simp
  have hno : ∀ i, ¬ i < n → ((l.take n)[i]?).bind (·.dst) = none := fun i hi => by
    rw [List.getElem?_take, if_neg hi]
    rfl
  refine wp_region_state n Φ hm hB hΦ h0 ?_ hend
  intro i hi L vs a' u hun hw hsl hot hphi
  have hil : i < l.length := by
    have : l.toArray.size = l.length := by simp
    omega
  have ho : l.toArray[i]? = some l[i] := by simp [hil]
  have hol : l[i]? = some l[i] := List.getElem?_eq_getElem hil
  have h0 := hstep i l[i] hi hol L vs u hun (fun j hwj => hw j (waitB'_on hwj)) hphi
  have hsz := (fillA_size (l.take n) a 0 vs).1
  have hdo : dstAt l.toArray i = l[i].dst := by unfold dstAt; rw [ho]; rfl
  refine wpOp_of_step (n := n) (K := fun v u' => Φ (fun j => L j || j == i) (fun j => if j = i then v else vs j) u') ho (fun cs b => Region.noSelect_spec hS i _ cs b ho) (fun d hd => by rw [hsz]; exact dstsB_lt hds hi (hdo.trans hd)) (fun t ht => ?_) h0
  by_cases hx : ∃ j, j < n ∧ dstAt l.toArray j = some t
  · obtain ⟨j, hj, hjt⟩ := hx
    have hwj := readsB_spec hR hi hj ho hjt ht
    have h2 : a'.tmps[t]? = some (vs j) := hsl j t hj (hw j hwj) hjt
    rw [h2, fillA_at (l.take n) a 0 vs j t (by rw [hat j hj]; exact hjt) (dstsB_lt hds hj hjt) (fun k hk he => by
      by_cases hkn : k < n
      · rw [hat k hkn] at he
        exact dstsB_ne hds hj hkn (fun e => hk e.symm) hjt he
      · rw [hno k hkn] at he; cases he), Nat.zero_add]
  · have h2 : ∀ j, j < n → dstAt l.toArray j ≠ some t := fun j hj he => hx ⟨j, hj, he⟩
    rw [hot t h2, fillA_other]
    intro o' ho' he'
    obtain ⟨k, hk⟩ := List.mem_iff_getElem?.1 ho'
    by_cases hkn : k < n
    · have := hat k hkn
      rw [hk] at this
      exact h2 k hkn (this.symm.trans (by simpa using he'))
    · have := hno k hkn
      rw [hk] at this
      simp [he'] at this

theorem StepQ_mono {A : Act} {dst : Option Tmp} {K K' : Value → World → Prop} (h : ∀ v w, K v w → K' v w) : ∀ e a w, StepQ A dst K e a w → StepQ A dst K' e a w
  | .normal, a, w, hq => ⟨hq.1, h _ _ hq.2⟩
  | .exit _, _, _, hq => hq
  | .goto _, _, _, hq => hq
  | .ret, _, _, hq => hq
  | .panic _, _, _, hq => hq
  | .outgrown, _, _, hq => hq
theorem wpList_one_mono {A : Act} {dst : Option Tmp} {K K' : Value → World → Prop} {o : Oper} {a : Act} {u : World} (h : ∀ v w, K v w → K' v w) (hh : wpList P ops (StepQ A dst K) [o] a u) : wpList P ops (StepQ A dst K') [o] a u := by
  have hlo : ¬ LetsOut (StepQ A dst K) := fun ⟨a, w, hq⟩ => hq
  unfold wpList at hh ⊢
  split
  · rename_i hw
    rw [if_pos hw] at hh
    rcases hh with hh | hh
    · refine .inl ?_
      unfold Oper.wp at hh ⊢
      revert hh
      generalize (execOp a.eval o).run P u = r
      cases r with
      | ok nx w' =>
        cases nx with
        | value v => intro hh; exact StepQ_mono (A := A) (dst := dst) h .normal _ w' hh
        | skip => intro hh; exact StepQ_mono (A := A) (dst := dst) h .normal _ w' hh
        | enter f args =>
          intro hh
          refine Calls.mono hh fun e w'' hq => ?_
          cases e with
          | returned v => exact StepQ_mono h _ _ _ hq
          | panicked c => exact hq
          | outgrown => exact absurd hq hlo
        | row rw' args => intro hh; exact Rows.mono hh fun v w'' hq => StepQ_mono h _ _ _ hq
        | _ => first
          | (intro hh; exact hh.elim)
          | (intro hh; exact StepQ_mono (A := A) (dst := dst) h .normal _ w' hh)
      | halt x w' => cases x <;> intro hh <;> exact hh.elim
    · exact absurd hh.2 hlo
  · rename_i hw
    rw [if_neg hw] at hh
    exact StepQ_mono h _ _ _ hh
/-- **A drawn region by facts: each operation of the head is walked alone.** -/
theorem wp_region_walk {id : Nat} {a : Act} {w : World} {l : List Oper} (n : Nat) (F : Nat → Value → World → Prop) (hm : P.follows .mixedOrders = true) (hB : (headB l.toArray n a.tmps.size && readsB l.toArray n && Region.noSelect l.toArray) = true)
    (hF : ∀ i v u u', Below u.heap.size u u' → F i v u → F i v u')
    (hstep : ∀ i o, i < n → l[i]? = some o → ∀ (vs : Nat → Value) (u : World), Below w.heap.size w u → (∀ j, j < n → waitB' l.toArray i j = true → F j (vs j) u) →
      wpList P l.toArray (StepQ (fillA a (l.take n) 0 vs) o.dst fun v u' => Below u.heap.size u u' ∧ F i v u') [o] (fillA a (l.take n) 0 vs) u)
    (hend : ∀ vs u, Below w.heap.size w u → (∀ i, i < n → F i (vs i) u) → wpList P l.toArray Q (l.drop n) (fillA a (l.take n) 0 vs) u) : (Code.region id l.toArray true).wp P Q a w := by
  refine wp_region_walkS n (fun L vs u => Below w.heap.size w u ∧ ∀ i, i < n → L i = true → F i (vs i) u) hm hB ?_ ⟨(Below.refl _ _).drew, fun i _ h => by cases h⟩ ?_ ?_
  · intro L L' vs vs' u h1 h2 h3
    refine ⟨h3.1, fun i hi hl => ?_⟩
    have hl2 : L i = true := (h1 i hi).trans hl
    rw [← h2 i hi hl2]
    exact h3.2 i hi hl2
  · intro i o hi hol L vs u hun hw hphi
    refine wpList_one_mono (fun v u' h1 => ?_) (hstep i o hi hol vs u hphi.1 fun j hj hwj => hphi.2 j hj (hw j hwj))
    obtain ⟨hb, hf⟩ := h1
    refine ⟨hphi.1.trans (hb.mono hphi.1.size), fun j hj hl => ?_⟩
    by_cases e : j = i
    · subst e; simp only [if_pos]; exact hf
    · simp only [if_neg e]
      have hlj : (L j || j == i) = true := hl
      have : (j == i) = false := by simp [e]
      rw [this, Bool.or_false] at hlj
      exact hF j _ _ _ hb (hphi.2 j hj hlj)
  · intro vs u hphi
    exact hend vs u hphi.1 fun i hi => hphi.2 i hi rfl
end
end Go.Proofs.YtgflfdnajchjaaaGreatDoor
/- A region that draws its order: its first p operations yield the same in whatever world and may be taken first; those up to number n are walked alone, by a state; the rest comes in order. Nothing of the program is named here. -/
namespace Go.Proofs.YtgflfdnajchjaaaGreatDoor
set_option linter.unusedVariables false
set_option linter.unusedSimpArgs false
open Go.RowKit

section
variable {P : Program} {ops : Array Oper} {Q : Exit → Act → World → Prop}

/-- Every operation waits for earlier ones alone. -/
def backP (ops : Array Oper) : Bool := (List.range ops.size).all fun i => match ops[i]? with | some o => o.after.all fun e => !Region.binds .any e || decide (e.on < i) | none => true
theorem all_listedP {listed : Array Bool} (hb : backP ops = true) (hr : Region.ready .any ops listed = []) (hs : listed.size = ops.size) : ∀ i, i < ops.size → listed.getD i false = true := by
  intro i
  induction i using Nat.strongRecOn with
  | _ i ih =>
    intro hi
    cases hl : listed.getD i false with
    | true => rfl
    | false =>
      exfalso
      have hl2 : listed.getD i true = false := by
        have : i < listed.size := by omega
        simp [this] at hl ⊢
        exact hl
      have h1 := List.all_eq_true.1 hb i (List.mem_range.2 hi)
      have ho : ops[i]? = some ops[i] := Array.getElem?_eq_getElem hi
      rw [ho] at h1
      have h2 : i ∈ Region.ready .any ops listed := mem_ready.2 ⟨hl2, ops[i], ho, fun e he hbd => by
        have h3 := Array.all_eq_true_iff_forall_mem.1 h1 e he
        rw [hbd] at h3
        have h4 : e.on < i := by simpa using h3
        exact ih e.on h4 (by omega)⟩
      rw [hr] at h2
      cases h2

/-- Each operation from p to n - 1 is waited for. -/
def sinkP (ops : Array Oper) (p n : Nat) : Bool := (List.range n).all fun i => decide (i < p) || (List.range (n + 1)).any fun j => decide (i < j) && waitB' ops j i
theorem tail_waitsP {p n : Nat} {listed : Array Bool} (hs : sinkP ops p n = true) (hc : Region.chainB .any ops n = true) (inv : HeadInv .any ops n listed) :
    ∀ (d i : Nat), n - i = d → p ≤ i → i < n → listed.getD i true = false → ∀ t, n ≤ t → t ∉ Region.ready .any ops listed := by
  intro d
  induction d using Nat.strongRecOn with
  | _ d ih =>
    intro i hd hpi hi hun t ht hr
    obtain ⟨_, ot, hot, hall⟩ := mem_ready.1 hr
    have htlt : t < ops.size := (Array.getElem?_eq_some_iff.1 hot).1
    by_cases htn : t = n
    · subst htn
      have h1 := List.all_eq_true.1 hs i (List.mem_range.2 hi)
      simp only [Bool.or_eq_true, decide_eq_true_eq] at h1
      rcases h1 with h1 | h1
      · omega
      · obtain ⟨j, hj, hj2⟩ := List.any_eq_true.1 h1
        simp only [Bool.and_eq_true, decide_eq_true_eq] at hj2
        obtain ⟨oj, hoj, e, he, hb, hon⟩ := waitB'_on hj2.2
        have hjn : j ≤ t := by have := List.mem_range.1 hj; omega
        by_cases hjt : j = t
        · subst hjt
          have : oj = ot := Option.some.inj (hoj.symm.trans hot)
          subst this
          have h3 := hall e he hb
          rw [hon, getD_both hun] at h3
          cases h3
        · have hju : listed.getD j false = false := by
            cases hl : listed.getD j false with
            | false => rfl
            | true =>
              have h3 := inv.closed j oj hoj hl e he hb
              rw [hon, getD_both hun] at h3
              cases h3
          have hjlt : j < listed.size := by rw [inv.size]; omega
          exact ih (t - j) (by omega) j rfl (by omega) (by omega) (getD_in hjlt hju) t (Nat.le_refl _) hr
    · have h1 := List.all_eq_true.1 hc t (List.mem_range.2 htlt)
      simp only [Bool.or_eq_true, decide_eq_true_eq] at h1
      rcases h1 with h1 | h1
      · omega
      · unfold Region.waitsFor at h1
        rw [hot] at h1
        obtain ⟨k, hk, h2⟩ := Array.any_eq_true.1 h1
        simp only [Bool.and_eq_true, beq_iff_eq] at h2
        have h3 := hall ot.after[k] (Array.getElem_mem hk) (by first | exact h2.1 | exact h2.2)
        have h4 := inv.tail (t - 1) (by omega) (by omega)
        have h5 : listed.getD (t - 1) false = true := by
          first
          | rw [h2.2] at h3; exact h3
          | rw [h2.1] at h3; exact h3
        rw [getD_both h4] at h5
        cases h5

/-- How far a region's head has come, behind its first p operations. -/
structure HeadStP (ops : Array Oper) (p n : Nat) (Φ : (Nat → Bool) → (Nat → Value) → World → Prop) (a0 : Act) (listed : Array Bool) (a : Act) (w : World) (vs : Nat → Value) : Prop where
  inv : HeadInv .any ops n listed
  pre : ∀ i, i < p → listed.getD i false = true
  sz : a.tmps.size = a0.tmps.size
  df : a.defers = a0.defers
  slot : ∀ i d, p ≤ i → i < n → listed.getD i false = true → dstAt ops i = some d → Slot a d (vs i)
  other : ∀ t, (∀ i, p ≤ i → i < n → listed.getD i false = true → dstAt ops i ≠ some t) → a.tmps[t]? = a0.tmps[t]?
  phi : Φ (fun i => listed.getD i false) vs w

def HeadStepP (P : Program) (ops : Array Oper) (Q : Exit → Act → World → Prop) (p n : Nat) (Φ : (Nat → Bool) → (Nat → Value) → World → Prop) (a0 : Act) : Prop :=
  ∀ i, p ≤ i → i < n → ∀ (L : Nat → Bool) (vs : Nat → Value) (a : Act) (w : World), L i = false → (∀ j, WaitsOn ops i j → L j = true) →
    (∀ j d, p ≤ j → j < n → L j = true → dstAt ops j = some d → Slot a d (vs j)) → (∀ t, (∀ j, p ≤ j → j < n → dstAt ops j ≠ some t) → a.tmps[t]? = a0.tmps[t]?) → Φ L vs w →
    wpOp P ops Q i (fun a' w' => ∃ v, a' = a.put (dstAt ops i) v ∧ Φ (fun j => L j || j == i) (fun j => if j = i then v else vs j) w') a w

theorem mid_get (l : List Oper) (p n i : Nat) (hp : p ≤ n) : (((l.take n).drop p)[i]?).bind (·.dst) = if p + i < n then dstAt l.toArray (p + i) else none := by
  rw [List.getElem?_drop, List.getElem?_take]
  split
  · unfold dstAt; simp
  · rfl

set_option maxHeartbeats 1000000 in
theorem wpAny_headP {p n : Nat} {Φ : (Nat → Bool) → (Nat → Value) → World → Prop} {a0 : Act} {l : List Oper} (hΦ : ∀ L L' vs vs' w, (∀ i, p ≤ i → i < n → L i = L' i) → (∀ i, p ≤ i → i < n → L i = true → vs i = vs' i) → Φ L vs w → Φ L' vs' w) (hops : ops = l.toArray) (hpn : p ≤ n) (hn : n < ops.size) (hb : backP ops = true) (hs : sinkP ops p n = true) (hc : Region.chainB .any ops n = true) (hd : dstsB ops n a0.tmps.size = true)
    (hq : Region.seqB .any ops (ops.size - n) n (headAll n ops.size) = true) (hstep : HeadStepP P ops Q p n Φ a0)
    (hend : ∀ vs w, Φ (fun _ => true) vs w → wpList P ops Q (l.drop n) (fillA a0 ((l.take n).drop p) p vs) w) :
    ∀ (f : Nat) (listed : Array Bool) (a : Act) (w : World) (vs : Nat → Value), unlisted listed = f → HeadStP ops p n Φ a0 listed a w vs → wpAny P .any ops Q f listed a w := by
  have hmid : ∀ i, (((l.take n).drop p)[i]?).bind (·.dst) = if p + i < n then dstAt ops (p + i) else none := fun i => by rw [hops]; exact mid_get l p n i hpn
  have hends : ∀ (listed : Array Bool) (a : Act) (w : World) (vs : Nat → Value), HeadStP ops p n Φ a0 listed a w vs → (∀ i, i < n → listed.getD i false = true) → wpAny P .any ops Q (unlisted listed) listed a w := by
    intro listed a w vs H hall
    have hl : listed = headAll n ops.size := headAll_eq H.inv.size hall H.inv.tail
    have ha : a = fillA a0 ((l.take n).drop p) p vs := by
      obtain ⟨g1, g2⟩ := fillA_size ((l.take n).drop p) a0 p vs
      refine act_ext (H.sz.trans g1.symm) (H.df.trans g2.symm) fun t => ?_
      by_cases hx : ∃ i, p ≤ i ∧ i < n ∧ dstAt ops i = some t
      · obtain ⟨i, hpi, hi, hit⟩ := hx
        rw [H.slot i t hpi hi (hall i hi) hit]
        rw [fillA_at _ a0 p vs (i - p) t (by rw [hmid, if_pos (by omega), show p + (i - p) = i by omega]; exact hit) (dstsB_lt hd hi hit) (fun j hj he => by
          rw [hmid] at he
          by_cases hjn : p + j < n
          · rw [if_pos hjn] at he
            exact dstsB_ne hd hi hjn (fun e => hj (by omega)) hit he
          · rw [if_neg hjn] at he; cases he), show p + (i - p) = i by omega]
      · have hno : ∀ i, p ≤ i → i < n → dstAt ops i ≠ some t := fun i hp hi he => hx ⟨i, hp, hi, he⟩
        rw [H.other t (fun i hp hi _ => hno i hp hi)]
        rw [fillA_other]
        intro o ho he
        obtain ⟨i, hi⟩ := List.mem_iff_getElem?.1 ho
        have h1 := hmid i
        rw [hi] at h1
        by_cases hin : p + i < n
        · rw [if_pos hin] at h1
          exact hno (p + i) (by omega) hin (h1.symm.trans (by simpa using he))
        · rw [if_neg hin] at h1
          simp [he] at h1
    rw [ha]
    have hlen : (l.drop n).length = ops.size - n := by rw [hops]; simp
    have h3 := wpAny_of_seq (md := .any) (Q' := Q) (l.drop n) n (headAll n ops.size) (fillA a0 ((l.take n).drop p) p vs) w (fun j => by rw [hops]; simp) (by rw [hlen]; exact hq) (hend vs w (hΦ _ _ _ _ _ (fun i _ hi => hall i hi) (fun _ _ _ _ => rfl) H.phi))
    rw [hl, unlisted_headAll (Nat.le_of_lt hn), ← hlen]
    exact h3
  intro f
  induction f with
  | zero =>
    intro listed a w vs hu H
    have := hends listed a w vs H (fun i hi => by
      cases hl : listed.getD i false with
      | true => rfl
      | false =>
        have := unlisted_set (i := i) (getD_in (by rw [H.inv.size]; omega) hl)
        omega)
    rw [hu] at this
    exact this
  | succ f ih =>
    intro listed a w vs hu H
    by_cases hall : ∀ i, i < n → listed.getD i false = true
    · have := hends listed a w vs H hall
      rw [hu] at this
      exact this
    · obtain ⟨i0, hi0, hun0⟩ : ∃ i, i < n ∧ listed.getD i false = false := by
        false_or_by_contra
        rename_i hc'
        refine hall fun i hi => ?_
        cases hl : listed.getD i false with
        | true => rfl
        | false => exact absurd ⟨i, hi, hl⟩ hc'
      have hpi0 : p ≤ i0 := by
        false_or_by_contra
        rename_i hc'
        rw [H.pre i0 (by omega)] at hun0
        cases hun0
      have hun0' := getD_in (by rw [H.inv.size]; omega) hun0
      refine ⟨fun hr => ?_, fun i hi => ?_⟩
      · have := all_listedP hb hr H.inv.size i0 (by omega)
        rw [hun0] at this
        cases this
      · have hin : i < n := Nat.lt_of_not_le fun hle => tail_waitsP hs hc H.inv _ i0 rfl hpi0 hi0 hun0' i hle hi
        obtain ⟨hun, o, ho, hao⟩ := mem_ready.1 hi
        have hunf := getD_both hun
        have hpi : p ≤ i := by
          false_or_by_contra
          rename_i hc'
          rw [H.pre i (by omega)] at hunf
          cases hunf
        have hilt : i < listed.size := by rw [H.inv.size]; omega
        have lset : ∀ j, (listed.setIfInBounds i true).getD j false = (listed.getD j false || j == i) := fun j => by
          by_cases e : i = j
          · subst e; simp [hilt]
          · rw [getD_set_ne false e]
            have : (j == i) = false := by simp; omega
            rw [this, Bool.or_false]
        have h0 := hstep i hpi hin (fun j => listed.getD j false) vs a w hunf (fun j hj => by
          obtain ⟨o', ho', e, he, hbd, hon⟩ := hj
          have : o' = o := Option.some.inj (ho'.symm.trans ho)
          subst this
          rw [← hon]
          exact hao e he hbd) (fun j d hp hj hlj hdj => H.slot j d hp hj hlj hdj) (fun t ht => H.other t fun j hp hj _ => ht j hp hj) H.phi
        refine wpOp_mono (fun a' w' h1 => ?_) h0
        obtain ⟨v, rfl, hphi⟩ := h1
        refine ih _ _ _ (fun j => if j = i then v else vs j) ?_ ⟨H.inv.set hi hin, fun j hj => by rw [lset, H.pre j hj]; rfl, ?_, ?_, fun j d hpj hj hl hdj => ?_, fun t ht => ?_, ?_⟩
        · have := unlisted_set (i := i) hun
          omega
        · cases dstAt ops i <;> simp [Act.put, H.sz]
        · cases dstAt ops i <;> simp [Act.put, H.df]
        · by_cases e : j = i
          · subst e
            rw [hdj]
            simp only [if_pos]
            exact Slot.put (by rw [H.sz]; exact dstsB_lt hd hj hdj)
          · simp only [if_neg e]
            rw [lset] at hl
            have : (j == i) = false := by simp [e]
            rw [this, Bool.or_false] at hl
            have hs0 := H.slot j d hpj hj hl hdj
            cases hdi : dstAt ops i with
            | none => exact hs0
            | some d' => exact hs0.other (fun e2 => dstsB_ne hd hj hin e hdj (e2 ▸ hdi))
        · have h2 := H.other t fun j hpj hj hl => ht j hpj hj (by rw [lset, hl]; rfl)
          rw [← h2]
          have h3 := ht i hpi hin (by rw [lset]; simp)
          cases hdi : dstAt ops i with
          | none => rfl
          | some d' =>
            have : d' ≠ t := fun e => h3 (by rw [hdi, e])
            simp [Act.put, Array.getElem?_setIfInBounds_ne this]
        · refine hΦ _ _ _ _ _ (fun j _ _ => (lset j).symm) (fun _ _ _ _ => rfl) hphi

/-- The first operations, one after the other, in whatever world. -/
def Peels (P : Program) (ops : Array Oper) : List Oper → Act → Act → Prop
  | [], a, b => b = a
  | o :: l, a, b => ∃ v, Yields P ops o v a ∧ Peels P ops l (a.put o.dst v) b
def peelB (ops : Array Oper) : Nat → Nat → Bool
  | 0, _ => true
  | m + 1, k => (Region.ready .any ops (headAll k ops.size)).contains k && Region.free .any ops (headAll k ops.size) k && peelB ops m (k + 1)
theorem headAll_get (k m i : Nat) : (headAll k m)[i]? = if i < m then some (decide (i < k)) else none := by
  unfold headAll
  rw [List.getElem?_toArray, List.getElem?_map]
  by_cases h : i < m
  · rw [List.getElem?_range h, if_pos h]; rfl
  · rw [List.getElem?_eq_none (by simp; omega), if_neg h]; rfl
theorem headAll_getD (k m i : Nat) : (headAll k m).getD i false = decide (i < k ∧ i < m) := by
  rw [Array.getD_eq_getD_getElem?, headAll_get]
  by_cases h : i < m
  · rw [if_pos h]
    exact decide_eq_decide.2 ⟨fun h1 => ⟨h1, h⟩, fun h1 => h1.1⟩
  · rw [if_neg h]
    exact (decide_eq_false (fun h1 => h h1.2)).symm
theorem headAll_set {k m : Nat} (hk : k < m) : (headAll k m).setIfInBounds k true = headAll (k + 1) m := by
  apply Array.ext_getElem?
  intro i
  rw [headAll_get, Array.getElem?_setIfInBounds, headAll_get]
  by_cases e : k = i
  · subst e
    rw [if_pos rfl, if_pos hk, if_pos (by simp [headAll]; exact hk)]
    simp
  · rw [if_neg e]
    by_cases h : i < m
    · rw [if_pos h, if_pos h]
      exact congrArg some (decide_eq_decide.2 ⟨fun h1 => by omega, fun h1 => by omega⟩)
    · rw [if_neg h, if_neg h]
theorem Peels.size : ∀ (l : List Oper) {a b : Act}, Peels P ops l a b → b.tmps.size = a.tmps.size ∧ b.defers = a.defers
  | [], a, b, h => by cases h; exact ⟨rfl, rfl⟩
  | o :: l, a, b, ⟨v, _, h⟩ => by
    obtain ⟨h1, h2⟩ := Peels.size l h
    refine ⟨h1.trans ?_, h2.trans ?_⟩
    · cases o.dst <;> simp [Act.put]
    · cases o.dst <;> simp [Act.put]
theorem wpAny_peel (hsel : Region.noSelect ops = true) (hQ : ∀ c (b : Act) d v w, Q (.panic c) (b.put d v) w → Q (.panic c) b w) :
    ∀ (m k : Nat) (l : List Oper) (a b : Act) (w : World), l.length = m → (∀ j, j < m → l[j]? = ops[k + j]?) → k + m ≤ ops.size → peelB ops m k = true → Peels P ops l a b →
      wpAny P .any ops Q (ops.size - (k + m)) (headAll (k + m) ops.size) b w → wpAny P .any ops Q (ops.size - k) (headAll k ops.size) a w
  | 0, k, l, a, b, w, hl, _, _, _, hp, h => by
    have : l = [] := List.length_eq_zero_iff.1 hl
    subst this
    cases hp
    exact h
  | m + 1, k, l, a, b, w, hl, hk, hle, hB, hp, h => by
    rcases l with _ | ⟨o, l⟩
    · cases hl
    · obtain ⟨v, hy, hp⟩ := hp
      simp only [peelB, Bool.and_eq_true] at hB
      obtain ⟨⟨hr, hf⟩, hB⟩ := hB
      have h0 : ops[k]? = some o := by simpa using (hk 0 (by omega)).symm
      have ih := wpAny_peel hsel hQ m (k + 1) l _ b w (by simpa using hl) (fun j hj => by have := hk (j + 1) (by omega); simpa [Nat.add_assoc, Nat.add_comm 1 j] using this) (by omega) hB hp (by rw [show k + 1 + m = k + (m + 1) by omega]; exact h)
      rw [show ops.size - k = (ops.size - (k + 1)) + 1 by omega]
      refine wpAny_first h0 (Region.noSelect_spec hsel) (fun c a w hq => hQ c a _ _ w hq) _ _ _ _ (Region.free_spec h0 hf) (by simpa using hr) hy ?_
      rw [headAll_set (by omega)]
      exact ih

def peelHeadB (ops : Array Oper) (p n S : Nat) : Bool :=
  decide (p ≤ n) && decide (n < ops.size) && backP ops && sinkP ops p n && Region.chainB .any ops n && dstsB ops n S && Region.seqB .any ops (ops.size - n) n (headAll n ops.size) && readsB ops n && Region.noSelect ops && peelB ops p 0 && headInvB ops p
  where headInvB (ops : Array Oper) (p : Nat) : Bool := (List.range p).all fun i => match ops[i]? with
  | none => true
  | some o => o.after.all fun e => !Region.binds .any e || decide (e.on < p)

/-- **A drawn region: p operations first, then by a state of its head, each operation walked alone; then the rest.** -/
theorem wp_region_peel {id : Nat} {a b : Act} {w : World} {l : List Oper} (p n : Nat) (Φ : (Nat → Bool) → (Nat → Value) → World → Prop) (hm : P.follows .mixedOrders = true) (hB : peelHeadB l.toArray p n a.tmps.size = true)
    (hp : Peels P l.toArray (l.take p) a b) (hQ : ∀ c (b : Act) d v w, Q (.panic c) (b.put d v) w → Q (.panic c) b w)
    (hΦ : ∀ L L' vs vs' w, (∀ i, p ≤ i → i < n → L i = L' i) → (∀ i, p ≤ i → i < n → L i = true → vs i = vs' i) → Φ L vs w → Φ L' vs' w)
    (h0 : Φ (fun i => decide (i < p)) (fun _ => undef) w.drew)
    (hstep : ∀ i o, p ≤ i → i < n → l[i]? = some o → ∀ (L : Nat → Bool) (vs : Nat → Value) (u : World), L i = false → (∀ j, waitB' l.toArray i j = true → L j = true) → Φ L vs u →
      wpList P l.toArray (StepQ (fillA b ((l.take n).drop p) p vs) o.dst fun v u' => Φ (fun j => L j || j == i) (fun j => if j = i then v else vs j) u') [o] (fillA b ((l.take n).drop p) p vs) u)
    (hend : ∀ vs u, Φ (fun _ => true) vs u → wpList P l.toArray Q (l.drop n) (fillA b ((l.take n).drop p) p vs) u) : (Code.region id l.toArray true).wp P Q a w := by
  simp only [peelHeadB, Bool.and_eq_true, decide_eq_true_eq] at hB
  obtain ⟨⟨⟨⟨⟨⟨⟨⟨⟨⟨hpn, hn⟩, hbk⟩, hs⟩, hc⟩, hds⟩, hq⟩, hR⟩, hS⟩, hpl⟩, hiv⟩ := hB
  have hsz := Peels.size _ hp
  have hds' : dstsB l.toArray n b.tmps.size = true := by rw [hsz.1]; exact hds
  have hlen : l.toArray.size = l.length := by simp
  refine wp_region_any hm ?_
  have hrep : Array.replicate l.toArray.size false = headAll 0 l.toArray.size := by
    apply Array.ext
    · simp [headAll]
    · intro i h1 h2; simp [headAll]
  rw [hrep]
  refine wpAny_peel (ops := l.toArray) hS hQ p 0 (l.take p) a b _ (by rw [List.length_take]; omega) (fun j hj => by rw [List.getElem?_take, if_pos hj]; simp) (by omega) hpl hp ?_
  rw [Nat.zero_add, ← unlisted_headAll (ops := l.toArray) (n := p) (by omega)]
  have hgp : ∀ j, (headAll p l.toArray.size).getD j false = decide (j < p ∧ j < l.toArray.size) := fun j => headAll_getD _ _ _
  refine wpAny_headP hΦ rfl hpn hn hbk hs hc hds' hq ?_ hend _ _ b w.drew (fun _ => undef) rfl ⟨⟨by simp [headAll], fun j oj hoj hl e he hb => ?_, fun t ht ht' => ?_⟩, fun i hi => ?_, rfl, rfl, fun i d hpi hi hl => ?_, fun t _ => rfl, ?_⟩
  · intro i hpi hi L vs a' u hun hw hsl hot hphi
    have hil : i < l.length := by omega
    have ho : l.toArray[i]? = some l[i] := by simp [hil]
    have hol : l[i]? = some l[i] := List.getElem?_eq_getElem hil
    have h1 := hstep i l[i] hpi hi hol L vs u hun (fun j hwj => hw j (waitB'_on hwj)) hphi
    have hfs := (fillA_size ((l.take n).drop p) b p vs).1
    have hdo : dstAt l.toArray i = l[i].dst := by unfold dstAt; rw [ho]; rfl
    refine wpOp_of_step (n := n) (K := fun v u' => Φ (fun j => L j || j == i) (fun j => if j = i then v else vs j) u') ho (fun cs b => Region.noSelect_spec hS i _ cs b ho) (fun d hd => by rw [hfs]; exact dstsB_lt hds' hi (hdo.trans hd)) (fun t ht => ?_) h1
    have hmid := fun k => mid_get l p n k hpn
    by_cases hx : ∃ j, p ≤ j ∧ j < n ∧ dstAt l.toArray j = some t
    · obtain ⟨j, hpj, hj, hjt⟩ := hx
      have hwj := readsB_spec hR hi hj ho hjt ht
      have h2 : a'.tmps[t]? = some (vs j) := hsl j t hpj hj (hw j hwj) hjt
      rw [h2, fillA_at _ b p vs (j - p) t (by rw [hmid, if_pos (by omega), show p + (j - p) = j by omega]; exact hjt) (dstsB_lt hds' hj hjt) (fun k hk he => by
        rw [hmid] at he
        by_cases hkn : p + k < n
        · rw [if_pos hkn] at he
          exact dstsB_ne hds' hj hkn (fun e => hk (by omega)) hjt he
        · rw [if_neg hkn] at he; cases he), show p + (j - p) = j by omega]
    · have h2 : ∀ j, p ≤ j → j < n → dstAt l.toArray j ≠ some t := fun j hpj hj he => hx ⟨j, hpj, hj, he⟩
      rw [hot t h2, fillA_other]
      intro o' ho' he'
      obtain ⟨k, hk⟩ := List.mem_iff_getElem?.1 ho'
      have h3 := hmid k
      rw [hk] at h3
      by_cases hkn : p + k < n
      · rw [if_pos hkn] at h3
        exact h2 (p + k) (by omega) hkn (h3.symm.trans (by simpa using he'))
      · rw [if_neg hkn] at h3
        simp [he'] at h3
  · rw [hgp] at hl
    have hjp : j < p := (of_decide_eq_true hl).1
    have h1 := List.all_eq_true.1 hiv j (List.mem_range.2 hjp)
    rw [hoj] at h1
    have h2 := Array.all_eq_true_iff_forall_mem.1 h1 e he
    rw [hb] at h2
    have h3 : e.on < p := by simpa using h2
    rw [hgp]
    exact decide_eq_true ⟨h3, by omega⟩
  · refine getD_in (by simpa [headAll] using ht') ?_
    rw [hgp]
    exact decide_eq_false (by omega)
  · rw [hgp]
    exact decide_eq_true ⟨hi, by omega⟩
  · rw [hgp] at hl
    have := (of_decide_eq_true hl).1
    omega
  · refine hΦ _ _ _ _ _ (fun i hpi hi => ?_) (fun _ _ _ _ => rfl) h0
    rw [hgp]
    exact decide_eq_decide.2 ⟨fun h => ⟨h, by omega⟩, fun h => h.1⟩

/-- .. by facts that stay true. -/
theorem wp_region_peelF {id : Nat} {a b : Act} {w : World} {l : List Oper} (p n : Nat) (F : Nat → Value → World → Prop) (hm : P.follows .mixedOrders = true) (hB : peelHeadB l.toArray p n a.tmps.size = true)
    (hp : Peels P l.toArray (l.take p) a b) (hQ : ∀ c (b : Act) d v w, Q (.panic c) (b.put d v) w → Q (.panic c) b w)
    (hF : ∀ i v u u', Below u.heap.size u u' → F i v u → F i v u')
    (hstep : ∀ i o, p ≤ i → i < n → l[i]? = some o → ∀ (vs : Nat → Value) (u : World), Below w.heap.size w u → (∀ j, p ≤ j → j < n → waitB' l.toArray i j = true → F j (vs j) u) →
      wpList P l.toArray (StepQ (fillA b ((l.take n).drop p) p vs) o.dst fun v u' => Below u.heap.size u u' ∧ F i v u') [o] (fillA b ((l.take n).drop p) p vs) u)
    (hend : ∀ vs u, Below w.heap.size w u → (∀ i, p ≤ i → i < n → F i (vs i) u) → wpList P l.toArray Q (l.drop n) (fillA b ((l.take n).drop p) p vs) u) : (Code.region id l.toArray true).wp P Q a w := by
  refine wp_region_peel p n (fun L vs u => Below w.heap.size w u ∧ ∀ i, p ≤ i → i < n → L i = true → F i (vs i) u) hm hB hp hQ ?_ ⟨(Below.refl _ _).drew, fun i hpi _ h => by have := of_decide_eq_true h; omega⟩ ?_ ?_
  · intro L L' vs vs' u h1 h2 h3
    refine ⟨h3.1, fun i hpi hi hl => ?_⟩
    have hl2 : L i = true := (h1 i hpi hi).trans hl
    rw [← h2 i hpi hi hl2]
    exact h3.2 i hpi hi hl2
  · intro i o hpi hi hol L vs u hun hw hphi
    refine wpList_one_mono (fun v u' h1 => ?_) (hstep i o hpi hi hol vs u hphi.1 fun j hpj hj hwj => hphi.2 j hpj hj (hw j hwj))
    obtain ⟨hb, hf⟩ := h1
    refine ⟨hphi.1.trans (hb.mono hphi.1.size), fun j hpj hj hl => ?_⟩
    by_cases e : j = i
    · subst e; simp only [if_pos]; exact hf
    · simp only [if_neg e]
      have hlj : (L j || j == i) = true := hl
      have : (j == i) = false := by simp [e]
      rw [this, Bool.or_false] at hlj
      exact hF j _ _ _ hb (hphi.2 j hpj hj hlj)
  · intro vs u hphi
    exact hend vs u hphi.1 fun i hpi hi => hphi.2 i hpi hi rfl
end
end Go.Proofs.YtgflfdnajchjaaaGreatDoor
/- A region that draws its order and lays structs in memory: each is allocated, and stored whole, while the rest only reads. Nothing of the program is named here. -/
namespace Go.Proofs.YtgflfdnajchjaaaGreatDoor
set_option linter.unusedVariables false
set_option linter.unusedSimpArgs false
open Go.RowKit

def setFrom : Array Value → Nat → List Value → Array Value
  | cs, _, [] => cs
  | cs, o, v :: vs => setFrom (cs.setIfInBounds o v) (o + 1) vs
theorem setFrom_size : ∀ (vs : List Value) (cs : Array Value) (o : Nat), (setFrom cs o vs).size = cs.size
  | [], _, _ => rfl
  | v :: vs, cs, o => by rw [setFrom, setFrom_size vs]; simp
theorem setFrom_low : ∀ (vs : List Value) (cs : Array Value) (o k : Nat), k < o → (setFrom cs o vs)[k]? = cs[k]?
  | [], _, _, _, _ => rfl
  | v :: vs, cs, o, k, h => by
    rw [setFrom, setFrom_low vs _ _ _ (by omega), Array.getElem?_setIfInBounds_ne (by omega)]
theorem setFrom_at : ∀ (vs : List Value) (cs : Array Value) (o j : Nat), o + vs.length ≤ cs.size → j < vs.length → (setFrom cs o vs)[o + j]? = vs[j]?
  | [], _, _, _, _, h => absurd h (Nat.not_lt_zero _)
  | v :: vs, cs, o, 0, hs, _ => by
    rw [setFrom, setFrom_low vs _ _ _ (by omega)]
    simp only [List.length_cons] at hs
    simp [show o < cs.size by omega]
  | v :: vs, cs, o, j + 1, hs, h => by
    simp only [List.length_cons] at hs h
    rw [setFrom, show o + (j + 1) = (o + 1) + j by omega, setFrom_at vs _ _ _ (by simp; omega) (by omega)]
    rfl
theorem setFrom_all {vs : List Value} {cs : Array Value} (h : vs.length = cs.size) : setFrom cs 0 vs = vs.toArray := by
  apply Array.ext_getElem?
  intro k
  by_cases hk : k < vs.length
  · have := setFrom_at vs cs 0 k (by omega) hk
    rw [Nat.zero_add] at this
    rw [this, List.getElem?_toArray]
  · rw [Array.getElem?_eq_none (by rw [setFrom_size]; omega), Array.getElem?_eq_none (by simp; omega)]
theorem bx_set_same {w : World} {z k e : Nat} {cs : Array Value} {fz : Nat × Nat} (h : w.heap[z]? = some (.cells cs e fz)) (v : Value) : (w.setCell ⟨z, k, none⟩ v).heap[z]? = some (.cells (cs.setIfInBounds k v) e fz) := by
  simp [World.setCell, Array.getElem?_modify, h]
theorem bx_cells_same {z e : Nat} {fz : Nat × Nat} : ∀ (vs : List Value) (o : Nat) {w : World} {cs : Array Value}, w.heap[z]? = some (.cells cs e fz) → (w.setCells z o vs).heap[z]? = some (.cells (setFrom cs o vs) e fz)
  | [], _, _, _, h => h
  | v :: vs, o, w, cs, h => bx_cells_same vs (o + 1) (bx_set_same h v)
theorem bx_cells_other {z i : Nat} (hi : i ≠ z) : ∀ (vs : List Value) (o : Nat) {w : World}, (w.setCells z o vs).heap[i]? = w.heap[i]?
  | [], _, _ => rfl
  | v :: vs, o, w => (bx_cells_other hi vs (o + 1)).trans (Below.heap_setCell _ _ _ _ hi)
theorem bx_cells_base {B z : Nat} (hB : B ≤ z) : ∀ (vs : List Value) (o : Nat) (w : World), Below B w (w.setCells z o vs)
  | [], _, w => Below.refl _ _
  | v :: vs, o, w => ((Below.refl B w).setCell hB _).trans (bx_cells_base hB vs (o + 1) _)
theorem bx_there {w : World} {z e : Nat} {cs : Array Value} (h : w.heap[z]? = some (.cells cs e (0, 0))) : w.there z 0 cs.size := fun j hj => by
  rw [Nat.zero_add]
  refine ⟨?_, frozen_of_row w z j _ _ h⟩
  have : w.cell? ⟨z, j, none⟩ = some cs[j] := by simp [World.cell?, h, hj]
  rw [this]
  rfl
/-- A struct that the region allocates and stores: at which operations, of which type, its zero and what it gets. -/
structure Bx where
  al : Nat
  st : Nat
  ty : Nat
  z : Array Value
  f : Array Value
def bxIdx (l : List Bx) : List Nat := l.flatMap fun x => [x.al, x.st]
def bxB (ops : Array Oper) (p n : Nat) (l : List Bx) : Bool := (l.all fun x => decide (p ≤ x.al ∧ x.al < n ∧ p ≤ x.st ∧ x.al ≠ x.st) && waitB' ops x.st x.al) && decide (bxIdx l).Nodup
/-- The store has been done (one from number n on has not). -/
def bxL (n : Nat) (L : Nat → Bool) (i : Nat) : Bool := decide (i < n) && L i
theorem bx_al_mem {l : List Bx} {x : Bx} (h : x ∈ l) : x.al ∈ bxIdx l := List.mem_flatMap.2 ⟨x, h, by simp⟩
theorem bx_st_mem {l : List Bx} {x : Bx} (h : x ∈ l) : x.st ∈ bxIdx l := List.mem_flatMap.2 ⟨x, h, by simp⟩
theorem bx_apart : ∀ {l : List Bx}, (bxIdx l).Nodup → ∀ x ∈ l, ∀ y ∈ l, (x.al = y.al ∨ x.st = y.st → x = y) ∧ x.al ≠ y.st
  | [], _, x, hx, _, _ => by cases hx
  | a :: l, hn, x, hx, y, hy => by
    have hn' : (a.al :: a.st :: bxIdx l).Nodup := hn
    rw [List.nodup_cons, List.nodup_cons] at hn'
    obtain ⟨h1, h2, h3⟩ := hn'
    simp only [List.mem_cons, not_or] at h1
    rcases List.mem_cons.1 hx with rfl | hx' <;> rcases List.mem_cons.1 hy with rfl | hy'
    · exact ⟨fun _ => rfl, h1.1⟩
    · refine ⟨fun h => ?_, fun h => h1.2 (h ▸ bx_st_mem hy')⟩
      rcases h with h | h
      · exact absurd (h ▸ bx_al_mem hy') h1.2
      · exact absurd (h ▸ bx_st_mem hy') h2
    · refine ⟨fun h => ?_, fun h => h2 (h ▸ bx_al_mem hx')⟩
      rcases h with h | h
      · exact absurd (h ▸ bx_al_mem hx') h1.2
      · exact absurd (h ▸ bx_st_mem hx') h2
    · exact bx_apart h3 x hx' y hy'
structure BxSt (W : World) (p n : Nat) (F : Nat → Value → Prop) (bx : List Bx) (L : Nat → Bool) (vs : Nat → Value) (u : World) : Prop where
  b : Below W.heap.size W u
  f : ∀ i, p ≤ i → i < n → i ∉ bxIdx bx → L i = true → F i (vs i)
  x : ∀ x ∈ bx, L x.al = true → ∃ b, vs x.al = .pointer (some ⟨b, 0, none⟩) ∧ W.heap.size ≤ b ∧ u.heap[b]? = some (.cells (if bxL n L x.st = true then x.f else x.z) x.ty (0, 0))
  d : ∀ x ∈ bx, ∀ y ∈ bx, L x.al = true → L y.al = true → vs x.al = vs y.al → x = y
  s : ∀ x ∈ bx, bxL n L x.st = true → L x.al = true
section
variable {P : Program} {Q : Exit → Act → World → Prop}
/-- **A drawn region that lays structs.** -/
theorem wp_region_boxes {id : Nat} {a b : Act} {w : World} {l : List Oper} (p n : Nat) (F : Nat → Value → Prop) (bx : List Bx) (hm : P.follows .mixedOrders = true) (hB : peelHeadB l.toArray p n a.tmps.size = true) (hX : bxB l.toArray p n bx = true)
    (hp : Peels P l.toArray (l.take p) a b) (hQ : ∀ c (b : Act) d v w, Q (.panic c) (b.put d v) w → Q (.panic c) b w)
    (hsz : ∀ x ∈ bx, x.f.size = x.z.size)
    (hpure : ∀ i o, p ≤ i → i < n → l[i]? = some o → i ∉ bxIdx bx → ∀ (vs : Nat → Value) (u : World), Below w.heap.size w u → (∀ j, p ≤ j → j < n → j ∉ bxIdx bx → waitB' l.toArray i j = true → F j (vs j)) →
      wpList P l.toArray (StepQ (fillA b ((l.take n).drop p) p vs) o.dst fun v u' => u' = u ∧ F i v) [o] (fillA b ((l.take n).drop p) p vs) u)
    (halloc : ∀ x ∈ bx, ∀ o, l[x.al]? = some o → ∀ (vs : Nat → Value) (u : World),
      wpList P l.toArray (StepQ (fillA b ((l.take n).drop p) p vs) o.dst fun v u' => u' = u.alloc (.cells x.z x.ty) ∧ v = .pointer (some ⟨u.heap.size, 0, none⟩)) [o] (fillA b ((l.take n).drop p) p vs) u)
    (hstore : ∀ x ∈ bx, x.st < n → ∀ o, l[x.st]? = some o → ∀ (vs : Nat → Value) (u : World) (g : Nat), Below w.heap.size w u → vs x.al = .pointer (some ⟨g, 0, none⟩) → u.there g 0 x.f.size → (∀ j, p ≤ j → j < n → j ∉ bxIdx bx → waitB' l.toArray x.st j = true → F j (vs j)) →
      wpList P l.toArray (StepQ (fillA b ((l.take n).drop p) p vs) o.dst fun v u' => u' = u.setCells g 0 x.f.toList) [o] (fillA b ((l.take n).drop p) p vs) u)
    (hend : ∀ vs u, Below w.heap.size w u → (∀ i, p ≤ i → i < n → i ∉ bxIdx bx → F i (vs i)) → (∀ x ∈ bx, ∃ g, vs x.al = .pointer (some ⟨g, 0, none⟩) ∧ w.heap.size ≤ g ∧ u.heap[g]? = some (.cells (if x.st < n then x.f else x.z) x.ty (0, 0))) → (∀ x ∈ bx, ∀ y ∈ bx, vs x.al = vs y.al → x = y) →
      wpList P l.toArray Q (l.drop n) (fillA b ((l.take n).drop p) p vs) u) : (Code.region id l.toArray true).wp P Q a w := by
  unfold bxB at hX
  simp only [Bool.and_eq_true, List.all_eq_true, decide_eq_true_eq] at hX
  obtain ⟨hX1, hX2⟩ := hX
  have hap := bx_apart hX2
  refine wp_region_peel p n (BxSt w p n F bx) hm hB hp hQ ?_ ⟨(Below.refl _ _).drew, fun i hpi _ _ h => by have := of_decide_eq_true h; omega, fun x hx h => by have := of_decide_eq_true h; have := (hX1 x hx).1; omega, fun x hx y hy h => by have := of_decide_eq_true h; have := (hX1 x hx).1; omega, fun x hx h => by
      unfold bxL at h
      simp only [Bool.and_eq_true, decide_eq_true_eq] at h
      have := (hX1 x hx).1
      omega⟩ ?_ ?_
  · intro L L' vs vs' u h1 h2 S
    have hal : ∀ x ∈ bx, p ≤ x.al ∧ x.al < n := fun x hx => ⟨(hX1 x hx).1.1, (hX1 x hx).1.2.1⟩
    have hst : ∀ x ∈ bx, bxL n L x.st = bxL n L' x.st := fun x hx => by
      unfold bxL
      by_cases hc : x.st < n
      · rw [h1 _ (hX1 x hx).1.2.2.1 hc]
      · rw [decide_eq_false hc]; rfl
    refine ⟨S.b, fun i hpi hi hni hl => ?_, fun x hx hl => ?_, fun x hx y hy hl hl2 he => ?_, fun x hx hl => (h1 _ (hal x hx).1 (hal x hx).2).symm.trans (S.s x hx ((hst x hx).trans hl))⟩
    · have hl2 := (h1 i hpi hi).trans hl
      rw [← h2 i hpi hi hl2]
      exact S.f i hpi hi hni hl2
    · have hl2 := (h1 _ (hal x hx).1 (hal x hx).2).trans hl
      obtain ⟨g, e1, e2, e3⟩ := S.x x hx hl2
      refine ⟨g, ?_, e2, ?_⟩
      · rw [← h2 _ (hal x hx).1 (hal x hx).2 hl2]; exact e1
      · rw [← hst x hx]; exact e3
    · have hlx := (h1 _ (hal x hx).1 (hal x hx).2).trans hl
      have hly := (h1 _ (hal y hy).1 (hal y hy).2).trans hl2
      rw [← h2 _ (hal x hx).1 (hal x hx).2 hlx, ← h2 _ (hal y hy).1 (hal y hy).2 hly] at he
      exact S.d x hx y hy hlx hly he
  · intro i o hpi hi ho L vs u hL hw S
    have hor : ∀ j, (L j || j == i) = true → j ≠ i → L j = true := fun j hj hne => by
      have : (j == i) = false := beq_false_of_ne hne
      rwa [this, Bool.or_false] at hj
    have hor2 : ∀ j, j ≠ i → bxL n (fun j => L j || j == i) j = bxL n L j := fun j hne => by
      have : (j == i) = false := beq_false_of_ne hne
      unfold bxL
      simp only [this, Bool.or_false]
    have hfw : ∀ j, p ≤ j → j < n → j ∉ bxIdx bx → waitB' l.toArray i j = true → F j (vs j) := fun j hpj hj hnj hwj => S.f j hpj hj hnj (hw j hwj)
    by_cases hmem : i ∈ bxIdx bx
    · obtain ⟨x, hx, hix⟩ := List.mem_flatMap.1 hmem
      simp only [List.mem_cons, List.not_mem_nil, or_false] at hix
      rcases hix with rfl | rfl
      · -- an alloc
        refine wpList_one_mono (fun v u' h1 => ?_) (halloc x hx o ho vs u)
        obtain ⟨rfl, rfl⟩ := h1
        have hbk : ∀ (g : Nat) (cs : Array Value) (e : Nat) (fz : Nat × Nat), u.heap[g]? = some (.cells cs e fz) → (u.alloc (.cells x.z x.ty)).heap[g]? = some (.cells cs e fz) := fun g cs e fz h => by
          have hg : g < u.heap.size := (Array.getElem?_eq_some_iff.1 h).1
          rw [((Below.refl u.heap.size u).alloc (Nat.le_refl _) (.cells x.z x.ty)).block g hg]
          exact h
        have hxst : bxL n L x.st = false := by
          cases hc : bxL n L x.st with
          | false => rfl
          | true => have := S.s x hx hc; rw [hL] at this; cases this
        refine ⟨S.b.alloc S.b.size _, fun j hpj hj hnj hl => ?_, fun y hy hl => ?_, fun y hy y' hy' hl hl' he => ?_, fun y hy hl => ?_⟩
        · have hne : j ≠ x.al := fun e => hnj (e ▸ bx_al_mem hx)
          rw [if_neg hne]
          exact S.f j hpj hj hnj (hor j hl hne)
        · by_cases hyx : y.al = x.al
          · obtain rfl := (hap y hy x hx).1 (.inl hyx)
            rw [if_pos rfl]
            refine ⟨_, rfl, S.b.size, ?_⟩
            rw [hor2 _ (Ne.symm (hX1 y hx).1.2.2.2), hxst]
            exact (MapKept.heap_alloc u _).1
          · rw [if_neg hyx]
            obtain ⟨g, e1, e2, e3⟩ := S.x y hy (hor _ hl hyx)
            refine ⟨g, e1, e2, ?_⟩
            rw [hor2 _ (Ne.symm (hap x hx y hy).2)]
            exact hbk _ _ _ _ e3
        · have key : ∀ y ∈ bx, y.al ≠ x.al → L y.al = true → vs y.al ≠ .pointer (some ⟨u.heap.size, 0, none⟩) := fun y hy _ hl e => by
            obtain ⟨g, e1, e2, e3⟩ := S.x y hy hl
            rw [e1] at e
            injection e with e
            injection e with e
            injection e with e
            have := (Array.getElem?_eq_some_iff.1 e3).1
            omega
          by_cases h1 : y.al = x.al <;> by_cases h2 : y'.al = x.al
          · exact (hap y hy y' hy').1 (.inl (h1.trans h2.symm))
          · rw [if_pos h1, if_neg h2] at he
            exact absurd he.symm (key y' hy' h2 (hor _ hl' h2))
          · rw [if_neg h1, if_pos h2] at he
            exact absurd he (key y hy h1 (hor _ hl h1))
          · rw [if_neg h1, if_neg h2] at he
            exact S.d y hy y' hy' (hor _ hl h1) (hor _ hl' h2) he
        · have := S.s y hy ((hor2 _ (Ne.symm (hap x hx y hy).2)).symm.trans hl)
          show (L y.al || y.al == x.al) = true
          rw [this]; rfl
      · -- a store
        have hxa := hw x.al (hX1 x hx).2
        obtain ⟨g, e1, e2, e3⟩ := S.x x hx hxa
        have hq : bxL n L x.st = false := by unfold bxL; rw [hL, Bool.and_false]
        rw [hq] at e3
        have e4 : u.heap[g]? = some (.cells x.z x.ty (0, 0)) := e3
        have ht : u.there g 0 x.f.size := by rw [hsz x hx]; exact bx_there e4
        refine wpList_one_mono (fun v u' h1 => ?_) (hstore x hx hi o ho vs u g S.b e1 ht hfw)
        subst h1
        have hna : ∀ y ∈ bx, y.al ≠ x.st := fun y hy => (hap y hy x hx).2
        refine ⟨S.b.trans (bx_cells_base e2 _ _ _), fun j hpj hj hnj hl => ?_, fun y hy hl => ?_, fun y hy y' hy' hl hl' he => ?_, fun y hy hl => ?_⟩
        · have hne : j ≠ x.st := fun e => hnj (e ▸ bx_st_mem hx)
          rw [if_neg hne]
          exact S.f j hpj hj hnj (hor j hl hne)
        · rw [if_neg (hna y hy)]
          have hly := hor _ hl (hna y hy)
          by_cases hyx : y = x
          · subst hyx
            refine ⟨g, e1, e2, ?_⟩
            have hq2 : bxL n (fun j => L j || j == y.st) y.st = true := by unfold bxL; simp [hi]
            rw [hq2, bx_cells_same _ _ e4, setFrom_all (by simp [hsz y hx])]
            simp
          · obtain ⟨g', e1', e2', e3'⟩ := S.x y hy hly
            refine ⟨g', e1', e2', ?_⟩
            have hgg : g' ≠ g := fun e => hyx (S.d y hy x hx hly hxa (by rw [e1, e1', e]))
            have hst : y.st ≠ x.st := fun e => hyx ((hap y hy x hx).1 (.inr e))
            rw [hor2 _ hst, bx_cells_other hgg]
            exact e3'
        · rw [if_neg (hna y hy), if_neg (hna y' hy')] at he
          exact S.d y hy y' hy' (hor _ hl (hna y hy)) (hor _ hl' (hna y' hy')) he
        · have h5 : L y.al = true := by
            by_cases hyx : y = x
            · rw [hyx]; exact hxa
            · exact S.s y hy ((hor2 _ fun e => hyx ((hap y hy x hx).1 (.inr e))).symm.trans hl)
          show (L y.al || y.al == x.st) = true
          rw [h5]; rfl
    · refine wpList_one_mono (fun v u' h1 => ?_) (hpure i o hpi hi ho hmem vs u S.b hfw)
      obtain ⟨rfl, hf⟩ := h1
      have hna : ∀ y ∈ bx, y.al ≠ i := fun y hy e => hmem (e ▸ bx_al_mem hy)
      have hns : ∀ y ∈ bx, y.st ≠ i := fun y hy e => hmem (e ▸ bx_st_mem hy)
      refine ⟨S.b, fun j hpj hj hnj hl => ?_, fun y hy hl => ?_, fun y hy y' hy' hl hl' he => ?_, fun y hy hl => ?_⟩
      · by_cases e : j = i
        · subst e; rw [if_pos rfl]; exact hf
        · rw [if_neg e]
          exact S.f j hpj hj hnj (hor j hl e)
      · rw [if_neg (hna y hy)]
        obtain ⟨g, e1, e2, e3⟩ := S.x y hy (hor _ hl (hna y hy))
        exact ⟨g, e1, e2, by rw [hor2 _ (hns y hy)]; exact e3⟩
      · rw [if_neg (hna y hy), if_neg (hna y' hy')] at he
        exact S.d y hy y' hy' (hor _ hl (hna y hy)) (hor _ hl' (hna y' hy')) he
      · have h5 := S.s y hy ((hor2 _ (hns y hy)).symm.trans hl)
        show (L y.al || y.al == i) = true
        rw [h5]; rfl
  · intro vs u S
    refine hend vs u S.b (fun i hpi hi hni => S.f i hpi hi hni rfl) (fun x hx => ?_) (fun x hx y hy he => S.d x hx y hy rfl rfl he)
    obtain ⟨g, e1, e2, e3⟩ := S.x x hx rfl
    refine ⟨g, e1, e2, ?_⟩
    rw [e3]
    unfold bxL
    by_cases hc : x.st < n
    · rw [if_pos hc, decide_eq_true hc]; rfl
    · rw [if_neg hc, decide_eq_false hc]; rfl
end
end Go.Proofs.YtgflfdnajchjaaaGreatDoor
/- A region that draws its order and stores values into cells of one block that lies there: its operations up to number n come in any order (loads from other blocks, addresses, stores of one cell each); then the rest in order. Nothing of the program is named here. -/
namespace Go.Proofs.YtgflfdnajchjaaaGreatDoor
set_option linter.unusedVariables false
set_option linter.unusedSimpArgs false
open Go.RowKit
/-- A store of one cell: the operation's number, the cell's place, the value. -/
structure St1 where
  op : Nat
  off : Nat
  v : Value
def stIdx (l : List St1) : List Nat := l.map (·.op)
def st1B (ops : Array Oper) (p n m : Nat) (l : List St1) : Bool := (l.all fun x => decide (p ≤ x.op ∧ x.op < n ∧ x.off < m)) && decide (stIdx l).Nodup && decide (l.map (·.off)).Nodup
structure StSt (W : World) (z e : Nat) (cs0 : Array Value) (p n : Nat) (F : Nat → Value → Prop) (st : List St1) (L : Nat → Bool) (vs : Nat → Value) (u : World) : Prop where
  b : Below z W u
  sz : u.heap.size = W.heap.size
  k : ∀ i, i ≠ z → u.heap[i]? = W.heap[i]?
  z : ∃ cs, u.heap[z]? = some (.cells cs e (0, 0)) ∧ cs.size = cs0.size ∧ (∀ x ∈ st, L x.op = true → cs[x.off]? = some x.v) ∧ ∀ k, (∀ x ∈ st, L x.op = true → x.off ≠ k) → cs[k]? = cs0[k]?
  f : ∀ i, p ≤ i → i < n → i ∉ stIdx st → L i = true → F i (vs i)
theorem st1_inj : ∀ {l : List St1} {g : St1 → Nat}, (l.map g).Nodup → ∀ x ∈ l, ∀ y ∈ l, g x = g y → x = y
  | [], _, _, x, hx, _, _, _ => by cases hx
  | a :: l, g, hn, x, hx, y, hy, he => by
    rw [List.map_cons, List.nodup_cons] at hn
    rcases List.mem_cons.1 hx with rfl | hx' <;> rcases List.mem_cons.1 hy with rfl | hy'
    · rfl
    · exact absurd (he ▸ List.mem_map_of_mem (f := g) hy') hn.1
    · exact absurd (he ▸ List.mem_map_of_mem (f := g) hx') hn.1
    · exact st1_inj hn.2 x hx' y hy' he
theorem st_heap_same {w : World} {z k e : Nat} {cs : Array Value} {fz : Nat × Nat} (h : w.heap[z]? = some (.cells cs e fz)) (v : Value) : (w.setCell ⟨z, k, none⟩ v).heap[z]? = some (.cells (cs.setIfInBounds k v) e fz) := by
  simp only [World.setCell, Array.getElem?_modify, if_true, h, Option.map_some]
  rfl
theorem st_below {W u : World} {z k : Nat} {v : Value} (h : Below z W u) : Below z W (u.setCell ⟨z, k, none⟩ v) :=
  h.setCell (p := ⟨z, k, none⟩) (Nat.le_refl _) v
section
variable {P : Program} {Q : Exit → Act → World → Prop}
/-- **A drawn region that stores into cells of one block.** -/
theorem wp_region_stores {id : Nat} {a b : Act} {w : World} {l : List Oper} (p n : Nat) (F : Nat → Value → Prop) (z e : Nat) (cs0 : Array Value) (st : List St1) (hm : P.follows .mixedOrders = true) (hB : peelHeadB l.toArray p n a.tmps.size = true) (hX : st1B l.toArray p n cs0.size st = true)
    (hp : Peels P l.toArray (l.take p) a b) (hQ : ∀ c (b : Act) d v w, Q (.panic c) (b.put d v) w → Q (.panic c) b w)
    (hz : w.heap[z]? = some (.cells cs0 e (0, 0)))
    (hpure : ∀ i o, p ≤ i → i < n → l[i]? = some o → i ∉ stIdx st → ∀ (vs : Nat → Value) (u : World), (∀ i, i ≠ z → u.heap[i]? = w.heap[i]?) → (∀ j, p ≤ j → j < n → j ∉ stIdx st → waitB' l.toArray i j = true → F j (vs j)) →
      wpList P l.toArray (StepQ (fillA b ((l.take n).drop p) p vs) o.dst fun v u' => u' = u ∧ F i v) [o] (fillA b ((l.take n).drop p) p vs) u)
    (hstore : ∀ x ∈ st, ∀ o, l[x.op]? = some o → ∀ (vs : Nat → Value) (u : World) (cs : Array Value), u.heap[z]? = some (.cells cs e (0, 0)) → x.off < cs.size → (∀ j, p ≤ j → j < n → j ∉ stIdx st → waitB' l.toArray x.op j = true → F j (vs j)) →
      wpList P l.toArray (StepQ (fillA b ((l.take n).drop p) p vs) o.dst fun v u' => u' = u.setCell ⟨z, x.off, none⟩ x.v) [o] (fillA b ((l.take n).drop p) p vs) u)
    (hend : ∀ vs u, StSt w z e cs0 p n F st (fun _ => true) vs u → wpList P l.toArray Q (l.drop n) (fillA b ((l.take n).drop p) p vs) u) : (Code.region id l.toArray true).wp P Q a w := by
  unfold st1B at hX
  simp only [Bool.and_eq_true, List.all_eq_true, decide_eq_true_eq] at hX
  obtain ⟨⟨hX1, hX2⟩, hX3⟩ := hX
  refine wp_region_peel p n (StSt w z e cs0 p n F st) hm hB hp hQ ?_ ⟨(Below.refl _ _).drew, rfl, fun i _ => rfl, ⟨cs0, hz, rfl, fun x hx h => by have := of_decide_eq_true h; have := (hX1 x hx).1; omega, fun _ _ => rfl⟩, fun i hpi _ _ h => by have := of_decide_eq_true h; omega⟩ ?_ ?_
  · intro L L' vs vs' u h1 h2 S
    have ho : ∀ x ∈ st, L x.op = L' x.op := fun x hx => h1 _ (hX1 x hx).1 (hX1 x hx).2.1
    obtain ⟨cs, c1, c2, c3, c4⟩ := S.z
    refine ⟨S.b, S.sz, S.k, ⟨cs, c1, c2, fun x hx hl => c3 x hx ((ho x hx).trans hl), fun k hk => c4 k fun x hx hl => hk x hx ((ho x hx).symm.trans hl)⟩, fun i hpi hi hni hl => ?_⟩
    have hl2 := (h1 i hpi hi).trans hl
    rw [← h2 i hpi hi hl2]
    exact S.f i hpi hi hni hl2
  · intro i o hpi hi ho L vs u hL hw S
    have hor : ∀ j, (L j || j == i) = true → j ≠ i → L j = true := fun j hj hne => by
      have : (j == i) = false := beq_false_of_ne hne
      rwa [this, Bool.or_false] at hj
    have hfw : ∀ j, p ≤ j → j < n → j ∉ stIdx st → waitB' l.toArray i j = true → F j (vs j) := fun j hpj hj hnj hwj => S.f j hpj hj hnj (hw j hwj)
    by_cases hmem : i ∈ stIdx st
    · obtain ⟨x, hx, rfl⟩ := List.mem_map.1 hmem
      obtain ⟨cs, c1, c2, c3, c4⟩ := S.z
      have hox : x.off < cs.size := by rw [c2]; exact (hX1 x hx).2.2
      refine wpList_one_mono (fun v u' h1 => ?_) (hstore x hx o ho vs u cs c1 hox hfw)
      subst h1
      refine ⟨st_below S.b, (show (u.setCell ⟨z, x.off, none⟩ x.v).heap.size = w.heap.size by rw [show (u.setCell ⟨z, x.off, none⟩ x.v).heap.size = u.heap.size by simp [World.setCell]]; exact S.sz), fun i hi => (Below.heap_setCell _ _ _ _ hi).trans (S.k i hi), ⟨_, st_heap_same c1 _, by rw [Array.size_setIfInBounds]; exact c2, fun y hy hl => ?_, fun k hk => ?_⟩, fun j hpj hj hnj hl => ?_⟩
      · by_cases hyx : y = x
        · subst hyx
          simp [hox]
        · have hne : x.off ≠ y.off := fun e => hyx (st1_inj hX3 y hy x hx e.symm)
          rw [Array.getElem?_setIfInBounds_ne hne]
          exact c3 y hy (hor _ hl fun e => hyx (st1_inj hX2 y hy x hx e))
      · have hne : x.off ≠ k := hk x hx (by simp)
        rw [Array.getElem?_setIfInBounds_ne hne]
        exact c4 k fun y hy hl => hk y hy (by rw [hl]; rfl)
      · have hne : j ≠ x.op := fun e => hnj (e ▸ hmem)
        rw [if_neg hne]
        exact S.f j hpj hj hnj (hor j hl hne)
    · refine wpList_one_mono (fun v u' h1 => ?_) (hpure i o hpi hi ho hmem vs u S.k hfw)
      obtain ⟨rfl, hf⟩ := h1
      obtain ⟨cs, c1, c2, c3, c4⟩ := S.z
      have hns : ∀ y ∈ st, y.op ≠ i := fun y hy e => hmem (e ▸ List.mem_map_of_mem (f := (·.op)) hy)
      refine ⟨S.b, S.sz, S.k, ⟨cs, c1, c2, fun y hy hl => c3 y hy (hor _ hl (hns y hy)), fun k hk => c4 k fun y hy hl => hk y hy (by rw [hl]; rfl)⟩, fun j hpj hj hnj hl => ?_⟩
      by_cases e : j = i
      · subst e; rw [if_pos rfl]; exact hf
      · rw [if_neg e]
        exact S.f j hpj hj hnj (hor j hl e)
  · intro vs u S
    exact hend vs u S
end
end Go.Proofs.YtgflfdnajchjaaaGreatDoor
/- Rows of elements of k cells each: owned, copied, appended to. Nothing of the program is named here. -/
namespace Go.Proofs.YtgflfdnajchjaaaGreatDoor
set_option linter.unusedVariables false
set_option linter.unusedSimpArgs false
open Go.RowKit Go.Sort

/-- A slice of n elements of s cells each as it lies in memory. -/
def RowK (w : World) (a : Option Addr) (n s : Nat) (f : Nat → Value) : Prop := ∃ b m, (0 < n → a = some ⟨b, m, none⟩) ∧ ∀ j, j < n * s → w.cell? ⟨b, m + j, none⟩ = some (f j)
theorem RowK.mono {u w : World} {a : Option Addr} {n s : Nat} {f : Nat → Value} (R : RowK u a n s f) (hb : Below u.heap.size u w) : RowK w a n s f := by
  obtain ⟨b, m, h1, h2⟩ := R
  exact ⟨b, m, h1, fun k hk => up hb (h2 k hk)⟩
theorem RowK.congr {w : World} {a : Option Addr} {n s : Nat} {f g : Nat → Value} (R : RowK w a n s f) (h : ∀ j, j < n * s → g j = f j) : RowK w a n s g := by
  obtain ⟨b, m, h1, h2⟩ := R
  exact ⟨b, m, h1, fun k hk => by rw [h k hk]; exact h2 k hk⟩
theorem own_cellsK {w : World} {base e s n : Nat} {v : Value} {f : Nat → Value} (h : w.ownsRow base e s v n ((List.range (n * s)).map f)) :
    ∃ a c b, v = .slice a n c ∧ n ≤ c ∧ (0 < n → a = some ⟨b, 0, none⟩ ∧ base ≤ b ∧ b < w.heap.size ∧ ∀ o, w.frozen? ⟨b, o, none⟩ = false) ∧ ∀ j, j < n * s → w.cell? ⟨b, j, none⟩ = some (f j) := by
  have h' := h
  obtain ⟨_, ⟨hv, rfl⟩ | ⟨g, cap, cur, hv, hg, hh, hn, hm, hs, ht⟩⟩ := h
  · exact ⟨none, 0, 0, hv, Nat.le_refl _, fun h => absurd h (Nat.lt_irrefl _), fun i hi => absurd hi (by simp)⟩
  · subst hv
    refine ⟨_, cap, g, rfl, hn, fun _ => ⟨rfl, hg, (Array.getElem?_eq_some_iff.1 hh).1, fun o => h'.frozenAt o⟩, fun j hj => ?_⟩
    have h2 := congrArg (fun l => l[j]?) ht
    simp only [List.getElem?_take, List.getElem?_map, List.getElem?_range hj, Option.map_some, if_pos hj] at h2
    rw [cell_of_row w g j cur e (0, 0) hh]
    simpa using h2
theorem own_nilK (w : World) (base e s : Nat) (f : Nat → Value) : w.ownsRow base e s (.slice none 0 0) 0 ((List.range (0 * s)).map f) := by
  simp only [Nat.zero_mul]
  exact World.ownsRow_nil _ _ _ _
/-- An empty literal: a new block without cells. -/
theorem own_lit (w : World) (e s : Nat) : (w.alloc (.cells #[] e)).ownsRow w.heap.size e s (.slice (some ⟨w.heap.size, 0, none⟩) 0 0) 0 [] :=
  ⟨by simp, .inr ⟨w.heap.size, 0, #[], rfl, Nat.le_refl _, (MapKept.heap_alloc w _).1, Nat.le_refl _, by decide, by simp, by simp⟩⟩

variable {P : Program}
/-- 'append([]T{}, l...)': what lies behind holds the same cells in a new block. -/
theorem wpList_append_copy {ops : Array Oper} {rest : List Oper} {o : Oper} {a : Act} {Q : Exit → Act → World → Prop} (w : World) (hgd : o.guard = none) (sl x : Operand) (t : TypeId)
    (ho : o.op = .call { callee := .builtin .append, args := #[sl, x], argTypes := #[t, t] })
    (e : TypeId) (z : Value) (s bytes : Nat) (ht : P.underlying t = some (.slice e)) (hi : (P.info? e).map (fun i => (i.zero, i.size, i.bytes)) = some (some z, s, bytes)) (hzs : z.cells.size = s) (hs0 : 0 < s) (hbt : bytes ≤ 1000)
    (n c : Nat) (A : Addr) (f : Nat → Value) (hs : a.eval sl = .slice (some ⟨w.heap.size, 0, none⟩) 0 0) (hx : a.eval x = .slice (some A) n c)
    (hR : RowK w (some A) n s f) (h1 : ∀ j, (f j).oneCell' = true) (hn : n ≤ 1000000)
    (h : ∀ v' w', w'.ownsRow w.heap.size e s v' n ((List.range (n * s)).map f) → Below w.heap.size w w' → w.heap.size < w'.heap.size → wpList P ops Q rest (a.put o.dst v') w') :
    wpList P ops Q (o :: rest) a (w.alloc (.cells #[] e)) := by
  obtain ⟨i, hi1, hz, hsz, hby⟩ := info_split hi
  obtain ⟨b, m, hA, hc⟩ := hR
  have hnews : ∀ j u, ((List.range (n * s)).map f)[j]? = some u → (w.alloc (.cells #[] e)).cell? (A.add j) = some u := fun j u hu => by
    have hj : j < n * s := by have := (List.getElem?_eq_some_iff.1 hu).1; simpa using this
    rw [List.getElem?_map, List.getElem?_range hj] at hu
    have h0 : 0 < n := by
      rcases Nat.eq_zero_or_pos n with h | h
      · subst h; simp at hj
      · exact h
    rw [Option.some.inj (hA h0), Addr.add_mid, ← hu]
    exact up ((Below.refl _ _).alloc (Nat.le_refl _) _) (hc j hj)
  refine wpList_append_own _ hgd sl x t ho w.heap.size e i z s bytes ht hi1 hz hsz hby hzs hs0 _ 0 [] hs (own_lit w e s) A n c ((List.range (n * s)).map f) hx (by simp) hnews (fun u hu => ?_) (by unfold maxLen; omega) ?_ (by simp) ?_
  · obtain ⟨j, _, rfl⟩ := List.mem_map.1 hu
    exact h1 j
  · have : (0 + n) * bytes ≤ 1000000 * 1000 := Nat.mul_le_mul (by omega) hbt
    omega
  · intro v' w' hown hgrow _
    have hB : Below w.heap.size w w' := ((Below.refl w.heap.size w).alloc (Nat.le_refl _) (.cells #[] e)).grown hgrow (by simp) (fun k hk => by simp [Value.ownBlock] at hk; omega)
    refine h v' w' (by simpa using hown) hB ?_
    have := hgrow.size
    simp at this
    omega
/-- One element of s cells is appended to a row of one's own: it lies in a new block. -/
theorem wpList_append_elem {ops : Array Oper} {rest : List Oper} {o : Oper} {a : Act} {Q : Exit → Act → World → Prop} (w W0 : World) (base : Nat) (hgd : o.guard = none) (sl x : Operand) (t : TypeId)
    (ho : o.op = .call { callee := .builtin .append, args := #[sl, x], argTypes := #[t, t] })
    (e : TypeId) (z : Value) (s bytes : Nat) (ht : P.underlying t = some (.slice e)) (hi : (P.info? e).map (fun i => (i.zero, i.size, i.bytes)) = some (some z, s, bytes)) (hzs : z.cells.size = s) (hs0 : 0 < s) (hbt : bytes ≤ 1000)
    (v : Value) (n : Nat) (f : Nat → Value) (hs : a.eval sl = v) (u : Array Value) (hx : a.eval x = .slice (some ⟨w.heap.size, 0, none⟩) 1 1) (hus : u.size = s) (hu1 : ∀ y ∈ u.toList, y.oneCell' = true)
    (g : Nat → Value) (hg : ∀ j, j < n * s → g j = f j) (hgu : ∀ j, j < s → u[j]? = some (g (n * s + j)))
    (hown : w.ownsRow base e s v n ((List.range (n * s)).map f)) (hB : Below base W0 w) (hbase : base ≤ w.heap.size) (hn : n + 1 ≤ 1000000)
    (h : ∀ v' w', w'.ownsRow base e s v' (n + 1) ((List.range ((n + 1) * s)).map g) → Below base W0 w' → w.heap.size ≤ w'.heap.size → w.grownBy w' v.ownBlock → (v'.ownBlock = v.ownBlock ∨ v'.ownBlock = some (w.heap.size + 1)) → wpList P ops Q rest (a.put o.dst v') w') :
    wpList P ops Q (o :: rest) a (w.alloc (.cells u e)) := by
  obtain ⟨i, hi1, hz, hsz, hby⟩ := info_split hi
  refine wpList_append_own_at _ hgd sl x t ho base e i z s bytes ht hi1 hz hsz hby hzs hs0 v n _ hs (hown.alloc _) ⟨w.heap.size, 0, none⟩ 1 1 u.toList hx (by simp [hus]) (fun j v' hj => ?_) hu1 (by unfold maxLen; omega) ?_ (by simp; omega) ?_
  · rw [Addr.add_mid, Nat.zero_add]
    rw [cell_of_row _ w.heap.size j u e (0, 0) (MapKept.heap_alloc w _).1]
    simpa using hj
  · have : (n + 1) * bytes ≤ 1000000 * 1000 := Nat.mul_le_mul hn hbt
    omega
  · intro v' w' h2 h3 _ h5
    have h4 : w.heap.size ≤ w'.heap.size := by have := h3.size; simp at this; omega
    have e1 : (List.range (n * s)).map f ++ u.toList = (List.range ((n + 1) * s)).map g := by
      rw [show (n + 1) * s = n * s + s by rw [Nat.add_mul, Nat.one_mul]]
      refine List.ext_getElem? fun j => ?_
      by_cases hj : j < n * s
      · rw [List.getElem?_append_left (by simpa using hj), List.getElem?_map, List.getElem?_map, List.getElem?_range hj, List.getElem?_range (by omega)]
        simp [hg j hj]
      · rw [List.getElem?_append_right (by simp; omega)]
        simp only [List.length_map, List.length_range]
        by_cases hj2 : j < n * s + s
        · rw [List.getElem?_map, List.getElem?_range hj2]
          have := hgu (j - n * s) (by omega)
          rw [show n * s + (j - n * s) = j by omega] at this
          simpa using this
        · rw [List.getElem?_eq_none (by simp; omega), List.getElem?_eq_none (by simp [hus]; omega)]
    rw [e1] at h2
    refine h v' w' h2 ?_ h4 ⟨h3.os, h3.tape, h3.output, h4, fun i hi hne => ?_⟩ (by simpa using h5)
    · exact (hB.alloc hbase _).grown h3 (by simp; omega) (fun k hk => (hown.lt k hk).1)
    · exact (h3.block i (by simp; omega) hne).trans (Below.heap_alloc _ _ _ hi)
/-- .. from whatever block of one element. -/
theorem wpList_append_at {ops : Array Oper} {rest : List Oper} {o : Oper} {a : Act} {Q : Exit → Act → World → Prop} (w : World) (base : Nat) (hgd : o.guard = none) (sl x : Operand) (t : TypeId)
    (ho : o.op = .call { callee := .builtin .append, args := #[sl, x], argTypes := #[t, t] })
    (e : TypeId) (z : Value) (s bytes : Nat) (ht : P.underlying t = some (.slice e)) (hi : (P.info? e).map (fun i => (i.zero, i.size, i.bytes)) = some (some z, s, bytes)) (hzs : z.cells.size = s) (hs0 : 0 < s) (hbt : bytes ≤ 1000)
    (v : Value) (n : Nat) (f : Nat → Value) (hs : a.eval sl = v) (b : Nat) (cs : Array Value) (fz : Nat × Nat) (hx : a.eval x = .slice (some ⟨b, 0, none⟩) 1 1) (hcs : w.heap[b]? = some (.cells cs e fz)) (hus : cs.size = s) (hu1 : ∀ y ∈ cs.toList, y.oneCell' = true)
    (g : Nat → Value) (hg : ∀ j, j < n * s → g j = f j) (hgu : ∀ j, j < s → cs[j]? = some (g (n * s + j)))
    (hown : w.ownsRow base e s v n ((List.range (n * s)).map f)) (hbase : base ≤ w.heap.size) (hn : n + 1 ≤ 1000000)
    (h : ∀ v' w', w'.ownsRow base e s v' (n + 1) ((List.range ((n + 1) * s)).map g) → w.grownBy w' v.ownBlock → (v'.ownBlock = v.ownBlock ∨ v'.ownBlock = some w.heap.size) → wpList P ops Q rest (a.put o.dst v') w') :
    wpList P ops Q (o :: rest) a w := by
  obtain ⟨i, hi1, hz, hsz, hby⟩ := info_split hi
  refine wpList_append_own_at _ hgd sl x t ho base e i z s bytes ht hi1 hz hsz hby hzs hs0 v n _ hs hown ⟨b, 0, none⟩ 1 1 cs.toList hx (by simp [hus]) (fun j v' hj => ?_) hu1 (by unfold maxLen; omega) ?_ hbase ?_
  · rw [Addr.add_mid, Nat.zero_add, cell_of_row _ b j cs e fz hcs]
    simpa using hj
  · have : (n + 1) * bytes ≤ 1000000 * 1000 := Nat.mul_le_mul hn hbt
    omega
  · intro v' w' h2 h3 _ h5
    have e1 : (List.range (n * s)).map f ++ cs.toList = (List.range ((n + 1) * s)).map g := by
      rw [show (n + 1) * s = n * s + s by rw [Nat.add_mul, Nat.one_mul]]
      refine List.ext_getElem? fun j => ?_
      by_cases hj : j < n * s
      · rw [List.getElem?_append_left (by simpa using hj), List.getElem?_map, List.getElem?_map, List.getElem?_range hj, List.getElem?_range (by omega)]
        simp [hg j hj]
      · rw [List.getElem?_append_right (by simp; omega)]
        simp only [List.length_map, List.length_range]
        by_cases hj2 : j < n * s + s
        · rw [List.getElem?_map, List.getElem?_range hj2]
          have := hgu (j - n * s) (by omega)
          rw [show n * s + (j - n * s) = j by omega] at this
          simpa using this
        · rw [List.getElem?_eq_none (by simp; omega), List.getElem?_eq_none (by simp [hus]; omega)]
    rw [e1] at h2
    exact h v' w' h2 h3 h5
end Go.Proofs.YtgflfdnajchjaaaGreatDoor
