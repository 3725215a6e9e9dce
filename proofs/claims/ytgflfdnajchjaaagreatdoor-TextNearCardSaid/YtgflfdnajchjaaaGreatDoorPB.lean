import Derived.StillTail
import Derived.Lib.QuietBelow
import Derived.BigQuiet
import Derived.ProofKit
import Derived.OpenShut
import Derived.SizedLaws
import Derived.Deep.Slices
import Derived.WalkKit
import Derived.WalkSpells
import Derived.WalkLawsBesides
import Derived.Lib.Hide
import Derived.Deep.MidRow
import Derived.OwnWalk
import Derived.Maps.AppendAt
import Derived.Laws.AppendOwn
import Derived.HandedShaped
import Derived.Handed
import Derived.Orders
import Derived.Maps.Keyed
set_option linter.unusedVariables false
set_option linter.unusedSimpArgs false
namespace Go.Proofs.YtgflfdnajchjaaaGreatDoor
open Go.Lib (hid)
open Go.RowKit
section
variable {α : Type} {a b : α} {l : List α} {i : Nat}
theorem fA : (a :: l).take (i + 1) = a :: l.take i := List.take_succ_cons
theorem fB : l.take 0 = [] := List.take_zero
theorem fC : (a :: l).drop (i + 1) = l.drop i := List.drop_succ_cons
theorem fD : l.drop 0 = l := List.drop_zero
theorem fE : l.toArray.setIfInBounds i a = (l.set i a).toArray := List.setIfInBounds_toArray ..
theorem fF : (a :: l).set (i + 1) b = a :: l.set i b := List.set_cons_succ
theorem fG : (a :: l).set 0 b = b :: l := List.set_cons_zero
theorem fH (n : Nat) : 0 + n = n := Nat.zero_add n
theorem oI (h : some a = some b) : a = b := Option.some.inj h
theorem bR {n : Nat} {w : World} : Below n w w := Below.refl n w
end
section
open Go.RowKit Go.Sort
section
variable {P : Program} {ops : Array Oper} {C : World → Prop} {n : Nat}
def headAny (P : Program) (ops : Array Oper) (C : World → Prop) (n : Nat) (L : Array Bool → Act → Prop) : Nat → Array Bool → Act → Prop
 | 0, listed, a => L listed a
 | f + 1, listed, a => Region.ready .any ops listed ≠ [] ∧ ∀ i ∈ Region.ready .any ops listed, i < n ∧ qOp P ops C i (headAny P ops C n L f (listed.setIfInBounds i true)) a
theorem headAny.wp {g : Nat} {L : Array Bool → Act → Prop} {Q : Exit → Act → World → Prop} (hL : ∀ listed a w, C w → L listed a → wpAny P .any ops Q g listed a w) :
 ∀ (f : Nat) (listed : Array Bool) (a : Act) (w : World), C w → headAny P ops C n L f listed a → wpAny P .any ops Q (f + g) listed a w
 | 0, listed, a, w, hC, h => by rw [Nat.zero_add]; exact hL _ _ _ hC h
 | f + 1, listed, a, w, hC, h => by
   rw [show f + 1 + g = (f + g) + 1 from by omega]
   exact ⟨fun h0 => absurd h0 h.1, fun i hi => wpOp_of_qOp hC (fun a' w' hC' hk => headAny.wp hL f _ a' w' hC' hk) (h.2 i hi).2⟩
theorem headAny.first {i : Nat} {oi : Oper} {v : Value} {L : Array Bool → Act → Prop} (hi : ops[i]? = some oi) (hsel : Region.noSelect ops = true) (hs : Region.sinkB .any ops n = true) (hc : Region.chainB .any ops n = true)
 (hn : n < ops.size) (hin : i < n) (hdone : ∀ listed a, L listed a → ∀ j ∈ Region.ready .any ops listed, n ≤ j) :
 ∀ (f : Nat) (listed : Array Bool) (a : Act), HeadInv .any ops n listed →
   (∀ j oj, ops[j]? = some oj → j ≠ i → listed.getD j true = false → (∀ e ∈ oj.after, Region.binds .any e = true → e.on ≠ i) → oi.apart ops oj = true) →
   i ∈ Region.ready .any ops listed → YieldsIn P ops C oi v a → headAny P ops C n L f (listed.setIfInBounds i true) (a.put oi.dst v) → headAny P ops C n L (f + 1) listed a
 | f, listed, a, inv, hfree, hr, hy, H => by
   have hun := (mem_ready.1 hr).1
   refine ⟨(fun h0 => by rw [h0] at hr; cases hr), fun j hj => ?_⟩
   have hjn : j < n := Nat.lt_of_not_le fun hle => tail_waits hs hc hn inv _ i rfl hin hun j hle hj
   refine ⟨hjn, ?_⟩
   by_cases hji : j = i
   · subst hji; exact hy.qOp hi H
   · cases f with
     | zero => exact absurd (hdone _ _ H j (ready_mono hj hji)) (by omega)
     | succ f =>
       have h1 := (H.2 j (ready_mono hj hji)).2
       obtain ⟨hjun, oj, hoj, hall⟩ := mem_ready.1 hj
       have hnot : ∀ e ∈ oj.after, Region.binds .any e = true → e.on ≠ i := fun e he hb heq => by
        have h2 := hall e he hb
        rw [heq, getD_both hun] at h2
        cases h2
       have h2 := qOp_put hoj (hfree j oj hoj hji hjun hnot) (fun cs b => Region.noSelect_spec hsel i oi cs b hi) (fun cs b => Region.noSelect_spec hsel j oj cs b hoj) hy h1
       refine qOp_mono (fun a' h3 => headAny.first hi hsel hs hc hn hin hdone f (listed.setIfInBounds j true) a' (inv.set hj hjn) (fun k ok hk hki hku hno => ?_) (ready_mono hr (Ne.symm hji)) h3.1 ?_) h2
       · refine hfree k ok hk hki ?_ hno
         by_cases hjk : j = k
         · subst hjk; exact hjun
         · rw [getD_set_ne true hjk] at hku; exact hku
       · rw [Array.setIfInBounds_comm _ _ hji]
         exact h3.2
end
end
section
open Go.RowKit Go.ChangeShapes Go.WideShapes Go.ChangeAt
def Rd (P : Program) (W : World) (t : TypeId) (cs : List Value) : Prop :=
 ∃ (H : Type) (enc : TypeId × Value → H) (fuel : Nat) (x : DataW H × List MemPlace), DataW.trod enc P W 0 (fun _ => true) true fuel t cs = some x ∧ ∀ n ∈ x.1.weights P t, n ≤ reachBytes
theorem Rd.int {P : Program} {W : World} {t : TypeId} {cs : List Value} {k : IntKind} (h : Rd P W t cs) (ht : P.underlying t = some (.int k)) : ∃ n, cs = [.int k n] ∧ (Lit.int k n).wf = true := by
 obtain ⟨H, enc, fuel, x, hx, _⟩ := h
 obtain ⟨n, h1, _, h3⟩ := DataW.trod_int ht hx
 exact ⟨n, h1, h3⟩
theorem Rd.bool {P : Program} {W : World} {t : TypeId} {cs : List Value} (h : Rd P W t cs) (ht : P.underlying t = some .bool) : ∃ b, cs = [.bool b] := by
 obtain ⟨H, enc, fuel, x, hx, _⟩ := h
 obtain ⟨b, h1, _⟩ := DataW.trod_bool ht hx
 exact ⟨b, h1⟩
theorem Rd.string {P : Program} {W : World} {t : TypeId} {cs : List Value} (h : Rd P W t cs) (ht : P.underlying t = some .string) : ∃ s : ByteArray, cs = [.string s] ∧ s.size ≤ reachBytes := by
 obtain ⟨H, enc, fuel, x, hx, hw⟩ := h
 obtain ⟨s, h1, h2, h3⟩ := DataW.trod_string ht hx
 subst h2
 refine ⟨s, h1, ?_⟩
 have := hw s.data.toList.length (by simp [DataW.weights])
 simpa using this
theorem weightsAll_mem {H : Type} {P : Program} {e : TypeId} : ∀ {ds : List (DataW H)} {i : Nat} {d : DataW H}, ds[i]? = some d → ∀ n ∈ d.weights P e, n ∈ DataW.weightsAll P e ds
 | d0 :: ds, 0, d, hd, n, hn => by
   simp only [List.getElem?_cons_zero, Option.some.injEq] at hd
   subst hd
   simp only [DataW.weightsAll, List.mem_append]
   exact Or.inl hn
 | d0 :: ds, j + 1, d, hd, n, hn => by
   simp only [List.getElem?_cons_succ] at hd
   simp only [DataW.weightsAll, List.mem_append]
   exact Or.inr (weightsAll_mem hd n hn)
 | [], _, _, hd, _, _ => by simp at hd
theorem Rd.slice {P : Program} {W : World} {t e : TypeId} {cs : List Value} (h : Rd P W t cs) (ht : P.underlying t = some (.slice e)) :
 cs = [.slice none 0 0] ∨ ∃ (a : Addr) (len cap : Nat), cs = [.slice (some a) len cap] ∧ len ≤ cap ∧ cap ≤ maxLen ∧ cap * P.bytesOf e ≤ reachBytes ∧
  ∀ i, i < cap → ∃ cs', W.cells? 0 (a.add (i * P.cellsOf e)) (P.cellsOf e) = some cs' ∧ Rd P W e cs' := by
 obtain ⟨H, enc, fuel, x, hx, hw⟩ := h
 rcases DataW.trod_slice ht hx with ⟨h1, _⟩ | ⟨a, len, cap, elems, rest, n, rfl, rfl, rfl, hb, hl, hm, hlen, hel, hsp, _⟩
 · exact Or.inl h1
 right
 obtain ⟨hrl, hr⟩ := hsp rfl
 simp only [DataW.weights, ht] at hw
 refine ⟨a, len, cap, rfl, hl, hm, ?_, fun i hi => ?_⟩
 · have := hw _ (List.mem_cons_self ..)
   rwa [List.length_map, List.length_map, hlen, hrl, show len + (cap - len) = cap by omega] at this
 · by_cases hil : i < len
   · have h1 := hel i hil
     have hlt : i < elems.length := by omega
     rw [List.getElem?_eq_getElem hlt] at h1
     obtain ⟨cs', h2, h3⟩ := Option.bind_eq_some_iff.1 h1
     refine ⟨cs', h2, H, enc, n, elems[i], h3, fun k hk => hw k (List.mem_cons_of_mem _ (List.mem_append.2 (Or.inl ?_)))⟩
     refine weightsAll_mem (i := i) (d := elems[i].1) ?_ k hk
     rw [List.getElem?_map, List.getElem?_eq_getElem hlt]; rfl
   · have h1 := hr (i - len) (by omega)
     have hlt : i - len < rest.length := by omega
     rw [show len + (i - len) = i by omega, List.getElem?_eq_getElem hlt] at h1
     obtain ⟨cs', h2, h3⟩ := Option.bind_eq_some_iff.1 h1
     refine ⟨cs', h2, H, enc, n, rest[i - len], h3, fun k hk => hw k (List.mem_cons_of_mem _ (List.mem_append.2 (Or.inr ?_)))⟩
     refine weightsAll_mem (i := i - len) (d := (rest[i - len]).1) ?_ k hk
     rw [List.getElem?_map, List.getElem?_eq_getElem hlt]; rfl
theorem cells_at {W : World} {n : Nat} {cs : List Value} {a : Addr} (h : W.cells? 0 a n = some cs) (hn : 0 < n) : ∃ b o, a = ⟨b, o, none⟩ ∧ cs.length = n ∧ ∀ j, j < n → W.cell? ⟨b, o + j, none⟩ = cs[j]? := by
 obtain ⟨_, hl, hc⟩ := World.cells?_some h
 obtain ⟨b, o, s⟩ := a
 have h0 := hc 0 (by omega)
 have hs : s = none := by
  cases s with
  | none => rfl
  | some x =>
    rw [List.getElem?_eq_getElem (by omega)] at h0
    simp only [Addr.add, World.cell?] at h0
    split at h0 <;> simp_all
 subst hs
 refine ⟨b, o, rfl, hl, fun j hj => ?_⟩
 have := hc j hj
 by_cases hj0 : j = 0
 · subst hj0; simpa [Addr.add] using this
 · simpa [Addr.add, hj0] using this
theorem Rd.rows {P : Program} {W : World} {t e n : Nat} {cs : List Value} (h : Rd P W t cs) (ht : P.underlying t = some (.slice e)) (hn : P.cellsOf e = n) (h0 : 0 < n) :
 ∃ (a : Option Addr) (len cap b m : Nat) (C : Nat → List Value), cs = [.slice a len cap] ∧ len ≤ cap ∧ cap ≤ maxLen ∧ cap * P.bytesOf e ≤ reachBytes ∧ (0 < cap → a = some ⟨b, m, none⟩) ∧ (a = none → cap = 0) ∧
   ∀ k, k < cap → (C k).length = n ∧ Rd P W e (C k) ∧ ∀ j, j < n → W.cell? ⟨b, m + (k * n + j), none⟩ = (C k)[j]? := by
 rcases h.slice ht with h1 | ⟨a, len, cap, h1, hl, hm, hr, hc⟩
 · exact ⟨none, 0, 0, 0, 0, fun _ => [], h1, Nat.le_refl _, by decide, by simp [reachBytes], fun h => absurd h (Nat.lt_irrefl _), fun _ => rfl, fun k hk => absurd hk (Nat.not_lt_zero _)⟩
 · by_cases h0c : 0 < cap
   · obtain ⟨C, hC⟩ := Deep.choose_lt (α := List Value) hc
     rw [hn] at hC
     obtain ⟨b, m, hbm, _, _⟩ := cells_at (hC 0 h0c).1 h0
     have ha : a = ⟨b, m, none⟩ := by simpa [Addr.add] using hbm
     subst ha
     refine ⟨some ⟨b, m, none⟩, len, cap, b, m, C, h1, hl, hm, hr, fun _ => rfl, (fun h => by cases h), fun k hk => ?_⟩
     obtain ⟨b', m', hbm', hlen, hcell⟩ := cells_at (hC k hk).1 h0
     refine ⟨hlen, (hC k hk).2, fun j hj => ?_⟩
     have e1 : b' = b ∧ m' = m + k * n := by
      unfold Addr.add at hbm'
      split at hbm'
      · rename_i hz
        injection hbm' with x y z
        exact ⟨x.symm, by omega⟩
      · injection hbm' with x y z
        exact ⟨x.symm, y.symm⟩
     obtain ⟨rfl, rfl⟩ := e1
     rw [← hcell j hj, Nat.add_assoc]
   · have : cap = 0 := by omega
     subst this
     exact ⟨some a, len, 0, 0, 0, fun _ => [], h1, hl, hm, hr, fun h => absurd h (Nat.lt_irrefl _), fun _ => rfl, fun k hk => absurd hk (Nat.not_lt_zero _)⟩
theorem Rd.ints {P : Program} {W : World} {t e : Nat} {cs : List Value} {κ : IntKind} (h : Rd P W t cs) (ht : P.underlying t = some (.slice e)) (he : P.underlying e = some (.int κ)) (hn : P.cellsOf e = 1) :
 ∃ (a : Option Addr) (len cap b m : Nat) (xs : Nat → Int), cs = [.slice a len cap] ∧ len ≤ cap ∧ cap ≤ maxLen ∧ cap * P.bytesOf e ≤ reachBytes ∧ (0 < cap → a = some ⟨b, m, none⟩) ∧ (a = none → cap = 0) ∧
   ∀ k, k < cap → W.cell? ⟨b, m + k, none⟩ = some (.int κ (xs k)) ∧ (Lit.int κ (xs k)).wf = true := by
 obtain ⟨a, len, cap, b, m, C, h1, h2, h3, h4, h5, h6, h7⟩ := h.rows ht hn Nat.one_pos
 obtain ⟨xs, hxs⟩ := Deep.choose_lt (α := Int) (n := cap) (p := fun k x => C k = [.int κ x] ∧ (Lit.int κ x).wf = true) fun k hk => (h7 k hk).2.1.int he
 refine ⟨a, len, cap, b, m, xs, h1, h2, h3, h4, h5, h6, fun k hk => ?_⟩
 have := (h7 k hk).2.2 0 Nat.one_pos
 rw [(hxs k hk).1] at this
 exact ⟨by simpa using this, (hxs k hk).2⟩
def Arg (P : Program) (W : World) (base : Nat) (t : TypeId) (v : Value) : Prop := Value.okWide P W .any base t v ∧ Rd P W t v.cells.toList
theorem Arg.int {P : Program} {W : World} {base : Nat} {t : TypeId} {v : Value} {k : IntKind} (h : Arg P W base t v) (ht : P.underlying t = some (.int k)) : ∃ n, v = .int k n ∧ (Lit.int k n).wf = true := by
 obtain ⟨n, rfl⟩ := okWide_int ht h.1
 obtain ⟨m, h1, h2⟩ := h.2.int ht
 simp [Value.cells] at h1
 subst h1
 exact ⟨n, rfl, h2⟩
theorem Arg.bool {P : Program} {W : World} {base : Nat} {t : TypeId} {v : Value} (h : Arg P W base t v) (ht : P.underlying t = some .bool) : ∃ b, v = .bool b := okWide_bool ht h.1
theorem Arg.string {P : Program} {W : World} {base : Nat} {t : TypeId} {v : Value} (h : Arg P W base t v) (ht : P.underlying t = some .string) : ∃ s, v = .string s ∧ s.size ≤ reachBytes := by
 obtain ⟨s, rfl⟩ := okWide_string ht h.1
 obtain ⟨m, h1, h2⟩ := h.2.string ht
 simp [Value.cells] at h1
 subst h1
 exact ⟨s, rfl, h2⟩
theorem Arg.rows {P : Program} {W : World} {base : Nat} {t e n : Nat} {v : Value} (h : Arg P W base t v) (ht : P.underlying t = some (.slice e)) (hn : P.cellsOf e = n) (h0 : 0 < n) :
 ∃ (a : Option Addr) (len cap b m : Nat) (C : Nat → List Value), v = .slice a len cap ∧ len ≤ cap ∧ cap ≤ maxLen ∧ cap * P.bytesOf e ≤ reachBytes ∧ (0 < cap → a = some ⟨b, m, none⟩) ∧ (a = none → cap = 0) ∧
   ∀ k, k < cap → (C k).length = n ∧ Rd P W e (C k) ∧ ∀ j, j < n → W.cell? ⟨b, m + (k * n + j), none⟩ = (C k)[j]? := by
 obtain ⟨a, len, cap, rfl⟩ := okWide_slice ht h.1
 obtain ⟨a', len', cap', b, m, C, h1, h2⟩ := h.2.rows ht hn h0
 simp [Value.cells] at h1
 obtain ⟨rfl, rfl, rfl⟩ := h1
 exact ⟨a, len, cap, b, m, C, rfl, h2⟩
theorem Arg.ints {P : Program} {W : World} {base : Nat} {t e : Nat} {v : Value} {κ : IntKind} (h : Arg P W base t v) (ht : P.underlying t = some (.slice e)) (he : P.underlying e = some (.int κ)) (hn : P.cellsOf e = 1) :
 ∃ (a : Option Addr) (len cap b m : Nat) (xs : Nat → Int), v = .slice a len cap ∧ len ≤ cap ∧ cap ≤ maxLen ∧ cap * P.bytesOf e ≤ reachBytes ∧ (0 < cap → a = some ⟨b, m, none⟩) ∧ (a = none → cap = 0) ∧
   ∀ k, k < cap → W.cell? ⟨b, m + k, none⟩ = some (.int κ (xs k)) ∧ (Lit.int κ (xs k)).wf = true := by
 obtain ⟨a, len, cap, rfl⟩ := okWide_slice ht h.1
 obtain ⟨a', len', cap', b, m, C, h1, h2⟩ := h.2.ints ht he hn
 simp [Value.cells] at h1
 obtain ⟨rfl, rfl, rfl⟩ := h1
 exact ⟨a, len, cap, b, m, C, rfl, h2⟩
theorem trodAll_split {H : Type} {enc : TypeId × Value → H} {P : Program} {W : World} : ∀ {ts : List TypeId} {vs : List Value} {ds : List (DataW H)} {ps : List MemPlace}, DataW.TrodAll enc P W 0 (fun _ => true) true ts vs ds ps →
 (DataW.weightsEach P ts ds).all (· ≤ reachBytes) = true → ds.length = ts.length ∧ ∀ (j : Nat) (t : TypeId) (v : Value), ts[j]? = some t → vs[j]? = some v → Rd P W t v.cells.toList
 | [], [], [], _, _, _ => ⟨rfl, fun j t v h _ => by simp at h⟩
 | t0 :: ts, v0 :: vs, d0 :: ds, ps, h, hw => by
   obtain ⟨p, q, ⟨fuel, h0⟩, hr, _⟩ := h
   simp only [DataW.weightsEach, List.all_append, Bool.and_eq_true] at hw
   obtain ⟨hl, ih⟩ := trodAll_split hr hw.2
   refine ⟨by simp [hl], fun j t v ht hv => ?_⟩
   cases j with
   | zero =>
     simp only [List.getElem?_cons_zero, Option.some.injEq] at ht hv
     subst ht; subst hv
     exact ⟨H, enc, fuel, (d0, p), h0, fun n hn => by simpa using List.all_eq_true.1 hw.1 n hn⟩
   | succ j => exact ih j t v (by simpa using ht) (by simpa using hv)
theorem trodAll_below {H : Type} {enc : TypeId × Value → H} {P : Program} {W W' : World} (hlaid : laidOutB P = true) (hb : Below W.heap.size W W') : ∀ {ts : List TypeId} {vs : List Value} {ds : List (DataW H)} {ps : List MemPlace},
 (ts.all fun t => P.readableRec t && decide (t < P.types.size)) = true → DataW.TrodAll enc P W 0 (fun _ => true) true ts vs ds ps → (∀ x ∈ ps, x.block < W.heap.size) →
 DataW.TrodAll enc P W' 0 (fun b => decide (b < W.heap.size)) true ts vs ds ps
 | [], [], [], _, _, h, _ => h
 | t0 :: ts, v0 :: vs, d0 :: ds, ps, ha, h, hlt => by
   obtain ⟨p, q, h0, hr, rfl⟩ := h
   simp only [List.all_cons, Bool.and_eq_true, decide_eq_true_eq] at ha
   exact ⟨p, q, Below.trod hlaid ha.1.1 ha.1.2 h0 hb (fun x hx => hlt x (List.mem_append.2 (Or.inl hx))), trodAll_below hlaid hb ha.2 hr (fun x hx => hlt x (List.mem_append.2 (Or.inr hx))), rfl⟩
theorem trodAll_blocks {H : Type} {enc : TypeId × Value → H} {P : Program} {W : World} : ∀ {ts : List TypeId} {vs : List Value} {ds : List (DataW H)} {ps : List MemPlace}, DataW.TrodAll enc P W 0 (fun _ => true) true ts vs ds ps → ∀ x ∈ ps, x.block < W.heap.size
 | [], [], [], _, h => by intro x hx; cases h; cases hx
 | t0 :: ts, v0 :: vs, d0 :: ds, ps, h => by
   obtain ⟨p, q, ⟨m, hm⟩, hr, rfl⟩ := h
   intro x hx
   rcases List.mem_append.1 hx with hx | hx
   · exact DataW.trod_lt m _ _ _ hm x hx
   · exact trodAll_blocks hr x hx
end
section
open Go.RowKit Go.Sort
theorem ret_int {k : IntKind} {a b : Int} (h : a = b) : Ending.returned (.int k a) = .returned (.int k b) := by rw [h]
theorem ret_bool {a b : Bool} (h : a = b) : Ending.returned (.bool a) = .returned (.bool b) := by rw [h]
theorem gcell (W : World) (d : Nat) (os : Array Obj) (b o : Nat) (h : b < W.heap.size) : (grow (redrawn W d) os).cell? ⟨b, o, none⟩ = W.cell? ⟨b, o, none⟩ :=
 (below_regrown W d os).cell (p := ⟨b, o, none⟩) h
theorem lt_of_cell {w : World} {b o : Nat} {v : Value} (h : w.cell? ⟨b, o, none⟩ = some v) : b < w.heap.size := block_lt_of_cell h
theorem up {W w : World} {b o : Nat} {v : Value} (hb : Below W.heap.size W w) (h : W.cell? ⟨b, o, none⟩ = some v) : w.cell? ⟨b, o, none⟩ = some v := (hb.cell (lt_of_cell h)).trans h
theorem upf {W w : World} {b o : Nat} (hb : Below W.heap.size W w) (hl : b < W.heap.size) (h : W.frozen? ⟨b, o, none⟩ = false) : w.frozen? ⟨b, o, none⟩ = false := (hb.frozen (p := ⟨b, o, none⟩) hl).trans h
theorem bthen {B : Nat} {a b c : World} (h : Below B a b) (k : Below b.heap.size b c) (hB : B ≤ b.heap.size) : Below B a c := h.trans (k.mono hB)
theorem bthen' {a b c : World} (h : Below a.heap.size a b) (k : Below b.heap.size b c) : Below a.heap.size a c := h.trans (k.mono h.size)
theorem below_of_regrown {W w : World} (h : ∃ p : Regrown, w = grow (redrawn W p.d) p.os) : Below W.heap.size W w := by
 obtain ⟨p, rfl⟩ := h
 exact below_regrown _ _ _
theorem cell_set (w : World) (a b : Addr) (v : Value) : (w.setCell a v).cell? b = if a = b then (w.cell? b).map (fun _ => v) else w.cell? b := by
 by_cases h : a = b
 · subst h
   rw [if_pos rfl]
   cases hc : w.cell? a with
   | some u => exact World.cell?_setCell_same _ _ _ hc
   | none =>
     simp only [World.setCell, World.cell?, Array.getElem?_modify, if_true, Option.map_none] at hc ⊢
     cases hb : w.heap[a.block]? with
     | none => simp
     | some o =>
       rw [hb] at hc
       cases o with
       | cells c t f =>
         simp only [Option.map_some] at hc ⊢
         split at hc
         · rename_i h1; simp [h1]
         · rename_i h1
           have : c.size ≤ a.off := by simpa using hc
           simp [h1, this]
       | _ => simp
 · rw [if_neg h]; exact World.cell?_setCell_other _ _ _ _ h
theorem results_range {P : Program} {fn : Func} {p : Tmp} {ty : TypeId} (h : fn.results = #[.cell p ty]) (tmps : Array Value) (w : World) (g : Nat) (cs : List Value) (d : TypeDesc)
 (hp : tmps.getD p undef = .pointer (some ⟨g, 0, none⟩)) (hc : w.rangeAt g 0 cs) (hu : P.underlying ty = some d) (hd : d.isRow = true) (hi : (P.info? ty).map (·.size) = some cs.length) :
 (results fn tmps).run P w = .ok (.agg cs.toArray) w := by
 have hp' : tmps[p]?.getD undef = .pointer (some ⟨g, 0, none⟩) := by simpa using hp
 have h1 := run_loadAt_mid (P := P) w g 0 ty cs d hc hu hd hi
 simp only [Instr.loadAt, Instr.sureAddr, Sem.run_bind, Sem.run_pure, Result.andThen_ok] at h1
 simp [results, h, hp', asAddr, h1]
end
section
open Go.RowKit Go.Sort
def Row (w : World) (a : Option Addr) (n : Nat) (xs : Nat → Int) : Prop := ∃ b m, (0 < n → a = some ⟨b, m, none⟩) ∧ ∀ k, k < n → w.cell? ⟨b, m + k, none⟩ = some (.int .i64 (xs k))
theorem Row.mono {W w : World} {a : Option Addr} {n : Nat} {xs : Nat → Int} (R : Row W a n xs) (hb : Below W.heap.size W w) : Row w a n xs := by
 obtain ⟨b, m, h1, h2⟩ := R
 exact ⟨b, m, h1, fun k hk => up hb (h2 k hk)⟩
theorem Row.congr {w : World} {a : Option Addr} {n m : Nat} {xs ys : Nat → Int} (R : Row w a n xs) (hn : n = m) (h : ∀ k, k < n → xs k = ys k) : Row w a m ys := by
 subst hn
 obtain ⟨b, m, h1, h2⟩ := R
 exact ⟨b, m, h1, fun k hk => by rw [← h k hk]; exact h2 k hk⟩
theorem Row.zero (w : World) (a : Option Addr) (xs : Nat → Int) : Row w a 0 xs := ⟨0, 0, fun h => absurd h (Nat.lt_irrefl _), fun k hk => absurd hk (Nat.not_lt_zero _)⟩
theorem info_split {P : Program} {e : TypeId} {z : Value} {n b : Nat} (h : (P.info? e).map (fun i => (i.zero, i.size, i.bytes)) = some (some z, n, b)) : ∃ i, P.info? e = some i ∧ i.zero = some z ∧ i.size = n ∧ i.bytes = b := by
 cases hi : P.info? e with
 | none => rw [hi] at h; simp at h
 | some i => rw [hi] at h; simp at h; exact ⟨i, rfl, h.1, h.2.1, h.2.2⟩
theorem vals_succ (f : Nat → Value) (n : Nat) : (List.range n).map f ++ [f n] = (List.range (n + 1)).map f := by
 rw [List.range_succ, List.map_append]; rfl
theorem own_cells {w : World} {base e : Nat} {v : Value} {n : Nat} {f : Nat → Value} (h : w.ownsRow base e 1 v n ((List.range n).map f)) :
 ∃ a c b, v = .slice a n c ∧ n ≤ c ∧ (0 < n → a = some ⟨b, 0, none⟩ ∧ base ≤ b ∧ b < w.heap.size) ∧ ∀ i, i < n → w.cell? ⟨b, i, none⟩ = some (f i) := by
 obtain ⟨_, ⟨hv, rfl⟩ | ⟨g, cap, cur, hv, hg, hh, hn, hm, hs, ht⟩⟩ := h
 · exact ⟨none, 0, 0, hv, Nat.le_refl _, fun h => absurd h (Nat.lt_irrefl _), fun i hi => absurd hi (Nat.not_lt_zero _)⟩
 · refine ⟨_, cap, g, hv, hn, fun _ => ⟨rfl, hg, (Array.getElem?_eq_some_iff.1 hh).1⟩, fun i hi => ?_⟩
   have h2 := congrArg (fun l => l[i]?) ht
   simp only [Nat.mul_one, List.getElem?_take, List.getElem?_map, List.getElem?_range hi, Option.map_some, if_pos hi] at h2
   rw [cell_of_row w g i cur e (0, 0) hh]
   simpa using h2
variable {P : Program}
theorem wpList_append1 {ops : Array Oper} {rest : List Oper} {o : Oper} {a : Act} {Q : Exit → Act → World → Prop} (w W0 : World) (base : Nat) (hgd : o.guard = none) (s x : Operand) (t : TypeId)
 (ho : o.op = .call { callee := .builtin .append, args := #[s, x], argTypes := #[t, t] })
 (e : TypeId) (z : Value) (bytes : Nat) (ht : P.underlying t = some (.slice e)) (hi : (P.info? e).map (fun i => (i.zero, i.size, i.bytes)) = some (some z, 1, bytes)) (hzs : z.cells.size = 1) (hbt : bytes ≤ 1000)
 (v : Value) (n : Nat) (f : Nat → Value) (hs : a.eval s = v) (u : Value) (hx : a.eval x = .slice (some ⟨w.heap.size, 0, none⟩) 1 1)
 (hown : w.ownsRow base e 1 v n ((List.range n).map f)) (hB : Below base W0 w) (hbase : base ≤ w.heap.size) (hu : u = f n) (h1 : u.oneCell' = true) (hn : n + 1 ≤ 1000000)
 (h : ∀ v' w', w'.ownsRow base e 1 v' (n + 1) ((List.range (n + 1)).map f) → Below base W0 w' → base ≤ w'.heap.size → w.heap.size ≤ w'.heap.size → w.grownBy w' v.ownBlock → wpList P ops Q rest (a.put o.dst v') w') :
 wpList P ops Q (o :: rest) a (w.alloc (.cells #[u] e)) := by
 obtain ⟨i, hi1, hz, hsz, hby⟩ := info_split hi
 have hgr : w.grownBy (w.alloc (.cells #[u] e)) none := ⟨rfl, rfl, rfl, by simp, fun i hi _ => Below.heap_alloc _ _ _ hi⟩
 refine wpList_append_own _ hgd s x t ho base e i z 1 bytes ht hi1 hz hsz hby hzs (by omega) v n _ hs (hown.alloc _) ⟨w.heap.size, 0, none⟩ 1 1 [u] hx (by simp) (fun j v' hj => ?_) (fun v' hv => by simp at hv; rw [hv]; exact h1) (by unfold maxLen; omega) ?_ (by simp; omega) ?_
 · match j with
   | 0 => simp at hj; subst hj; simp [go_sem, Addr.add_mid]
   | j + 1 => simp at hj
 · have : (n + 1) * bytes ≤ 1000000 * 1000 := Nat.mul_le_mul hn hbt
   omega
 · intro v' w' h2 h3 _
   have h4 : w.heap.size ≤ w'.heap.size := by have := h3.size; simp at this; omega
   rw [hu, vals_succ] at h2
   refine h v' w' h2 ?_ (Nat.le_trans hbase h4) h4 ⟨h3.os, h3.tape, h3.output, h4, fun i hi hne => ?_⟩
   · exact (hB.alloc hbase _).grown h3 (by simp; omega) (fun k hk => (hown.lt k hk).1)
   · exact (h3.block i (by simp; omega) hne).trans (Below.heap_alloc _ _ _ hi)
def Apart (u v : Value) : Prop := ∀ b, u.ownBlock = some b → v.ownBlock ≠ some b
theorem Apart.symm {u v : Value} (h : Apart u v) : Apart v u := fun b h1 h2 => h b h2 h1
theorem Apart.grown {w : World} {base e n k : Nat} {u v v' : Value} {xs : List Value} (h : Apart u v) (hu : w.ownsRow base e k u n xs) (hv : v'.ownBlock = v.ownBlock ∨ v'.ownBlock = some (w.heap.size + 1)) : Apart u v' := fun b h1 h2 => by
 rcases hv with hv | hv
 · exact h b h1 (hv ▸ h2)
 · have h3 := (hu.lt b h1).2
   rw [h2] at hv
   have := oI hv
   omega
theorem Apart.keep {w w' : World} {base e n k : Nat} {u v : Value} {xs : List Value} (h : Apart u v) (hu : w.ownsRow base e k u n xs) (hg : w.grownBy w' v.ownBlock) : w'.ownsRow base e k u n xs := by
 refine hu.kept hg ?_
 cases hb : u.ownBlock with
 | none => exact .inl rfl
 | some b => exact .inr fun h2 => h b hb h2.symm
theorem Apart.nil (v : Value) : Apart (.slice none 0 0) v := fun b h => by cases h
end
section
open Go.RowKit Go.Sort
structure VAt (w : World) (z n : Nat) (f : Nat → Value) : Prop where
 c : ∀ k, k < n → w.cell? ⟨z, k, none⟩ = some (f k)
 fr : ∀ k, w.frozen? ⟨z, k, none⟩ = false
 lt : z < w.heap.size
def putV (f : Nat → Value) (j : Nat) (v : Value) : Nat → Value := fun k => if k = j then v else f k
theorem putV_at (f : Nat → Value) (j : Nat) (v : Value) : putV f j v j = v := if_pos rfl
theorem putV_ne {f : Nat → Value} {j k : Nat} {v : Value} (h : k ≠ j) : putV f j v k = f k := if_neg h
theorem VAt.mono {w w' : World} {z n : Nat} {f : Nat → Value} (Q : VAt w z n f) (hb : Below w.heap.size w w') : VAt w' z n f :=
 ⟨fun k hk => up hb (Q.c k hk), fun k => upf hb Q.lt (Q.fr k), Nat.lt_of_lt_of_le Q.lt hb.size⟩
theorem VAt.set {w : World} {z n : Nat} {f : Nat → Value} (Q : VAt w z n f) (j : Nat) (v : Value) : VAt (w.setCell ⟨z, j, none⟩ v) z n (putV f j v) := by
 refine ⟨fun k hk => ?_, fun k => ?_, by simpa using Q.lt⟩
 · have := Q.c k hk
   by_cases e : k = j
   · subst e
     rw [putV_at, cell_set, if_pos rfl, this]; rfl
   · rw [putV_ne e, cell_set, if_neg (by simp [Ne.symm e])]; exact this
 · rw [World.frozen?_setCell]; exact Q.fr k
theorem VAt.far {w : World} {z n p o : Nat} {f : Nat → Value} {v : Value} (Q : VAt w z n f) (h : p ≠ z) : VAt (w.setCell ⟨p, o, none⟩ v) z n f := by
 refine ⟨fun k hk => ?_, fun k => ?_, by simpa using Q.lt⟩
 · rw [cell_set, if_neg (by simp [h])]; exact Q.c k hk
 · rw [World.frozen?_setCell]; exact Q.fr k
theorem VAt.congr {w : World} {z n : Nat} {f g : Nat → Value} (Q : VAt w z n f) (h : ∀ k, k < n → g k = f k) : VAt w z n g :=
 ⟨fun k hk => by rw [h k hk]; exact Q.c k hk, Q.fr, Q.lt⟩
def iv (xs : Nat → Int) (k : Nat) : Value := .int .i64 (xs k)
theorem VAt.row {w : World} {z n : Nat} {xs : Nat → Int} (Q : VAt w z n (iv xs)) : Row w (some ⟨z, 0, none⟩) n xs :=
 ⟨z, 0, fun _ => rfl, fun k hk => by rw [Nat.zero_add]; exact Q.c k hk⟩
end
section
def anyB (p : Nat → Bool) : Nat → Bool
 | 0 => false
 | k + 1 => anyB p k || p k
theorem anyB_true {p : Nat → Bool} {n k : Nat} (hk : k < n) (h : p k = true) : anyB p n = true := by
 induction n with
 | zero => omega
 | succ n ih =>
   unfold anyB
   by_cases h2 : k < n
   · rw [ih h2]; rfl
   · have : k = n := by omega
     subst this; rw [h]; simp
theorem anyB_or (p q : Nat → Bool) (n : Nat) : anyB (fun k => p k || q k) n = (anyB p n || anyB q n) := by
 induction n with
 | zero => rfl
 | succ n ih => unfold anyB; rw [ih]; cases anyB p n <;> cases anyB q n <;> cases p n <;> cases q n <;> rfl
end
section
open Go.RowKit Go.ChangeShapes Go.WideShapes Go.ChangeAt
theorem change_and_shaped {H : Type} {enc : TypeId × Value → H} {a : Assume} {C : Checked} {os : Os} {f : FuncId} {fn : Func} {s : ChangeSpec} {conds : List PathCond} {apart fresh handsOn again : Bool} {X : World → Array Value → Prop}
 (hX : ∀ (w w' : World) (args : Array Value), w.heap = w'.heap → X w args → X w' args)
 (own : ownKnob C.prog.godebug = none) (started : os.Started) (noInit : C.prog.inits.idxOf? f = none) (hfn : C.prog.funcs[f]? = some fn)
 (witness : ∃ (w : World) (tape : Tape) (i : Input), w.os = os ∧ (w.forCall tape i).Shaped C.prog ∧ i.vars = [] ∧ Input.okWide C.prog (w.forCall tape i) .any w.heap.size f i ∧
  ((s.pre enc C.prog fn conds apart (w.forCall tape i).memory i.args ∧ X (w.forCall tape i).memory i.args) ∧ sizedMet enc C.prog fn (OpenSpec.ofChange s) apart (w.forCall tape i).memory i.args) ∧ a.holds C.prog (lone (Frame.enter C.prog f i.args .normal) [] (w.forCall tape i)))
 (contract : ∀ (W : World) (base : Nat) (args : Array Value) (ds gs : List (DataW H)) (before : List MemPlace),
  (∀ (j : Nat) t v, fn.params[j]? = some t → args[j]? = some v → Value.okWide C.prog W .any base t v) →
  DataW.Whole enc C.prog fn.params.toList s.vars apart W args.toList ds gs before →
  conds.all (PathCond.test C.prog ⟨fn.params.toList, ds, s.plain.varTypes C.prog, gs⟩) = true →
  (DataW.weightsEach C.prog (fn.params.toList ++ s.plain.varTypes C.prog) (ds ++ gs)).all (· ≤ reachBytes) = true → X W args → W.ShapedOpen C.prog →
  a.holds C.prog (lone (Frame.enter C.prog f args .normal) [] W) →
  Calls C.prog f args W fun e W' => ∃ v, e = .returned v ∧ s.post enc C.prog fn apart fresh handsOn again W args v W') :
 ReturnsInHanded a C os f .any (fun w args => (s.pre enc C.prog fn conds apart w args ∧ X w args) ∧ sizedMet enc C.prog fn (OpenSpec.ofChange s) apart w args) (s.post enc C.prog fn apart fresh handsOn again) := by
 refine returnsInHanded_of_calls own started noInit witness ?_
 intro w tape i _ hsh _ hok hpre hholds
 obtain ⟨_, _, _, fn', hfn', _, _, _, _, hval⟩ := hok
 have e : fn' = fn := oI (hfn'.symm.trans hfn)
 subst e
 obtain ⟨⟨⟨ds, gs, before, hw, hc⟩, hx⟩, hz⟩ := hpre
 have hw' := DataW.Whole.of_heap (w' := w.forCall tape i) (by rfl) hw
 refine (contract (w.forCall tape i) w.heap.size i.args ds gs before hval hw' hc (hz.weights hw) (hX _ _ _ (by rfl) hx) hsh hholds).mono fun e W' ⟨v, he, hp⟩ => ?_
 subst he
 exact ChangeSpec.post_blind hp
theorem lift_lawX {C : Checked} {os : Os} {f : FuncId} {fn : Func} {s : ChangeSpec} {tb : TypeId} {H : Type} {enc : TypeId × Value → H} {X : World → Array Value → Prop}
 (hX : ∀ (w w' : World) (args : Array Value), w.heap = w'.heap → X w args → X w' args)
 (own : ownKnob C.prog.godebug = none) (started : os.Started) (noInit : C.prog.inits.idxOf? f = none) (hfn : C.prog.funcs[f]? = some fn)
 (witness : ∃ (w : World) (tape : Tape) (i : Input), w.os = os ∧ (w.forCall tape i).Shaped C.prog ∧ i.vars = [] ∧ Input.okWide C.prog (w.forCall tape i) .any w.heap.size f i ∧
  ((s.pre enc C.prog fn [] false (w.forCall tape i).memory i.args ∧ X (w.forCall tape i).memory i.args) ∧ sizedMet enc C.prog fn (OpenSpec.ofChange s) false (w.forCall tape i).memory i.args) ∧ Assume.holds {} C.prog (lone (Frame.enter C.prog f i.args .normal) [] (w.forCall tape i)))
 (hlaid : laidOutB C.prog = true) (hvars : s.vars = []) (hres : fn.resultTypes = #[tb]) (hb : C.prog.underlying tb = some .bool)
 (hread : (fn.params.toList.all fun t => C.prog.readableRec t && decide (t < C.prog.types.size)) = true)
 (hspec : ∀ ds : List (DataW H), ds.length = fn.params.size → s.fn H ds = { results := [.lit (.bool true)], args := ds })
 (walk : ∀ (W : World) (base : Nat) (args : Array Value), X W args → W.ShapedOpen C.prog → (∀ (j : Nat) t v, fn.params[j]? = some t → args[j]? = some v → Arg C.prog W base t v) → args.size = fn.params.size →
  Calls C.prog f args W fun e W' => e = .returned (.bool true) ∧ Below W.heap.size W W') :
 ReturnsInHanded {} C os f .any (fun w args => (s.pre enc C.prog fn [] false w args ∧ X w args) ∧ sizedMet enc C.prog fn (OpenSpec.ofChange s) false w args) (s.post enc C.prog fn false true false false) := by
 refine change_and_shaped hX own started noInit hfn witness ?_
 intro W base args ds gs before hval hW _ hsz hx hsh _
 have hW' := hW
 obtain ⟨p, q, hA, hV, rfl, _, _⟩ := hW
 rw [hvars] at hV
 obtain ⟨rfl, rfl⟩ := trodVars_none hV
 have hvt : s.plain.varTypes C.prog = [] := by simp [ChangeSpec.plain, DataSpec.varTypes, hvars]
 rw [hvt] at hsz
 simp only [List.append_nil] at hsz hW'
 obtain ⟨hl, hrd⟩ := trodAll_split hA hsz
 have hargs : args.size = fn.params.size := by
  have aux : ∀ {ts : List TypeId} {vs : List Value} {ds : List (DataW H)} {ps : List MemPlace}, DataW.TrodAll enc C.prog W 0 (fun _ => true) true ts vs ds ps → vs.length = ts.length := by
   intro ts
   induction ts with
   | nil => intro vs ds ps h; cases vs <;> cases ds <;> simp_all [DataW.TrodAll]
   | cons t ts ih =>
     intro vs ds ps h
     cases vs with
     | nil => cases ds <;> simp_all [DataW.TrodAll]
     | cons v vs => cases ds with
       | nil => simp_all [DataW.TrodAll]
       | cons d ds =>
         obtain ⟨_, _, _, hr, _⟩ := h
         simp [ih hr]
  have := aux hA
  simpa using this
 refine (walk W base args hx hsh (fun j t v ht hv => ⟨hval j t v ht hv, hrd j t v (by simpa using ht) (by simpa using hv)⟩) hargs).mono fun e W' ⟨he, bel⟩ => ?_
 subst he
 have e1 := hspec ds (by simpa using hl)
 refine ⟨_, rfl, ds, [], p, [], p, [], hW', ?_, ?_, ?_, bel.frame _, fun h => by cases h⟩
 · rw [List.append_nil, e1, hres]
   exact trodAll_mk1 (shut_bool hb _)
 · rw [List.append_nil, e1]
   exact trodAll_below hlaid bel hread hA (trodAll_blocks hA)
 · rw [List.append_nil, e1, hvars]
   rfl
end
section
open Go.RowKit Go.Maps Go.ChangeMaps
section
variable {P : Program} {ops : Array Oper} {Q : Exit → Act → World → Prop} {md : Region.Mode}
def unlisted (listed : Array Bool) : Nat := (listed.toList.filter (fun b => !b)).length
theorem unlisted_set {listed : Array Bool} {i : Nat} (h : listed.getD i true = false) : unlisted (listed.setIfInBounds i true) + 1 = unlisted listed := by
 have hi : i < listed.toList.length := by
  rcases Nat.lt_or_ge i listed.size with h' | h'
  · simpa using h'
  · simp [Array.getElem?_eq_none h'] at h
 have hf : listed.toList[i] = false := by
  have h' : i < listed.size := by simpa using hi
  simpa [h'] using h
 unfold unlisted
 rw [Array.toList_setIfInBounds]
 have key : ∀ (l : List Bool) (i : Nat) (hi : i < l.length), l[i] = false → ((l.set i true).filter (fun b => !b)).length + 1 = (l.filter (fun b => !b)).length := by
  intro l
  induction l with
  | nil => intro i hi; simp at hi
  | cons x l ih =>
    intro i hi hx
    cases i with
    | zero =>
      simp at hx
      subst hx
      simp
    | succ i =>
      have hi' : i < l.length := by simpa using hi
      have := ih i hi' (by simpa using hx)
      cases x <;> simp <;> omega
 exact key _ i hi hf
variable {T K E : TypeId}
def Entries (w : World) (B n : Nat) (key val : Nat → Value) (st : Nat → Prop) : Prop :=
 ∃ es clock, w.heap[B]? = some (.map es clock) ∧ (∀ e ∈ es.toList, ∃ i, i < n ∧ st i ∧ e.key = key i ∧ e.val = val i) ∧ ∀ i, i < n → st i → ∃ e ∈ es.toList, e.key = key i
def backB (ops : Array Oper) : Bool := (List.range ops.size).all fun i => match ops[i]? with | some o => o.after.all fun e => decide (e.on < i) | none => true
def Slot (a : Act) (t : Tmp) (v : Value) : Prop := a.tmps[t]? = some v
theorem Slot.eval {a : Act} {t : Tmp} {v : Value} (h : Slot a t v) : a.eval (.tmp t) = v := by
 unfold Slot at h
 show a.tmps.getD t undef = v
 rw [Array.getD_eq_getD_getElem?, h]
 rfl
theorem Slot.put {a : Act} {t : Tmp} {v : Value} (h : t < a.tmps.size) : Slot (a.put (some t) v) t v := by
 unfold Slot Act.put
 simp [h]
theorem Slot.other {a : Act} {t d : Tmp} {v u : Value} (h : Slot a t v) (hne : d ≠ t) : Slot (a.put (some d) u) t v := by
 unfold Slot Act.put at *
 simp only
 rw [Array.getElem?_setIfInBounds_ne hne]
 exact h
def waitB (ops : Array Oper) (i j : Nat) : Bool := match ops[i]? with | none => false | some o => o.after.any fun e => Region.binds .any e && e.on == j
def litWaits (ops : Array Oper) (n : Nat) : Bool := ((List.range n).all fun i => waitB ops (3 * i + 3) 0 && waitB ops (3 * i + 3) (3 * i + 1) && waitB ops (3 * i + 3) (3 * i + 2)) && waitB ops (3 * n + 1) 0 && waitB ops (3 * n + 2) (3 * n + 1)
structure Lits (P : Program) (ops : Array Oper) (T : TypeId) (n : Nat) (m z1 z2 : Tmp) (sk sv : Nat → Tmp) (key val : Nat → Value) : Prop where
 size : ops.size = 3 * n + 3
 back : backB ops = true
 waits : litWaits ops n = true
 o0 : ∃ o, ops[0]? = some o ∧ o.guard = none ∧ o.dst = some m ∧ o.op = .makeMap T none
 ok : ∀ i, i < n → ∃ o, ops[3 * i + 1]? = some o ∧ o.guard = none ∧ o.dst = some (sk i) ∧ ∀ (a : Act) w, (execOp a.eval o).run P w = .ok (.value (key i)) w
 ov : ∀ i, i < n → ∃ o, ops[3 * i + 2]? = some o ∧ o.guard = none ∧ o.dst = some (sv i) ∧ ∀ (a : Act) w, (execOp a.eval o).run P w = .ok (.value (val i)) w
 oi : ∀ i, i < n → ∃ o, ops[3 * i + 3]? = some o ∧ o.guard = none ∧ o.dst = none ∧ o.op = .insert T (.tmp m) (.tmp (sk i)) (.tmp (sv i))
 om : ∃ o, ops[3 * n + 1]? = some o ∧ o.guard = none ∧ o.dst = some z1 ∧ o.op = .move (.tmp m)
 oa : ∃ o, ops[3 * n + 2]? = some o ∧ o.guard = none ∧ o.dst = some z2 ∧ o.op = .assign (.tmp z1)
 d1 : ∀ i, i < n → sk i ≠ m ∧ sv i ≠ m ∧ sk i ≠ z1 ∧ sv i ≠ z1 ∧ sk i ≠ z2 ∧ sv i ≠ z2
 d2 : m ≠ z1 ∧ m ≠ z2 ∧ z1 ≠ z2
 d3 : ∀ i j, i < n → j < n → (i ≠ j → sk i ≠ sk j ∧ sv i ≠ sv j) ∧ sk i ≠ sv j
structure LitInv (P : Program) (W : World) (S n : Nat) (m z1 z2 : Tmp) (sk sv : Nat → Tmp) (key val : Nat → Value) (listed : Array Bool) (a : Act) (w : World) : Prop where
 sz : a.tmps.size = S
 df : a.defers = []
 s0 : listed.getD 0 false = true → Slot a m (.map (some W.heap.size))
 sk : ∀ i, i < n → listed.getD (3 * i + 1) false = true → Slot a (sk i) (key i)
 sv : ∀ i, i < n → listed.getD (3 * i + 2) false = true → Slot a (sv i) (val i)
 s1 : listed.getD (3 * n + 1) false = true → Slot a z1 (.map (some W.heap.size))
 s2 : listed.getD (3 * n + 2) false = true → Slot a z2 (.map (some W.heap.size))
 bel : Below W.heap.size W w
 w0 : listed.getD 0 false = false → w.heap.size = W.heap.size
 w1 : listed.getD 0 false = true → Entries w W.heap.size n key val (fun i => listed.getD (3 * i + 3) false = true)
 wi : ∀ i, i < n → listed.getD (3 * i + 3) false = true → listed.getD 0 false = true
theorem Entries.congr {w : World} {B n : Nat} {key val : Nat → Value} {st st' : Nat → Prop} (h : Entries w B n key val st) (hs : ∀ i, i < n → (st i ↔ st' i)) : Entries w B n key val st' := by
 obtain ⟨es, clock, hb, h1, h2⟩ := h
 exact ⟨es, clock, hb, fun e he => by obtain ⟨i, hi, hst, h⟩ := h1 e he; exact ⟨i, hi, (hs i hi).1 hst, h⟩, fun i hi hst => h2 i hi ((hs i hi).2 hst)⟩
set_option maxHeartbeats 1000000 in
end
end
section
open Go.RowKit
section
variable {P : Program} {ops : Array Oper} {Q : Exit → Act → World → Prop}
def dstAt (ops : Array Oper) (i : Nat) : Option Tmp := (ops[i]?).bind (·.dst)
def dstsB (ops : Array Oper) (n S : Nat) : Bool := (List.range n).all fun i => match dstAt ops i with
 | none => true
 | some d => decide (d < S) && (List.range i).all fun j => dstAt ops j != some d
theorem dstsB_lt {n S i : Nat} {d : Tmp} (h : dstsB ops n S = true) (hi : i < n) (hd : dstAt ops i = some d) : d < S := by
 have h1 := List.all_eq_true.1 h i (List.mem_range.2 hi)
 rw [hd] at h1
 simp only [Bool.and_eq_true, decide_eq_true_eq] at h1
 exact h1.1
theorem dstsB_ne {n S i j : Nat} {d : Tmp} (h : dstsB ops n S = true) (hi : i < n) (hj : j < n) (hij : i ≠ j) (hd : dstAt ops i = some d) : dstAt ops j ≠ some d := by
 intro hd2
 have key : ∀ i j : Nat, i < n → j < i → dstAt ops i = some d → dstAt ops j = some d → False := fun i j hi hj h1 h2 => by
  have h3 := List.all_eq_true.1 h i (List.mem_range.2 hi)
  rw [h1] at h3
  simp only [Bool.and_eq_true] at h3
  have h4 := List.all_eq_true.1 h3.2 j (List.mem_range.2 hj)
  rw [h2] at h4
  simp at h4
 rcases Nat.lt_or_ge j i with h1 | h1
 · exact key i j hi h1 hd hd2
 · exact key j i hj (by omega) hd2 hd
def headAll (n m : Nat) : Array Bool := ((List.range m).map fun i => decide (i < n)).toArray
theorem headAll_eq {n : Nat} {listed : Array Bool} (hs : listed.size = ops.size) (hh : ∀ i, i < n → listed.getD i false = true) (ht : ∀ t, n ≤ t → t < ops.size → listed.getD t true = false) : listed = headAll n ops.size := by
 apply Array.ext
 · simp [headAll, hs]
 · intro i h1 h2
   have : (headAll n ops.size)[i] = decide (i < n) := by simp [headAll]
   rw [this]
   by_cases hi : i < n
   · have := hh i hi
     simp [h1] at this
     simp [hi, this]
   · have := ht i (by omega) (by omega)
     simp [h1] at this
     simp [hi, this]
def fillA (a : Act) : List Oper → Nat → (Nat → Value) → Act
 | [], _, _ => a
 | o :: l, k, vs => fillA (a.put o.dst (vs k)) l (k + 1) vs
theorem fillA_size : ∀ (l : List Oper) (a : Act) (k : Nat) (vs : Nat → Value), (fillA a l k vs).tmps.size = a.tmps.size ∧ (fillA a l k vs).defers = a.defers
 | [], a, k, vs => ⟨rfl, rfl⟩
 | o :: l, a, k, vs => by
   obtain ⟨h1, h2⟩ := fillA_size l (a.put o.dst (vs k)) (k + 1) vs
   refine ⟨h1.trans ?_, h2.trans ?_⟩
   · cases o.dst <;> simp [Act.put]
   · cases o.dst <;> simp [Act.put]
theorem fillA_other : ∀ (l : List Oper) (a : Act) (k : Nat) (vs : Nat → Value) (t : Tmp), (∀ o ∈ l, o.dst ≠ some t) → (fillA a l k vs).tmps[t]? = a.tmps[t]?
 | [], a, k, vs, t, h => rfl
 | o :: l, a, k, vs, t, h => by
   rw [fillA, fillA_other l _ _ _ _ (fun x hx => h x (List.mem_cons_of_mem _ hx))]
   have h0 := h o (List.mem_cons_self ..)
   cases hd : o.dst with
   | none => rfl
   | some d =>
     have : d ≠ t := fun e => h0 (by rw [hd, e])
     simp [Act.put, Array.getElem?_setIfInBounds_ne this]
theorem fillA_at : ∀ (l : List Oper) (a : Act) (k : Nat) (vs : Nat → Value) (j : Nat) (t : Tmp), (l[j]?).bind (·.dst) = some t → t < a.tmps.size → (∀ i, i ≠ j → (l[i]?).bind (·.dst) ≠ some t) → (fillA a l k vs).tmps[t]? = some (vs (k + j))
 | [], a, k, vs, j, t, h, ht, hne => by simp at h
 | o :: l, a, k, vs, 0, t, h, ht, hne => by
   have h0 : o.dst = some t := by simpa using h
   rw [fillA, fillA_other l _ _ _ _ (fun x hx he => by
    obtain ⟨i, hi⟩ := List.mem_iff_getElem?.1 hx
    exact hne (i + 1) (by omega) (by simp [hi, he]))]
   rw [h0]
   simp [Act.put, ht]
 | o :: l, a, k, vs, j + 1, t, h, ht, hne => by
   have h1 := fillA_at l (a.put o.dst (vs k)) (k + 1) vs j t (by simpa using h) (by cases o.dst <;> simpa [Act.put] using ht) (fun i hi he => hne (i + 1) (by omega) (by simpa using he))
   rw [fillA, h1]
   congr 2
   omega
def WaitsOn (ops : Array Oper) (i j : Nat) : Prop := ∃ o, ops[i]? = some o ∧ ∃ e ∈ o.after, Region.binds .any e = true ∧ e.on = j
structure HeadSt (ops : Array Oper) (n : Nat) (Φ : (Nat → Bool) → (Nat → Value) → World → Prop) (a0 : Act) (listed : Array Bool) (a : Act) (w : World) (vs : Nat → Value) : Prop where
 inv : HeadInv .any ops n listed
 sz : a.tmps.size = a0.tmps.size
 df : a.defers = a0.defers
 slot : ∀ i d, i < n → listed.getD i false = true → dstAt ops i = some d → Slot a d (vs i)
 other : ∀ t, (∀ i, i < n → listed.getD i false = true → dstAt ops i ≠ some t) → a.tmps[t]? = a0.tmps[t]?
 phi : Φ (fun i => listed.getD i false) vs w
theorem act_ext {a b : Act} (h1 : a.tmps.size = b.tmps.size) (h2 : a.defers = b.defers) (h3 : ∀ t : Nat, a.tmps[t]? = b.tmps[t]?) : a = b := by
 cases a; cases b
 simp only at h1 h2 h3
 subst h2
 congr 1
 exact Array.ext_getElem? h3
theorem unlisted_headAll {n : Nat} (hn : n ≤ ops.size) : unlisted (headAll n ops.size) = ops.size - n := by
 have key : ∀ m n : Nat, n ≤ m → (((List.range m).map fun i => decide (i < n)).filter (fun b => !b)).length = m - n := by
  intro m
  induction m with
  | zero => intro n h; simp
  | succ m ih =>
    intro n h
    rw [List.range_succ, List.map_append, List.filter_append, List.length_append]
    by_cases h1 : n ≤ m
    · rw [ih n h1]
      simp [show ¬ m < n by omega]
      omega
    · have h2 : n = m + 1 := by omega
      subst h2
      have := ih m (Nat.le_refl _)
      have e : (((List.range m).map fun i => decide (i < m + 1)).filter (fun b => !b)).length = 0 := by
       rw [List.length_eq_zero_iff, List.filter_eq_nil_iff]
       intro b hb
       obtain ⟨i, hi, rfl⟩ := List.mem_map.1 hb
       have := List.mem_range.1 hi
       simp
       omega
      rw [e]
      simp
 unfold unlisted headAll
 rw [List.toList_toArray]
 exact key _ _ hn
set_option maxHeartbeats 1000000 in
end
end
section
open Go.RowKit
section
variable {P : Program} {ops : Array Oper} {Q : Exit → Act → World → Prop}
def slotOf (a : Act) : Option Tmp → Value
 | some d => a.tmps.getD d undef
 | none => undef
def StepQ (A : Act) (dst : Option Tmp) (K : Value → World → Prop) : Exit → Act → World → Prop
 | .normal, a, w => a.defers = A.defers ∧ K (slotOf a dst) w
 | _, _, _ => False
def waitB' (ops : Array Oper) (i j : Nat) : Bool := match ops[i]? with
 | none => false
 | some o => o.after.any fun e => Region.binds .any e && e.on == j
theorem waitB'_on {i j : Nat} (h : waitB' ops i j = true) : WaitsOn ops i j := by
 unfold waitB' at h
 cases ho : ops[i]? with
 | none => rw [ho] at h; cases h
 | some o =>
   rw [ho] at h
   obtain ⟨k, hk, h2⟩ := Array.any_eq_true.1 h
   simp only [Bool.and_eq_true, beq_iff_eq] at h2
   exact ⟨o, ho, o.after[k], Array.getElem_mem hk, h2⟩
def readsB (ops : Array Oper) (n : Nat) : Bool := (List.range n).all fun i => match ops[i]? with
 | none => true
 | some o => (List.range n).all fun j => match dstAt ops j with
   | none => true
   | some d => !(o.looksAt ops).contains d || waitB' ops i j
theorem readsB_spec {n i j : Nat} {o : Oper} {d : Tmp} (h : readsB ops n = true) (hi : i < n) (hj : j < n) (ho : ops[i]? = some o) (hd : dstAt ops j = some d) (hl : d ∈ o.looksAt ops) : WaitsOn ops i j := by
 have h1 := List.all_eq_true.1 h i (List.mem_range.2 hi)
 rw [ho] at h1
 have h2 := List.all_eq_true.1 h1 j (List.mem_range.2 hj)
 rw [hd] at h2
 simp only [Bool.or_eq_true, Bool.not_eq_true', List.contains_iff_mem] at h2
 rcases h2 with h2 | h2
 · exfalso
   have : (o.looksAt ops).contains d = true := List.contains_iff_mem.2 hl
   rw [this] at h2
   cases h2
 · exact waitB'_on h2
theorem looks_operand {o : Oper} {t : Tmp} (h : .tmp t ∈ o.op.operands) : t ∈ o.looksAt ops :=
 List.mem_append_left _ (List.mem_filterMap.2 ⟨.tmp t, by simpa using h, rfl⟩)
theorem looks_guard {o : Oper} {g : Nat} {b : Bool} {t : Tmp} (hg : o.guard = some (g, b)) (ht : dstAt ops g = some t) : t ∈ o.looksAt ops := by
 unfold Oper.looksAt
 refine List.mem_append_right _ ?_
 rw [hg]
 unfold dstAt at ht
 simp [ht]
theorem slot_put {a : Act} {d : Tmp} {v : Value} (h : d < a.tmps.size) : slotOf (a.put (some d) v) (some d) = v := by
 simp [slotOf, Act.put, h]
theorem wpOp_of_step {i n : Nat} {o : Oper} {A a' : Act} {u : World} {K : Value → World → Prop} (ho : ops[i]? = some o) (hsel : ∀ cs b, o.op ≠ .select cs b) (hd : ∀ d, o.dst = some d → d < A.tmps.size)
 (hev : ∀ t ∈ o.looksAt ops, a'.tmps[t]? = A.tmps[t]?)
 (h : wpList P ops (StepQ A o.dst K) [o] A u) : wpOp P ops Q i (fun a'' u' => ∃ v, a'' = a'.put (dstAt ops i) v ∧ K v u') a' u := by
 have hdst : dstAt ops i = o.dst := by unfold dstAt; rw [ho]; rfl
 have he : execOp a'.eval o = execOp A.eval o := execOp_congr o hsel fun x hx => by
  cases x with
  | tmp t =>
    have := hev t (looks_operand hx)
    show a'.tmps.getD t undef = A.tmps.getD t undef
    rw [Array.getD_eq_getD_getElem?, Array.getD_eq_getD_getElem?, this]
  | const v => rfl
  | global g => rfl
  | func f => rfl
 have hw : Region.wanted o (yielded ops a'.tmps) = Region.wanted o (yielded ops A.tmps) := by
  unfold Region.wanted
  cases hg : o.guard with
  | none => rfl
  | some p =>
    obtain ⟨g, b⟩ := p
    have : yielded ops a'.tmps g = yielded ops A.tmps g := by
     unfold yielded
     cases hgd : (ops[g]?).bind (·.dst) with
     | none => rfl
     | some t =>
       have := hev t (looks_guard hg hgd)
       simp [this]
    simp only [this]
 have hput : ∀ v w', StepQ A o.dst K .normal (A.put o.dst v) w' → ∃ v', a'.put o.dst v = a'.put o.dst v' ∧ K v' w' := fun v w' hq => by
  cases hod : o.dst with
  | none =>
    rw [hod] at hq
    exact ⟨undef, rfl, hq.2⟩
  | some d =>
    rw [hod] at hq
    refine ⟨v, rfl, ?_⟩
    have h2 := hq.2
    rwa [slot_put (hd d hod)] at h2
 have hlo : ¬ LetsOut (StepQ A o.dst K) := fun ⟨a, w, hq⟩ => hq
 unfold wpOp
 simp only [ho]
 unfold wpList at h
 rw [hw, hdst]
 split
 · rename_i hwt
   rw [if_pos hwt] at h
   rcases h with h | h
   · refine .inl ?_
     unfold Oper.wp at h ⊢
     rw [he]
     revert h
     generalize (execOp A.eval o).run P u = r
     cases r with
     | ok nx w' =>
       cases nx with
       | value v => intro h; exact hput v w' h
       | skip => intro h; exact hput undef w' h
       | enter f args =>
         intro h
         refine Calls.mono h fun e w'' hq => ?_
         cases e with
         | returned v => exact hput v w'' hq
         | panicked c => exact absurd hq (fun h => h)
         | outgrown => exact absurd hq hlo
       | row rw' args =>
         intro h
         exact Rows.mono h fun v w'' hq => hput v w'' hq
       | _ => first
         | (intro h; exact h.elim)
         | (rename_i df
            intro h
            exfalso
            have h1 : ({ A with defers := df :: A.defers }.put o.dst undef).defers = A.defers := h.1
            have h2 : ({ A with defers := df :: A.defers }.put o.dst undef).defers = df :: A.defers := by cases o.dst <;> rfl
            rw [h2] at h1
            have := congrArg List.length h1
            simp at this)
     | halt x w' =>
       cases x <;> intro h <;> exact h.elim
   · exact absurd h.2 hlo
 · rename_i hwt
   rw [if_neg hwt] at h
   exact hput undef u h
theorem StepQ_mono {A : Act} {dst : Option Tmp} {K K' : Value → World → Prop} (h : ∀ v w, K v w → K' v w) : ∀ e a w, StepQ A dst K e a w → StepQ A dst K' e a w
 | .normal, a, w, hq => ⟨hq.1, h _ _ hq.2⟩
 | .exit _, _, _, hq => hq
 | .goto _, _, _, hq => hq
 | .ret, _, _, hq => hq
 | .panic _, _, _, hq => hq
 | .outgrown, _, _, hq => hq
theorem wpList_one_mono {A : Act} {dst : Option Tmp} {K K' : Value → World → Prop} {o : Oper} {a : Act} {u : World} (h : ∀ v w, K v w → K' v w) (hh : wpList P ops (StepQ A dst K) [o] a u) : wpList P ops (StepQ A dst K') [o] a u := by
 have hlo : ¬ LetsOut (StepQ A dst K) := fun ⟨a, w, hq⟩ => hq
 unfold wpList at hh ⊢
 split
 · rename_i hw
   rw [if_pos hw] at hh
   rcases hh with hh | hh
   · refine .inl ?_
     unfold Oper.wp at hh ⊢
     revert hh
     generalize (execOp a.eval o).run P u = r
     cases r with
     | ok nx w' =>
       cases nx with
       | value v => intro hh; exact StepQ_mono (A := A) (dst := dst) h .normal _ w' hh
       | skip => intro hh; exact StepQ_mono (A := A) (dst := dst) h .normal _ w' hh
       | enter f args =>
         intro hh
         refine Calls.mono hh fun e w'' hq => ?_
         cases e with
         | returned v => exact StepQ_mono h _ _ _ hq
         | panicked c => exact hq
         | outgrown => exact absurd hq hlo
       | row rw' args => intro hh; exact Rows.mono hh fun v w'' hq => StepQ_mono h _ _ _ hq
       | _ => first
         | (intro hh; exact hh.elim)
         | (intro hh; exact StepQ_mono (A := A) (dst := dst) h .normal _ w' hh)
     | halt x w' => cases x <;> intro hh <;> exact hh.elim
   · exact absurd hh.2 hlo
 · rename_i hw
   rw [if_neg hw] at hh
   exact StepQ_mono h _ _ _ hh
end
end
section
open Go.RowKit
section
variable {P : Program} {ops : Array Oper} {Q : Exit → Act → World → Prop}
def backP (ops : Array Oper) : Bool := (List.range ops.size).all fun i => match ops[i]? with | some o => o.after.all fun e => !Region.binds .any e || decide (e.on < i) | none => true
theorem all_listedP {listed : Array Bool} (hb : backP ops = true) (hr : Region.ready .any ops listed = []) (hs : listed.size = ops.size) : ∀ i, i < ops.size → listed.getD i false = true := by
 intro i
 induction i using Nat.strongRecOn with
 | _ i ih =>
   intro hi
   cases hl : listed.getD i false with
   | true => rfl
   | false =>
     exfalso
     have hl2 : listed.getD i true = false := by
      have : i < listed.size := by omega
      simp [this] at hl ⊢
      exact hl
     have h1 := List.all_eq_true.1 hb i (List.mem_range.2 hi)
     have ho : ops[i]? = some ops[i] := Array.getElem?_eq_getElem hi
     rw [ho] at h1
     have h2 : i ∈ Region.ready .any ops listed := mem_ready.2 ⟨hl2, ops[i], ho, fun e he hbd => by
      have h3 := Array.all_eq_true_iff_forall_mem.1 h1 e he
      rw [hbd] at h3
      have h4 : e.on < i := by simpa using h3
      exact ih e.on h4 (by omega)⟩
     rw [hr] at h2
     cases h2
def sinkP (ops : Array Oper) (p n : Nat) : Bool := (List.range n).all fun i => decide (i < p) || (List.range (n + 1)).any fun j => decide (i < j) && waitB' ops j i
theorem tail_waitsP {p n : Nat} {listed : Array Bool} (hs : sinkP ops p n = true) (hc : Region.chainB .any ops n = true) (inv : HeadInv .any ops n listed) :
 ∀ (d i : Nat), n - i = d → p ≤ i → i < n → listed.getD i true = false → ∀ t, n ≤ t → t ∉ Region.ready .any ops listed := by
 intro d
 induction d using Nat.strongRecOn with
 | _ d ih =>
   intro i hd hpi hi hun t ht hr
   obtain ⟨_, ot, hot, hall⟩ := mem_ready.1 hr
   have htlt : t < ops.size := (Array.getElem?_eq_some_iff.1 hot).1
   by_cases htn : t = n
   · subst htn
     have h1 := List.all_eq_true.1 hs i (List.mem_range.2 hi)
     simp only [Bool.or_eq_true, decide_eq_true_eq] at h1
     rcases h1 with h1 | h1
     · omega
     · obtain ⟨j, hj, hj2⟩ := List.any_eq_true.1 h1
       simp only [Bool.and_eq_true, decide_eq_true_eq] at hj2
       obtain ⟨oj, hoj, e, he, hb, hon⟩ := waitB'_on hj2.2
       have hjn : j ≤ t := by have := List.mem_range.1 hj; omega
       by_cases hjt : j = t
       · subst hjt
         have : oj = ot := oI (hoj.symm.trans hot)
         subst this
         have h3 := hall e he hb
         rw [hon, getD_both hun] at h3
         cases h3
       · have hju : listed.getD j false = false := by
          cases hl : listed.getD j false with
          | false => rfl
          | true =>
            have h3 := inv.closed j oj hoj hl e he hb
            rw [hon, getD_both hun] at h3
            cases h3
         have hjlt : j < listed.size := by rw [inv.size]; omega
         exact ih (t - j) (by omega) j rfl (by omega) (by omega) (getD_in hjlt hju) t (Nat.le_refl _) hr
   · have h1 := List.all_eq_true.1 hc t (List.mem_range.2 htlt)
     simp only [Bool.or_eq_true, decide_eq_true_eq] at h1
     rcases h1 with h1 | h1
     · omega
     · unfold Region.waitsFor at h1
       rw [hot] at h1
       obtain ⟨k, hk, h2⟩ := Array.any_eq_true.1 h1
       simp only [Bool.and_eq_true, beq_iff_eq] at h2
       have h3 := hall ot.after[k] (Array.getElem_mem hk) (by first | exact h2.1 | exact h2.2)
       have h4 := inv.tail (t - 1) (by omega) (by omega)
       have h5 : listed.getD (t - 1) false = true := by
        first
        | rw [h2.2] at h3; exact h3
        | rw [h2.1] at h3; exact h3
       rw [getD_both h4] at h5
       cases h5
structure HeadStP (ops : Array Oper) (p n : Nat) (Φ : (Nat → Bool) → (Nat → Value) → World → Prop) (a0 : Act) (listed : Array Bool) (a : Act) (w : World) (vs : Nat → Value) : Prop where
 inv : HeadInv .any ops n listed
 pre : ∀ i, i < p → listed.getD i false = true
 sz : a.tmps.size = a0.tmps.size
 df : a.defers = a0.defers
 slot : ∀ i d, p ≤ i → i < n → listed.getD i false = true → dstAt ops i = some d → Slot a d (vs i)
 other : ∀ t, (∀ i, p ≤ i → i < n → listed.getD i false = true → dstAt ops i ≠ some t) → a.tmps[t]? = a0.tmps[t]?
 phi : Φ (fun i => listed.getD i false) vs w
def HeadStepP (P : Program) (ops : Array Oper) (Q : Exit → Act → World → Prop) (p n : Nat) (Φ : (Nat → Bool) → (Nat → Value) → World → Prop) (a0 : Act) : Prop :=
 ∀ i, p ≤ i → i < n → ∀ (L : Nat → Bool) (vs : Nat → Value) (a : Act) (w : World), L i = false → (∀ j, WaitsOn ops i j → L j = true) →
   (∀ j d, p ≤ j → j < n → L j = true → dstAt ops j = some d → Slot a d (vs j)) → (∀ t, (∀ j, p ≤ j → j < n → dstAt ops j ≠ some t) → a.tmps[t]? = a0.tmps[t]?) → Φ L vs w →
   wpOp P ops Q i (fun a' w' => ∃ v, a' = a.put (dstAt ops i) v ∧ Φ (fun j => L j || j == i) (fun j => if j = i then v else vs j) w') a w
theorem mid_get (l : List Oper) (p n i : Nat) (hp : p ≤ n) : (((l.take n).drop p)[i]?).bind (·.dst) = if p + i < n then dstAt l.toArray (p + i) else none := by
 rw [List.getElem?_drop, List.getElem?_take]
 split
 · unfold dstAt; simp
 · rfl
set_option maxHeartbeats 1000000 in
theorem wpAny_headP {p n : Nat} {Φ : (Nat → Bool) → (Nat → Value) → World → Prop} {a0 : Act} {l : List Oper} (hΦ : ∀ L L' vs vs' w, (∀ i, p ≤ i → i < n → L i = L' i) → (∀ i, p ≤ i → i < n → L i = true → vs i = vs' i) → Φ L vs w → Φ L' vs' w) (hops : ops = l.toArray) (hpn : p ≤ n) (hn : n < ops.size) (hb : backP ops = true) (hs : sinkP ops p n = true) (hc : Region.chainB .any ops n = true) (hd : dstsB ops n a0.tmps.size = true)
 (hq : Region.seqB .any ops (ops.size - n) n (headAll n ops.size) = true) (hstep : HeadStepP P ops Q p n Φ a0)
 (hend : ∀ vs w, Φ (fun _ => true) vs w → wpList P ops Q (l.drop n) (fillA a0 ((l.take n).drop p) p vs) w) :
 ∀ (f : Nat) (listed : Array Bool) (a : Act) (w : World) (vs : Nat → Value), unlisted listed = f → HeadStP ops p n Φ a0 listed a w vs → wpAny P .any ops Q f listed a w := by
 have hmid : ∀ i, (((l.take n).drop p)[i]?).bind (·.dst) = if p + i < n then dstAt ops (p + i) else none := fun i => by rw [hops]; exact mid_get l p n i hpn
 have hends : ∀ (listed : Array Bool) (a : Act) (w : World) (vs : Nat → Value), HeadStP ops p n Φ a0 listed a w vs → (∀ i, i < n → listed.getD i false = true) → wpAny P .any ops Q (unlisted listed) listed a w := by
  intro listed a w vs H hall
  have hl : listed = headAll n ops.size := headAll_eq H.inv.size hall H.inv.tail
  have ha : a = fillA a0 ((l.take n).drop p) p vs := by
   obtain ⟨g1, g2⟩ := fillA_size ((l.take n).drop p) a0 p vs
   refine act_ext (H.sz.trans g1.symm) (H.df.trans g2.symm) fun t => ?_
   by_cases hx : ∃ i, p ≤ i ∧ i < n ∧ dstAt ops i = some t
   · obtain ⟨i, hpi, hi, hit⟩ := hx
     rw [H.slot i t hpi hi (hall i hi) hit]
     rw [fillA_at _ a0 p vs (i - p) t (by rw [hmid, if_pos (by omega), show p + (i - p) = i by omega]; exact hit) (dstsB_lt hd hi hit) (fun j hj he => by
      rw [hmid] at he
      by_cases hjn : p + j < n
      · rw [if_pos hjn] at he
        exact dstsB_ne hd hi hjn (fun e => hj (by omega)) hit he
      · rw [if_neg hjn] at he; cases he), show p + (i - p) = i by omega]
   · have hno : ∀ i, p ≤ i → i < n → dstAt ops i ≠ some t := fun i hp hi he => hx ⟨i, hp, hi, he⟩
     rw [H.other t (fun i hp hi _ => hno i hp hi)]
     rw [fillA_other]
     intro o ho he
     obtain ⟨i, hi⟩ := List.mem_iff_getElem?.1 ho
     have h1 := hmid i
     rw [hi] at h1
     by_cases hin : p + i < n
     · rw [if_pos hin] at h1
       exact hno (p + i) (by omega) hin (h1.symm.trans (by simpa using he))
     · rw [if_neg hin] at h1
       simp [he] at h1
  rw [ha]
  have hlen : (l.drop n).length = ops.size - n := by rw [hops]; simp
  have h3 := wpAny_of_seq (md := .any) (Q' := Q) (l.drop n) n (headAll n ops.size) (fillA a0 ((l.take n).drop p) p vs) w (fun j => by rw [hops]; simp) (by rw [hlen]; exact hq) (hend vs w (hΦ _ _ _ _ _ (fun i _ hi => hall i hi) (fun _ _ _ _ => rfl) H.phi))
  rw [hl, unlisted_headAll (Nat.le_of_lt hn), ← hlen]
  exact h3
 intro f
 induction f with
 | zero =>
   intro listed a w vs hu H
   have := hends listed a w vs H (fun i hi => by
    cases hl : listed.getD i false with
    | true => rfl
    | false =>
      have := unlisted_set (i := i) (getD_in (by rw [H.inv.size]; omega) hl)
      omega)
   rw [hu] at this
   exact this
 | succ f ih =>
   intro listed a w vs hu H
   by_cases hall : ∀ i, i < n → listed.getD i false = true
   · have := hends listed a w vs H hall
     rw [hu] at this
     exact this
   · obtain ⟨i0, hi0, hun0⟩ : ∃ i, i < n ∧ listed.getD i false = false := by
      false_or_by_contra
      rename_i hc'
      refine hall fun i hi => ?_
      cases hl : listed.getD i false with
      | true => rfl
      | false => exact absurd ⟨i, hi, hl⟩ hc'
     have hpi0 : p ≤ i0 := by
      false_or_by_contra
      rename_i hc'
      rw [H.pre i0 (by omega)] at hun0
      cases hun0
     have hun0' := getD_in (by rw [H.inv.size]; omega) hun0
     refine ⟨fun hr => ?_, fun i hi => ?_⟩
     · have := all_listedP hb hr H.inv.size i0 (by omega)
       rw [hun0] at this
       cases this
     · have hin : i < n := Nat.lt_of_not_le fun hle => tail_waitsP hs hc H.inv _ i0 rfl hpi0 hi0 hun0' i hle hi
       obtain ⟨hun, o, ho, hao⟩ := mem_ready.1 hi
       have hunf := getD_both hun
       have hpi : p ≤ i := by
        false_or_by_contra
        rename_i hc'
        rw [H.pre i (by omega)] at hunf
        cases hunf
       have hilt : i < listed.size := by rw [H.inv.size]; omega
       have lset : ∀ j, (listed.setIfInBounds i true).getD j false = (listed.getD j false || j == i) := fun j => by
        by_cases e : i = j
        · subst e; simp [hilt]
        · rw [getD_set_ne false e]
          have : (j == i) = false := by simp; omega
          rw [this, Bool.or_false]
       have h0 := hstep i hpi hin (fun j => listed.getD j false) vs a w hunf (fun j hj => by
        obtain ⟨o', ho', e, he, hbd, hon⟩ := hj
        have : o' = o := oI (ho'.symm.trans ho)
        subst this
        rw [← hon]
        exact hao e he hbd) (fun j d hp hj hlj hdj => H.slot j d hp hj hlj hdj) (fun t ht => H.other t fun j hp hj _ => ht j hp hj) H.phi
       refine wpOp_mono (fun a' w' h1 => ?_) h0
       obtain ⟨v, rfl, hphi⟩ := h1
       refine ih _ _ _ (fun j => if j = i then v else vs j) ?_ ⟨H.inv.set hi hin, fun j hj => by rw [lset, H.pre j hj]; rfl, ?_, ?_, fun j d hpj hj hl hdj => ?_, fun t ht => ?_, ?_⟩
       · have := unlisted_set (i := i) hun
         omega
       · cases dstAt ops i <;> simp [Act.put, H.sz]
       · cases dstAt ops i <;> simp [Act.put, H.df]
       · by_cases e : j = i
         · subst e
           rw [hdj]
           simp only [if_pos]
           exact Slot.put (by rw [H.sz]; exact dstsB_lt hd hj hdj)
         · simp only [if_neg e]
           rw [lset] at hl
           have : (j == i) = false := by simp [e]
           rw [this, Bool.or_false] at hl
           have hs0 := H.slot j d hpj hj hl hdj
           cases hdi : dstAt ops i with
           | none => exact hs0
           | some d' => exact hs0.other (fun e2 => dstsB_ne hd hj hin e hdj (e2 ▸ hdi))
       · have h2 := H.other t fun j hpj hj hl => ht j hpj hj (by rw [lset, hl]; rfl)
         rw [← h2]
         have h3 := ht i hpi hin (by rw [lset]; simp)
         cases hdi : dstAt ops i with
         | none => rfl
         | some d' =>
           have : d' ≠ t := fun e => h3 (by rw [hdi, e])
           simp [Act.put, Array.getElem?_setIfInBounds_ne this]
       · refine hΦ _ _ _ _ _ (fun j _ _ => (lset j).symm) (fun _ _ _ _ => rfl) hphi
def Peels (P : Program) (ops : Array Oper) : List Oper → Act → Act → Prop
 | [], a, b => b = a
 | o :: l, a, b => ∃ v, Yields P ops o v a ∧ Peels P ops l (a.put o.dst v) b
def peelB (ops : Array Oper) : Nat → Nat → Bool
 | 0, _ => true
 | m + 1, k => (Region.ready .any ops (headAll k ops.size)).contains k && Region.free .any ops (headAll k ops.size) k && peelB ops m (k + 1)
theorem headAll_get (k m i : Nat) : (headAll k m)[i]? = if i < m then some (decide (i < k)) else none := by
 unfold headAll
 rw [List.getElem?_toArray, List.getElem?_map]
 by_cases h : i < m
 · rw [List.getElem?_range h, if_pos h]; rfl
 · rw [List.getElem?_eq_none (by simp; omega), if_neg h]; rfl
theorem headAll_getD (k m i : Nat) : (headAll k m).getD i false = decide (i < k ∧ i < m) := by
 rw [Array.getD_eq_getD_getElem?, headAll_get]
 by_cases h : i < m
 · rw [if_pos h]
   exact decide_eq_decide.2 ⟨fun h1 => ⟨h1, h⟩, fun h1 => h1.1⟩
 · rw [if_neg h]
   exact (decide_eq_false (fun h1 => h h1.2)).symm
theorem headAll_set {k m : Nat} (hk : k < m) : (headAll k m).setIfInBounds k true = headAll (k + 1) m := by
 apply Array.ext_getElem?
 intro i
 rw [headAll_get, Array.getElem?_setIfInBounds, headAll_get]
 by_cases e : k = i
 · subst e
   rw [if_pos rfl, if_pos hk, if_pos (by simp [headAll]; exact hk)]
   simp
 · rw [if_neg e]
   by_cases h : i < m
   · rw [if_pos h, if_pos h]
     exact congrArg some (decide_eq_decide.2 ⟨fun h1 => by omega, fun h1 => by omega⟩)
   · rw [if_neg h, if_neg h]
theorem Peels.size : ∀ (l : List Oper) {a b : Act}, Peels P ops l a b → b.tmps.size = a.tmps.size ∧ b.defers = a.defers
 | [], a, b, h => by cases h; exact ⟨rfl, rfl⟩
 | o :: l, a, b, ⟨v, _, h⟩ => by
   obtain ⟨h1, h2⟩ := Peels.size l h
   refine ⟨h1.trans ?_, h2.trans ?_⟩
   · cases o.dst <;> simp [Act.put]
   · cases o.dst <;> simp [Act.put]
theorem wpAny_peel (hsel : Region.noSelect ops = true) (hQ : ∀ c (b : Act) d v w, Q (.panic c) (b.put d v) w → Q (.panic c) b w) :
 ∀ (m k : Nat) (l : List Oper) (a b : Act) (w : World), l.length = m → (∀ j, j < m → l[j]? = ops[k + j]?) → k + m ≤ ops.size → peelB ops m k = true → Peels P ops l a b →
   wpAny P .any ops Q (ops.size - (k + m)) (headAll (k + m) ops.size) b w → wpAny P .any ops Q (ops.size - k) (headAll k ops.size) a w
 | 0, k, l, a, b, w, hl, _, _, _, hp, h => by
   have : l = [] := List.length_eq_zero_iff.1 hl
   subst this
   cases hp
   exact h
 | m + 1, k, l, a, b, w, hl, hk, hle, hB, hp, h => by
   rcases l with _ | ⟨o, l⟩
   · cases hl
   · obtain ⟨v, hy, hp⟩ := hp
     simp only [peelB, Bool.and_eq_true] at hB
     obtain ⟨⟨hr, hf⟩, hB⟩ := hB
     have h0 : ops[k]? = some o := by simpa using (hk 0 (by omega)).symm
     have ih := wpAny_peel hsel hQ m (k + 1) l _ b w (by simpa using hl) (fun j hj => by have := hk (j + 1) (by omega); simpa [Nat.add_assoc, Nat.add_comm 1 j] using this) (by omega) hB hp (by rw [show k + 1 + m = k + (m + 1) by omega]; exact h)
     rw [show ops.size - k = (ops.size - (k + 1)) + 1 by omega]
     refine wpAny_first h0 (Region.noSelect_spec hsel) (fun c a w hq => hQ c a _ _ w hq) _ _ _ _ (Region.free_spec h0 hf) (by simpa using hr) hy ?_
     rw [headAll_set (by omega)]
     exact ih
def peelHeadB (ops : Array Oper) (p n S : Nat) : Bool :=
 decide (p ≤ n) && decide (n < ops.size) && backP ops && sinkP ops p n && Region.chainB .any ops n && dstsB ops n S && Region.seqB .any ops (ops.size - n) n (headAll n ops.size) && readsB ops n && Region.noSelect ops && peelB ops p 0 && headInvB ops p
 where headInvB (ops : Array Oper) (p : Nat) : Bool := (List.range p).all fun i => match ops[i]? with
 | none => true
 | some o => o.after.all fun e => !Region.binds .any e || decide (e.on < p)
theorem wp_region_peel {id : Nat} {a b : Act} {w : World} {l : List Oper} (p n : Nat) (Φ : (Nat → Bool) → (Nat → Value) → World → Prop) (hm : P.follows .mixedOrders = true) (hB : peelHeadB l.toArray p n a.tmps.size = true)
 (hp : Peels P l.toArray (l.take p) a b) (hQ : ∀ c (b : Act) d v w, Q (.panic c) (b.put d v) w → Q (.panic c) b w)
 (hΦ : ∀ L L' vs vs' w, (∀ i, p ≤ i → i < n → L i = L' i) → (∀ i, p ≤ i → i < n → L i = true → vs i = vs' i) → Φ L vs w → Φ L' vs' w)
 (h0 : Φ (fun i => decide (i < p)) (fun _ => undef) w.drew)
 (hstep : ∀ i o, p ≤ i → i < n → l[i]? = some o → ∀ (L : Nat → Bool) (vs : Nat → Value) (u : World), L i = false → (∀ j, waitB' l.toArray i j = true → L j = true) → Φ L vs u →
  wpList P l.toArray (StepQ (fillA b ((l.take n).drop p) p vs) o.dst fun v u' => Φ (fun j => L j || j == i) (fun j => if j = i then v else vs j) u') [o] (fillA b ((l.take n).drop p) p vs) u)
 (hend : ∀ vs u, Φ (fun _ => true) vs u → wpList P l.toArray Q (l.drop n) (fillA b ((l.take n).drop p) p vs) u) : (Code.region id l.toArray true).wp P Q a w := by
 simp only [peelHeadB, Bool.and_eq_true, decide_eq_true_eq] at hB
 obtain ⟨⟨⟨⟨⟨⟨⟨⟨⟨⟨hpn, hn⟩, hbk⟩, hs⟩, hc⟩, hds⟩, hq⟩, hR⟩, hS⟩, hpl⟩, hiv⟩ := hB
 have hsz := Peels.size _ hp
 have hds' : dstsB l.toArray n b.tmps.size = true := by rw [hsz.1]; exact hds
 have hlen : l.toArray.size = l.length := by simp
 refine wp_region_any hm ?_
 have hrep : Array.replicate l.toArray.size false = headAll 0 l.toArray.size := by
  apply Array.ext
  · simp [headAll]
  · intro i h1 h2; simp [headAll]
 rw [hrep]
 refine wpAny_peel (ops := l.toArray) hS hQ p 0 (l.take p) a b _ (by rw [List.length_take]; omega) (fun j hj => by rw [List.getElem?_take, if_pos hj]; simp) (by omega) hpl hp ?_
 rw [Nat.zero_add, ← unlisted_headAll (ops := l.toArray) (n := p) (by omega)]
 have hgp : ∀ j, (headAll p l.toArray.size).getD j false = decide (j < p ∧ j < l.toArray.size) := fun j => headAll_getD _ _ _
 refine wpAny_headP hΦ rfl hpn hn hbk hs hc hds' hq ?_ hend _ _ b w.drew (fun _ => undef) rfl ⟨⟨by simp [headAll], fun j oj hoj hl e he hb => ?_, fun t ht ht' => ?_⟩, fun i hi => ?_, rfl, rfl, fun i d hpi hi hl => ?_, fun t _ => rfl, ?_⟩
 · intro i hpi hi L vs a' u hun hw hsl hot hphi
   have hil : i < l.length := by omega
   have ho : l.toArray[i]? = some l[i] := by simp [hil]
   have hol : l[i]? = some l[i] := List.getElem?_eq_getElem hil
   have h1 := hstep i l[i] hpi hi hol L vs u hun (fun j hwj => hw j (waitB'_on hwj)) hphi
   have hfs := (fillA_size ((l.take n).drop p) b p vs).1
   have hdo : dstAt l.toArray i = l[i].dst := by unfold dstAt; rw [ho]; rfl
   refine wpOp_of_step (n := n) (K := fun v u' => Φ (fun j => L j || j == i) (fun j => if j = i then v else vs j) u') ho (fun cs b => Region.noSelect_spec hS i _ cs b ho) (fun d hd => by rw [hfs]; exact dstsB_lt hds' hi (hdo.trans hd)) (fun t ht => ?_) h1
   have hmid := fun k => mid_get l p n k hpn
   by_cases hx : ∃ j, p ≤ j ∧ j < n ∧ dstAt l.toArray j = some t
   · obtain ⟨j, hpj, hj, hjt⟩ := hx
     have hwj := readsB_spec hR hi hj ho hjt ht
     have h2 : a'.tmps[t]? = some (vs j) := hsl j t hpj hj (hw j hwj) hjt
     rw [h2, fillA_at _ b p vs (j - p) t (by rw [hmid, if_pos (by omega), show p + (j - p) = j by omega]; exact hjt) (dstsB_lt hds' hj hjt) (fun k hk he => by
      rw [hmid] at he
      by_cases hkn : p + k < n
      · rw [if_pos hkn] at he
        exact dstsB_ne hds' hj hkn (fun e => hk (by omega)) hjt he
      · rw [if_neg hkn] at he; cases he), show p + (j - p) = j by omega]
   · have h2 : ∀ j, p ≤ j → j < n → dstAt l.toArray j ≠ some t := fun j hpj hj he => hx ⟨j, hpj, hj, he⟩
     rw [hot t h2, fillA_other]
     intro o' ho' he'
     obtain ⟨k, hk⟩ := List.mem_iff_getElem?.1 ho'
     have h3 := hmid k
     rw [hk] at h3
     by_cases hkn : p + k < n
     · rw [if_pos hkn] at h3
       exact h2 (p + k) (by omega) hkn (h3.symm.trans (by simpa using he'))
     · rw [if_neg hkn] at h3
       simp [he'] at h3
 · rw [hgp] at hl
   have hjp : j < p := (of_decide_eq_true hl).1
   have h1 := List.all_eq_true.1 hiv j (List.mem_range.2 hjp)
   rw [hoj] at h1
   have h2 := Array.all_eq_true_iff_forall_mem.1 h1 e he
   rw [hb] at h2
   have h3 : e.on < p := by simpa using h2
   rw [hgp]
   exact decide_eq_true ⟨h3, by omega⟩
 · refine getD_in (by simpa [headAll] using ht') ?_
   rw [hgp]
   exact decide_eq_false (by omega)
 · rw [hgp]
   exact decide_eq_true ⟨hi, by omega⟩
 · rw [hgp] at hl
   have := (of_decide_eq_true hl).1
   omega
 · refine hΦ _ _ _ _ _ (fun i hpi hi => ?_) (fun _ _ _ _ => rfl) h0
   rw [hgp]
   exact decide_eq_decide.2 ⟨fun h => ⟨h, by omega⟩, fun h => h.1⟩
theorem wp_region_peelF {id : Nat} {a b : Act} {w : World} {l : List Oper} (p n : Nat) (F : Nat → Value → World → Prop) (hm : P.follows .mixedOrders = true) (hB : peelHeadB l.toArray p n a.tmps.size = true)
 (hp : Peels P l.toArray (l.take p) a b) (hQ : ∀ c (b : Act) d v w, Q (.panic c) (b.put d v) w → Q (.panic c) b w)
 (hF : ∀ i v u u', Below u.heap.size u u' → F i v u → F i v u')
 (hstep : ∀ i o, p ≤ i → i < n → l[i]? = some o → ∀ (vs : Nat → Value) (u : World), Below w.heap.size w u → (∀ j, p ≤ j → j < n → waitB' l.toArray i j = true → F j (vs j) u) →
  wpList P l.toArray (StepQ (fillA b ((l.take n).drop p) p vs) o.dst fun v u' => Below u.heap.size u u' ∧ F i v u') [o] (fillA b ((l.take n).drop p) p vs) u)
 (hend : ∀ vs u, Below w.heap.size w u → (∀ i, p ≤ i → i < n → F i (vs i) u) → wpList P l.toArray Q (l.drop n) (fillA b ((l.take n).drop p) p vs) u) : (Code.region id l.toArray true).wp P Q a w := by
 refine wp_region_peel p n (fun L vs u => Below w.heap.size w u ∧ ∀ i, p ≤ i → i < n → L i = true → F i (vs i) u) hm hB hp hQ ?_ ⟨(bR).drew, fun i hpi _ h => by have := of_decide_eq_true h; omega⟩ ?_ ?_
 · intro L L' vs vs' u h1 h2 h3
   refine ⟨h3.1, fun i hpi hi hl => ?_⟩
   have hl2 : L i = true := (h1 i hpi hi).trans hl
   rw [← h2 i hpi hi hl2]
   exact h3.2 i hpi hi hl2
 · intro i o hpi hi hol L vs u hun hw hphi
   refine wpList_one_mono (fun v u' h1 => ?_) (hstep i o hpi hi hol vs u hphi.1 fun j hpj hj hwj => hphi.2 j hpj hj (hw j hwj))
   obtain ⟨hb, hf⟩ := h1
   refine ⟨hphi.1.trans (hb.mono hphi.1.size), fun j hpj hj hl => ?_⟩
   by_cases e : j = i
   · subst e; simp only [if_pos]; exact hf
   · simp only [if_neg e]
     have hlj : (L j || j == i) = true := hl
     have : (j == i) = false := by simp [e]
     rw [this, Bool.or_false] at hlj
     exact hF j _ _ _ hb (hphi.2 j hpj hj hlj)
 · intro vs u hphi
   exact hend vs u hphi.1 fun i hpi hi => hphi.2 i hpi hi rfl
end
end
section
open Go.RowKit
def setFrom : Array Value → Nat → List Value → Array Value
 | cs, _, [] => cs
 | cs, o, v :: vs => setFrom (cs.setIfInBounds o v) (o + 1) vs
theorem setFrom_size : ∀ (vs : List Value) (cs : Array Value) (o : Nat), (setFrom cs o vs).size = cs.size
 | [], _, _ => rfl
 | v :: vs, cs, o => by rw [setFrom, setFrom_size vs]; simp
theorem setFrom_low : ∀ (vs : List Value) (cs : Array Value) (o k : Nat), k < o → (setFrom cs o vs)[k]? = cs[k]?
 | [], _, _, _, _ => rfl
 | v :: vs, cs, o, k, h => by
   rw [setFrom, setFrom_low vs _ _ _ (by omega), Array.getElem?_setIfInBounds_ne (by omega)]
theorem setFrom_at : ∀ (vs : List Value) (cs : Array Value) (o j : Nat), o + vs.length ≤ cs.size → j < vs.length → (setFrom cs o vs)[o + j]? = vs[j]?
 | [], _, _, _, _, h => absurd h (Nat.not_lt_zero _)
 | v :: vs, cs, o, 0, hs, _ => by
   rw [setFrom, setFrom_low vs _ _ _ (by omega)]
   simp only [List.length_cons] at hs
   simp [show o < cs.size by omega]
 | v :: vs, cs, o, j + 1, hs, h => by
   simp only [List.length_cons] at hs h
   rw [setFrom, show o + (j + 1) = (o + 1) + j by omega, setFrom_at vs _ _ _ (by simp; omega) (by omega)]
   rfl
theorem setFrom_all {vs : List Value} {cs : Array Value} (h : vs.length = cs.size) : setFrom cs 0 vs = vs.toArray := by
 apply Array.ext_getElem?
 intro k
 by_cases hk : k < vs.length
 · have := setFrom_at vs cs 0 k (by omega) hk
   rw [Nat.zero_add] at this
   rw [this, List.getElem?_toArray]
 · rw [Array.getElem?_eq_none (by rw [setFrom_size]; omega), Array.getElem?_eq_none (by simp; omega)]
theorem bx_set_same {w : World} {z k e : Nat} {cs : Array Value} {fz : Nat × Nat} (h : w.heap[z]? = some (.cells cs e fz)) (v : Value) : (w.setCell ⟨z, k, none⟩ v).heap[z]? = some (.cells (cs.setIfInBounds k v) e fz) := by
 simp [World.setCell, Array.getElem?_modify, h]
theorem bx_cells_same {z e : Nat} {fz : Nat × Nat} : ∀ (vs : List Value) (o : Nat) {w : World} {cs : Array Value}, w.heap[z]? = some (.cells cs e fz) → (w.setCells z o vs).heap[z]? = some (.cells (setFrom cs o vs) e fz)
 | [], _, _, _, h => h
 | v :: vs, o, w, cs, h => bx_cells_same vs (o + 1) (bx_set_same h v)
theorem bx_cells_other {z i : Nat} (hi : i ≠ z) : ∀ (vs : List Value) (o : Nat) {w : World}, (w.setCells z o vs).heap[i]? = w.heap[i]?
 | [], _, _ => rfl
 | v :: vs, o, w => (bx_cells_other hi vs (o + 1)).trans (Below.heap_setCell _ _ _ _ hi)
theorem bx_cells_base {B z : Nat} (hB : B ≤ z) : ∀ (vs : List Value) (o : Nat) (w : World), Below B w (w.setCells z o vs)
 | [], _, w => bR
 | v :: vs, o, w => ((Below.refl B w).setCell hB _).trans (bx_cells_base hB vs (o + 1) _)
theorem bx_there {w : World} {z e : Nat} {cs : Array Value} (h : w.heap[z]? = some (.cells cs e (0, 0))) : w.there z 0 cs.size := fun j hj => by
 rw [Nat.zero_add]
 refine ⟨?_, frozen_of_row w z j _ _ h⟩
 have : w.cell? ⟨z, j, none⟩ = some cs[j] := by simp [World.cell?, h, hj]
 rw [this]
 rfl
structure Bx where
 al : Nat
 st : Nat
 ty : Nat
 z : Array Value
 f : Array Value
def bxIdx (l : List Bx) : List Nat := l.flatMap fun x => [x.al, x.st]
def bxB (ops : Array Oper) (p n : Nat) (l : List Bx) : Bool := (l.all fun x => decide (p ≤ x.al ∧ x.al < n ∧ p ≤ x.st ∧ x.al ≠ x.st) && waitB' ops x.st x.al) && decide (bxIdx l).Nodup
def bxL (n : Nat) (L : Nat → Bool) (i : Nat) : Bool := decide (i < n) && L i
theorem bx_al_mem {l : List Bx} {x : Bx} (h : x ∈ l) : x.al ∈ bxIdx l := List.mem_flatMap.2 ⟨x, h, by simp⟩
theorem bx_st_mem {l : List Bx} {x : Bx} (h : x ∈ l) : x.st ∈ bxIdx l := List.mem_flatMap.2 ⟨x, h, by simp⟩
theorem bx_apart : ∀ {l : List Bx}, (bxIdx l).Nodup → ∀ x ∈ l, ∀ y ∈ l, (x.al = y.al ∨ x.st = y.st → x = y) ∧ x.al ≠ y.st
 | [], _, x, hx, _, _ => by cases hx
 | a :: l, hn, x, hx, y, hy => by
   have hn' : (a.al :: a.st :: bxIdx l).Nodup := hn
   rw [List.nodup_cons, List.nodup_cons] at hn'
   obtain ⟨h1, h2, h3⟩ := hn'
   simp only [List.mem_cons, not_or] at h1
   rcases List.mem_cons.1 hx with rfl | hx' <;> rcases List.mem_cons.1 hy with rfl | hy'
   · exact ⟨fun _ => rfl, h1.1⟩
   · refine ⟨fun h => ?_, fun h => h1.2 (h ▸ bx_st_mem hy')⟩
     rcases h with h | h
     · exact absurd (h ▸ bx_al_mem hy') h1.2
     · exact absurd (h ▸ bx_st_mem hy') h2
   · refine ⟨fun h => ?_, fun h => h2 (h ▸ bx_al_mem hx')⟩
     rcases h with h | h
     · exact absurd (h ▸ bx_al_mem hx') h1.2
     · exact absurd (h ▸ bx_st_mem hx') h2
   · exact bx_apart h3 x hx' y hy'
structure BxSt (W : World) (p n : Nat) (F : Nat → Value → Prop) (bx : List Bx) (L : Nat → Bool) (vs : Nat → Value) (u : World) : Prop where
 b : Below W.heap.size W u
 f : ∀ i, p ≤ i → i < n → i ∉ bxIdx bx → L i = true → F i (vs i)
 x : ∀ x ∈ bx, L x.al = true → ∃ b, vs x.al = .pointer (some ⟨b, 0, none⟩) ∧ W.heap.size ≤ b ∧ u.heap[b]? = some (.cells (if bxL n L x.st = true then x.f else x.z) x.ty (0, 0))
 d : ∀ x ∈ bx, ∀ y ∈ bx, L x.al = true → L y.al = true → vs x.al = vs y.al → x = y
 s : ∀ x ∈ bx, bxL n L x.st = true → L x.al = true
section
variable {P : Program} {Q : Exit → Act → World → Prop}
theorem wp_region_boxes {id : Nat} {a b : Act} {w : World} {l : List Oper} (p n : Nat) (F : Nat → Value → Prop) (bx : List Bx) (hm : P.follows .mixedOrders = true) (hB : peelHeadB l.toArray p n a.tmps.size = true) (hX : bxB l.toArray p n bx = true)
 (hp : Peels P l.toArray (l.take p) a b) (hQ : ∀ c (b : Act) d v w, Q (.panic c) (b.put d v) w → Q (.panic c) b w)
 (hsz : ∀ x ∈ bx, x.f.size = x.z.size)
 (hpure : ∀ i o, p ≤ i → i < n → l[i]? = some o → i ∉ bxIdx bx → ∀ (vs : Nat → Value) (u : World), Below w.heap.size w u → (∀ j, p ≤ j → j < n → j ∉ bxIdx bx → waitB' l.toArray i j = true → F j (vs j)) →
  wpList P l.toArray (StepQ (fillA b ((l.take n).drop p) p vs) o.dst fun v u' => u' = u ∧ F i v) [o] (fillA b ((l.take n).drop p) p vs) u)
 (halloc : ∀ x ∈ bx, ∀ o, l[x.al]? = some o → ∀ (vs : Nat → Value) (u : World),
  wpList P l.toArray (StepQ (fillA b ((l.take n).drop p) p vs) o.dst fun v u' => u' = u.alloc (.cells x.z x.ty) ∧ v = .pointer (some ⟨u.heap.size, 0, none⟩)) [o] (fillA b ((l.take n).drop p) p vs) u)
 (hstore : ∀ x ∈ bx, x.st < n → ∀ o, l[x.st]? = some o → ∀ (vs : Nat → Value) (u : World) (g : Nat), Below w.heap.size w u → vs x.al = .pointer (some ⟨g, 0, none⟩) → u.there g 0 x.f.size → (∀ j, p ≤ j → j < n → j ∉ bxIdx bx → waitB' l.toArray x.st j = true → F j (vs j)) →
  wpList P l.toArray (StepQ (fillA b ((l.take n).drop p) p vs) o.dst fun v u' => u' = u.setCells g 0 x.f.toList) [o] (fillA b ((l.take n).drop p) p vs) u)
 (hend : ∀ vs u, Below w.heap.size w u → (∀ i, p ≤ i → i < n → i ∉ bxIdx bx → F i (vs i)) → (∀ x ∈ bx, ∃ g, vs x.al = .pointer (some ⟨g, 0, none⟩) ∧ w.heap.size ≤ g ∧ u.heap[g]? = some (.cells (if x.st < n then x.f else x.z) x.ty (0, 0))) → (∀ x ∈ bx, ∀ y ∈ bx, vs x.al = vs y.al → x = y) →
  wpList P l.toArray Q (l.drop n) (fillA b ((l.take n).drop p) p vs) u) : (Code.region id l.toArray true).wp P Q a w := by
 unfold bxB at hX
 simp only [Bool.and_eq_true, List.all_eq_true, decide_eq_true_eq] at hX
 obtain ⟨hX1, hX2⟩ := hX
 have hap := bx_apart hX2
 refine wp_region_peel p n (BxSt w p n F bx) hm hB hp hQ ?_ ⟨(bR).drew, fun i hpi _ _ h => by have := of_decide_eq_true h; omega, fun x hx h => by have := of_decide_eq_true h; have := (hX1 x hx).1; omega, fun x hx y hy h => by have := of_decide_eq_true h; have := (hX1 x hx).1; omega, fun x hx h => by
  unfold bxL at h
  simp only [Bool.and_eq_true, decide_eq_true_eq] at h
  have := (hX1 x hx).1
  omega⟩ ?_ ?_
 · intro L L' vs vs' u h1 h2 S
   have hal : ∀ x ∈ bx, p ≤ x.al ∧ x.al < n := fun x hx => ⟨(hX1 x hx).1.1, (hX1 x hx).1.2.1⟩
   have hst : ∀ x ∈ bx, bxL n L x.st = bxL n L' x.st := fun x hx => by
    unfold bxL
    by_cases hc : x.st < n
    · rw [h1 _ (hX1 x hx).1.2.2.1 hc]
    · rw [decide_eq_false hc]; rfl
   refine ⟨S.b, fun i hpi hi hni hl => ?_, fun x hx hl => ?_, fun x hx y hy hl hl2 he => ?_, fun x hx hl => (h1 _ (hal x hx).1 (hal x hx).2).symm.trans (S.s x hx ((hst x hx).trans hl))⟩
   · have hl2 := (h1 i hpi hi).trans hl
     rw [← h2 i hpi hi hl2]
     exact S.f i hpi hi hni hl2
   · have hl2 := (h1 _ (hal x hx).1 (hal x hx).2).trans hl
     obtain ⟨g, e1, e2, e3⟩ := S.x x hx hl2
     refine ⟨g, ?_, e2, ?_⟩
     · rw [← h2 _ (hal x hx).1 (hal x hx).2 hl2]; exact e1
     · rw [← hst x hx]; exact e3
   · have hlx := (h1 _ (hal x hx).1 (hal x hx).2).trans hl
     have hly := (h1 _ (hal y hy).1 (hal y hy).2).trans hl2
     rw [← h2 _ (hal x hx).1 (hal x hx).2 hlx, ← h2 _ (hal y hy).1 (hal y hy).2 hly] at he
     exact S.d x hx y hy hlx hly he
 · intro i o hpi hi ho L vs u hL hw S
   have hor : ∀ j, (L j || j == i) = true → j ≠ i → L j = true := fun j hj hne => by
    have : (j == i) = false := beq_false_of_ne hne
    rwa [this, Bool.or_false] at hj
   have hor2 : ∀ j, j ≠ i → bxL n (fun j => L j || j == i) j = bxL n L j := fun j hne => by
    have : (j == i) = false := beq_false_of_ne hne
    unfold bxL
    simp only [this, Bool.or_false]
   have hfw : ∀ j, p ≤ j → j < n → j ∉ bxIdx bx → waitB' l.toArray i j = true → F j (vs j) := fun j hpj hj hnj hwj => S.f j hpj hj hnj (hw j hwj)
   by_cases hmem : i ∈ bxIdx bx
   · obtain ⟨x, hx, hix⟩ := List.mem_flatMap.1 hmem
     simp only [List.mem_cons, List.not_mem_nil, or_false] at hix
     rcases hix with rfl | rfl
     ·
      refine wpList_one_mono (fun v u' h1 => ?_) (halloc x hx o ho vs u)
      obtain ⟨rfl, rfl⟩ := h1
      have hbk : ∀ (g : Nat) (cs : Array Value) (e : Nat) (fz : Nat × Nat), u.heap[g]? = some (.cells cs e fz) → (u.alloc (.cells x.z x.ty)).heap[g]? = some (.cells cs e fz) := fun g cs e fz h => by
       have hg : g < u.heap.size := (Array.getElem?_eq_some_iff.1 h).1
       rw [((Below.refl u.heap.size u).alloc (Nat.le_refl _) (.cells x.z x.ty)).block g hg]
       exact h
      have hxst : bxL n L x.st = false := by
       cases hc : bxL n L x.st with
       | false => rfl
       | true => have := S.s x hx hc; rw [hL] at this; cases this
      refine ⟨S.b.alloc S.b.size _, fun j hpj hj hnj hl => ?_, fun y hy hl => ?_, fun y hy y' hy' hl hl' he => ?_, fun y hy hl => ?_⟩
      · have hne : j ≠ x.al := fun e => hnj (e ▸ bx_al_mem hx)
        rw [if_neg hne]
        exact S.f j hpj hj hnj (hor j hl hne)
      · by_cases hyx : y.al = x.al
        · obtain rfl := (hap y hy x hx).1 (.inl hyx)
          rw [if_pos rfl]
          refine ⟨_, rfl, S.b.size, ?_⟩
          rw [hor2 _ (Ne.symm (hX1 y hx).1.2.2.2), hxst]
          exact (MapKept.heap_alloc u _).1
        · rw [if_neg hyx]
          obtain ⟨g, e1, e2, e3⟩ := S.x y hy (hor _ hl hyx)
          refine ⟨g, e1, e2, ?_⟩
          rw [hor2 _ (Ne.symm (hap x hx y hy).2)]
          exact hbk _ _ _ _ e3
      · have key : ∀ y ∈ bx, y.al ≠ x.al → L y.al = true → vs y.al ≠ .pointer (some ⟨u.heap.size, 0, none⟩) := fun y hy _ hl e => by
         obtain ⟨g, e1, e2, e3⟩ := S.x y hy hl
         rw [e1] at e
         injection e with e
         injection e with e
         injection e with e
         have := (Array.getElem?_eq_some_iff.1 e3).1
         omega
        by_cases h1 : y.al = x.al <;> by_cases h2 : y'.al = x.al
        · exact (hap y hy y' hy').1 (.inl (h1.trans h2.symm))
        · rw [if_pos h1, if_neg h2] at he
          exact absurd he.symm (key y' hy' h2 (hor _ hl' h2))
        · rw [if_neg h1, if_pos h2] at he
          exact absurd he (key y hy h1 (hor _ hl h1))
        · rw [if_neg h1, if_neg h2] at he
          exact S.d y hy y' hy' (hor _ hl h1) (hor _ hl' h2) he
      · have := S.s y hy ((hor2 _ (Ne.symm (hap x hx y hy).2)).symm.trans hl)
        show (L y.al || y.al == x.al) = true
        rw [this]; rfl
     ·
      have hxa := hw x.al (hX1 x hx).2
      obtain ⟨g, e1, e2, e3⟩ := S.x x hx hxa
      have hq : bxL n L x.st = false := by unfold bxL; rw [hL, Bool.and_false]
      rw [hq] at e3
      have e4 : u.heap[g]? = some (.cells x.z x.ty (0, 0)) := e3
      have ht : u.there g 0 x.f.size := by rw [hsz x hx]; exact bx_there e4
      refine wpList_one_mono (fun v u' h1 => ?_) (hstore x hx hi o ho vs u g S.b e1 ht hfw)
      subst h1
      have hna : ∀ y ∈ bx, y.al ≠ x.st := fun y hy => (hap y hy x hx).2
      refine ⟨S.b.trans (bx_cells_base e2 _ _ _), fun j hpj hj hnj hl => ?_, fun y hy hl => ?_, fun y hy y' hy' hl hl' he => ?_, fun y hy hl => ?_⟩
      · have hne : j ≠ x.st := fun e => hnj (e ▸ bx_st_mem hx)
        rw [if_neg hne]
        exact S.f j hpj hj hnj (hor j hl hne)
      · rw [if_neg (hna y hy)]
        have hly := hor _ hl (hna y hy)
        by_cases hyx : y = x
        · subst hyx
          refine ⟨g, e1, e2, ?_⟩
          have hq2 : bxL n (fun j => L j || j == y.st) y.st = true := by unfold bxL; simp [hi]
          rw [hq2, bx_cells_same _ _ e4, setFrom_all (by simp [hsz y hx])]
          simp
        · obtain ⟨g', e1', e2', e3'⟩ := S.x y hy hly
          refine ⟨g', e1', e2', ?_⟩
          have hgg : g' ≠ g := fun e => hyx (S.d y hy x hx hly hxa (by rw [e1, e1', e]))
          have hst : y.st ≠ x.st := fun e => hyx ((hap y hy x hx).1 (.inr e))
          rw [hor2 _ hst, bx_cells_other hgg]
          exact e3'
      · rw [if_neg (hna y hy), if_neg (hna y' hy')] at he
        exact S.d y hy y' hy' (hor _ hl (hna y hy)) (hor _ hl' (hna y' hy')) he
      · have h5 : L y.al = true := by
         by_cases hyx : y = x
         · rw [hyx]; exact hxa
         · exact S.s y hy ((hor2 _ fun e => hyx ((hap y hy x hx).1 (.inr e))).symm.trans hl)
        show (L y.al || y.al == x.st) = true
        rw [h5]; rfl
   · refine wpList_one_mono (fun v u' h1 => ?_) (hpure i o hpi hi ho hmem vs u S.b hfw)
     obtain ⟨rfl, hf⟩ := h1
     have hna : ∀ y ∈ bx, y.al ≠ i := fun y hy e => hmem (e ▸ bx_al_mem hy)
     have hns : ∀ y ∈ bx, y.st ≠ i := fun y hy e => hmem (e ▸ bx_st_mem hy)
     refine ⟨S.b, fun j hpj hj hnj hl => ?_, fun y hy hl => ?_, fun y hy y' hy' hl hl' he => ?_, fun y hy hl => ?_⟩
     · by_cases e : j = i
       · subst e; rw [if_pos rfl]; exact hf
       · rw [if_neg e]
         exact S.f j hpj hj hnj (hor j hl e)
     · rw [if_neg (hna y hy)]
       obtain ⟨g, e1, e2, e3⟩ := S.x y hy (hor _ hl (hna y hy))
       exact ⟨g, e1, e2, by rw [hor2 _ (hns y hy)]; exact e3⟩
     · rw [if_neg (hna y hy), if_neg (hna y' hy')] at he
       exact S.d y hy y' hy' (hor _ hl (hna y hy)) (hor _ hl' (hna y' hy')) he
     · have h5 := S.s y hy ((hor2 _ (hns y hy)).symm.trans hl)
       show (L y.al || y.al == i) = true
       rw [h5]; rfl
 · intro vs u S
   refine hend vs u S.b (fun i hpi hi hni => S.f i hpi hi hni rfl) (fun x hx => ?_) (fun x hx y hy he => S.d x hx y hy rfl rfl he)
   obtain ⟨g, e1, e2, e3⟩ := S.x x hx rfl
   refine ⟨g, e1, e2, ?_⟩
   rw [e3]
   unfold bxL
   by_cases hc : x.st < n
   · rw [if_pos hc, decide_eq_true hc]; rfl
   · rw [if_neg hc, decide_eq_false hc]; rfl
end
end
section
open Go.RowKit
structure St1 where
 op : Nat
 off : Nat
 v : Value
def stIdx (l : List St1) : List Nat := l.map (·.op)
def st1B (ops : Array Oper) (p n m : Nat) (l : List St1) : Bool := (l.all fun x => decide (p ≤ x.op ∧ x.op < n ∧ x.off < m)) && decide (stIdx l).Nodup && decide (l.map (·.off)).Nodup
structure StSt (W : World) (z e : Nat) (cs0 : Array Value) (p n : Nat) (F : Nat → Value → Prop) (st : List St1) (L : Nat → Bool) (vs : Nat → Value) (u : World) : Prop where
 b : Below z W u
 sz : u.heap.size = W.heap.size
 k : ∀ i, i ≠ z → u.heap[i]? = W.heap[i]?
 z : ∃ cs, u.heap[z]? = some (.cells cs e (0, 0)) ∧ cs.size = cs0.size ∧ (∀ x ∈ st, L x.op = true → cs[x.off]? = some x.v) ∧ ∀ k, (∀ x ∈ st, L x.op = true → x.off ≠ k) → cs[k]? = cs0[k]?
 f : ∀ i, p ≤ i → i < n → i ∉ stIdx st → L i = true → F i (vs i)
theorem st1_inj : ∀ {l : List St1} {g : St1 → Nat}, (l.map g).Nodup → ∀ x ∈ l, ∀ y ∈ l, g x = g y → x = y
 | [], _, _, x, hx, _, _, _ => by cases hx
 | a :: l, g, hn, x, hx, y, hy, he => by
   rw [List.map_cons, List.nodup_cons] at hn
   rcases List.mem_cons.1 hx with rfl | hx' <;> rcases List.mem_cons.1 hy with rfl | hy'
   · rfl
   · exact absurd (he ▸ List.mem_map_of_mem (f := g) hy') hn.1
   · exact absurd (he ▸ List.mem_map_of_mem (f := g) hx') hn.1
   · exact st1_inj hn.2 x hx' y hy' he
theorem st_heap_same {w : World} {z k e : Nat} {cs : Array Value} {fz : Nat × Nat} (h : w.heap[z]? = some (.cells cs e fz)) (v : Value) : (w.setCell ⟨z, k, none⟩ v).heap[z]? = some (.cells (cs.setIfInBounds k v) e fz) := by
 simp only [World.setCell, Array.getElem?_modify, if_true, h, Option.map_some]
 rfl
theorem st_below {W u : World} {z k : Nat} {v : Value} (h : Below z W u) : Below z W (u.setCell ⟨z, k, none⟩ v) :=
 h.setCell (p := ⟨z, k, none⟩) (Nat.le_refl _) v
section
variable {P : Program} {Q : Exit → Act → World → Prop}
theorem wp_region_stores {id : Nat} {a b : Act} {w : World} {l : List Oper} (p n : Nat) (F : Nat → Value → Prop) (z e : Nat) (cs0 : Array Value) (st : List St1) (hm : P.follows .mixedOrders = true) (hB : peelHeadB l.toArray p n a.tmps.size = true) (hX : st1B l.toArray p n cs0.size st = true)
 (hp : Peels P l.toArray (l.take p) a b) (hQ : ∀ c (b : Act) d v w, Q (.panic c) (b.put d v) w → Q (.panic c) b w)
 (hz : w.heap[z]? = some (.cells cs0 e (0, 0)))
 (hpure : ∀ i o, p ≤ i → i < n → l[i]? = some o → i ∉ stIdx st → ∀ (vs : Nat → Value) (u : World), (∀ i, i ≠ z → u.heap[i]? = w.heap[i]?) → (∀ j, p ≤ j → j < n → j ∉ stIdx st → waitB' l.toArray i j = true → F j (vs j)) →
  wpList P l.toArray (StepQ (fillA b ((l.take n).drop p) p vs) o.dst fun v u' => u' = u ∧ F i v) [o] (fillA b ((l.take n).drop p) p vs) u)
 (hstore : ∀ x ∈ st, ∀ o, l[x.op]? = some o → ∀ (vs : Nat → Value) (u : World) (cs : Array Value), u.heap[z]? = some (.cells cs e (0, 0)) → x.off < cs.size → (∀ j, p ≤ j → j < n → j ∉ stIdx st → waitB' l.toArray x.op j = true → F j (vs j)) →
  wpList P l.toArray (StepQ (fillA b ((l.take n).drop p) p vs) o.dst fun v u' => u' = u.setCell ⟨z, x.off, none⟩ x.v) [o] (fillA b ((l.take n).drop p) p vs) u)
 (hend : ∀ vs u, StSt w z e cs0 p n F st (fun _ => true) vs u → wpList P l.toArray Q (l.drop n) (fillA b ((l.take n).drop p) p vs) u) : (Code.region id l.toArray true).wp P Q a w := by
 unfold st1B at hX
 simp only [Bool.and_eq_true, List.all_eq_true, decide_eq_true_eq] at hX
 obtain ⟨⟨hX1, hX2⟩, hX3⟩ := hX
 refine wp_region_peel p n (StSt w z e cs0 p n F st) hm hB hp hQ ?_ ⟨(bR).drew, rfl, fun i _ => rfl, ⟨cs0, hz, rfl, fun x hx h => by have := of_decide_eq_true h; have := (hX1 x hx).1; omega, fun _ _ => rfl⟩, fun i hpi _ _ h => by have := of_decide_eq_true h; omega⟩ ?_ ?_
 · intro L L' vs vs' u h1 h2 S
   have ho : ∀ x ∈ st, L x.op = L' x.op := fun x hx => h1 _ (hX1 x hx).1 (hX1 x hx).2.1
   obtain ⟨cs, c1, c2, c3, c4⟩ := S.z
   refine ⟨S.b, S.sz, S.k, ⟨cs, c1, c2, fun x hx hl => c3 x hx ((ho x hx).trans hl), fun k hk => c4 k fun x hx hl => hk x hx ((ho x hx).symm.trans hl)⟩, fun i hpi hi hni hl => ?_⟩
   have hl2 := (h1 i hpi hi).trans hl
   rw [← h2 i hpi hi hl2]
   exact S.f i hpi hi hni hl2
 · intro i o hpi hi ho L vs u hL hw S
   have hor : ∀ j, (L j || j == i) = true → j ≠ i → L j = true := fun j hj hne => by
    have : (j == i) = false := beq_false_of_ne hne
    rwa [this, Bool.or_false] at hj
   have hfw : ∀ j, p ≤ j → j < n → j ∉ stIdx st → waitB' l.toArray i j = true → F j (vs j) := fun j hpj hj hnj hwj => S.f j hpj hj hnj (hw j hwj)
   by_cases hmem : i ∈ stIdx st
   · obtain ⟨x, hx, rfl⟩ := List.mem_map.1 hmem
     obtain ⟨cs, c1, c2, c3, c4⟩ := S.z
     have hox : x.off < cs.size := by rw [c2]; exact (hX1 x hx).2.2
     refine wpList_one_mono (fun v u' h1 => ?_) (hstore x hx o ho vs u cs c1 hox hfw)
     subst h1
     refine ⟨st_below S.b, (show (u.setCell ⟨z, x.off, none⟩ x.v).heap.size = w.heap.size by rw [show (u.setCell ⟨z, x.off, none⟩ x.v).heap.size = u.heap.size by simp [World.setCell]]; exact S.sz), fun i hi => (Below.heap_setCell _ _ _ _ hi).trans (S.k i hi), ⟨_, st_heap_same c1 _, by rw [Array.size_setIfInBounds]; exact c2, fun y hy hl => ?_, fun k hk => ?_⟩, fun j hpj hj hnj hl => ?_⟩
     · by_cases hyx : y = x
       · subst hyx
         simp [hox]
       · have hne : x.off ≠ y.off := fun e => hyx (st1_inj hX3 y hy x hx e.symm)
         rw [Array.getElem?_setIfInBounds_ne hne]
         exact c3 y hy (hor _ hl fun e => hyx (st1_inj hX2 y hy x hx e))
     · have hne : x.off ≠ k := hk x hx (by simp)
       rw [Array.getElem?_setIfInBounds_ne hne]
       exact c4 k fun y hy hl => hk y hy (by rw [hl]; rfl)
     · have hne : j ≠ x.op := fun e => hnj (e ▸ hmem)
       rw [if_neg hne]
       exact S.f j hpj hj hnj (hor j hl hne)
   · refine wpList_one_mono (fun v u' h1 => ?_) (hpure i o hpi hi ho hmem vs u S.k hfw)
     obtain ⟨rfl, hf⟩ := h1
     obtain ⟨cs, c1, c2, c3, c4⟩ := S.z
     have hns : ∀ y ∈ st, y.op ≠ i := fun y hy e => hmem (e ▸ List.mem_map_of_mem (f := (·.op)) hy)
     refine ⟨S.b, S.sz, S.k, ⟨cs, c1, c2, fun y hy hl => c3 y hy (hor _ hl (hns y hy)), fun k hk => c4 k fun y hy hl => hk y hy (by rw [hl]; rfl)⟩, fun j hpj hj hnj hl => ?_⟩
     by_cases e : j = i
     · subst e; rw [if_pos rfl]; exact hf
     · rw [if_neg e]
       exact S.f j hpj hj hnj (hor j hl e)
 · intro vs u S
   exact hend vs u S
end
end
section
open Go.RowKit Go.Sort
def RowK (w : World) (a : Option Addr) (n s : Nat) (f : Nat → Value) : Prop := ∃ b m, (0 < n → a = some ⟨b, m, none⟩) ∧ ∀ j, j < n * s → w.cell? ⟨b, m + j, none⟩ = some (f j)
theorem RowK.mono {u w : World} {a : Option Addr} {n s : Nat} {f : Nat → Value} (R : RowK u a n s f) (hb : Below u.heap.size u w) : RowK w a n s f := by
 obtain ⟨b, m, h1, h2⟩ := R
 exact ⟨b, m, h1, fun k hk => up hb (h2 k hk)⟩
theorem RowK.congr {w : World} {a : Option Addr} {n s : Nat} {f g : Nat → Value} (R : RowK w a n s f) (h : ∀ j, j < n * s → g j = f j) : RowK w a n s g := by
 obtain ⟨b, m, h1, h2⟩ := R
 exact ⟨b, m, h1, fun k hk => by rw [h k hk]; exact h2 k hk⟩
theorem own_cellsK {w : World} {base e s n : Nat} {v : Value} {f : Nat → Value} (h : w.ownsRow base e s v n ((List.range (n * s)).map f)) :
 ∃ a c b, v = .slice a n c ∧ n ≤ c ∧ (0 < n → a = some ⟨b, 0, none⟩ ∧ base ≤ b ∧ b < w.heap.size ∧ ∀ o, w.frozen? ⟨b, o, none⟩ = false) ∧ ∀ j, j < n * s → w.cell? ⟨b, j, none⟩ = some (f j) := by
 have h' := h
 obtain ⟨_, ⟨hv, rfl⟩ | ⟨g, cap, cur, hv, hg, hh, hn, hm, hs, ht⟩⟩ := h
 · exact ⟨none, 0, 0, hv, Nat.le_refl _, fun h => absurd h (Nat.lt_irrefl _), fun i hi => absurd hi (by simp)⟩
 · subst hv
   refine ⟨_, cap, g, rfl, hn, fun _ => ⟨rfl, hg, (Array.getElem?_eq_some_iff.1 hh).1, fun o => h'.frozenAt o⟩, fun j hj => ?_⟩
   have h2 := congrArg (fun l => l[j]?) ht
   simp only [List.getElem?_take, List.getElem?_map, List.getElem?_range hj, Option.map_some, if_pos hj] at h2
   rw [cell_of_row w g j cur e (0, 0) hh]
   simpa using h2
theorem own_nilK (w : World) (base e s : Nat) (f : Nat → Value) : w.ownsRow base e s (.slice none 0 0) 0 ((List.range (0 * s)).map f) := by
 simp only [Nat.zero_mul]
 exact World.ownsRow_nil _ _ _ _
theorem own_lit (w : World) (e s : Nat) : (w.alloc (.cells #[] e)).ownsRow w.heap.size e s (.slice (some ⟨w.heap.size, 0, none⟩) 0 0) 0 [] :=
 ⟨by simp, .inr ⟨w.heap.size, 0, #[], rfl, Nat.le_refl _, (MapKept.heap_alloc w _).1, Nat.le_refl _, by decide, by simp, by simp⟩⟩
variable {P : Program}
theorem wpList_append_at {ops : Array Oper} {rest : List Oper} {o : Oper} {a : Act} {Q : Exit → Act → World → Prop} (w : World) (base : Nat) (hgd : o.guard = none) (sl x : Operand) (t : TypeId)
 (ho : o.op = .call { callee := .builtin .append, args := #[sl, x], argTypes := #[t, t] })
 (e : TypeId) (z : Value) (s bytes : Nat) (ht : P.underlying t = some (.slice e)) (hi : (P.info? e).map (fun i => (i.zero, i.size, i.bytes)) = some (some z, s, bytes)) (hzs : z.cells.size = s) (hs0 : 0 < s) (hbt : bytes ≤ 1000)
 (v : Value) (n : Nat) (f : Nat → Value) (hs : a.eval sl = v) (b : Nat) (cs : Array Value) (fz : Nat × Nat) (hx : a.eval x = .slice (some ⟨b, 0, none⟩) 1 1) (hcs : w.heap[b]? = some (.cells cs e fz)) (hus : cs.size = s) (hu1 : ∀ y ∈ cs.toList, y.oneCell' = true)
 (g : Nat → Value) (hg : ∀ j, j < n * s → g j = f j) (hgu : ∀ j, j < s → cs[j]? = some (g (n * s + j)))
 (hown : w.ownsRow base e s v n ((List.range (n * s)).map f)) (hbase : base ≤ w.heap.size) (hn : n + 1 ≤ 1000000)
 (h : ∀ v' w', w'.ownsRow base e s v' (n + 1) ((List.range ((n + 1) * s)).map g) → w.grownBy w' v.ownBlock → (v'.ownBlock = v.ownBlock ∨ v'.ownBlock = some w.heap.size) → wpList P ops Q rest (a.put o.dst v') w') :
 wpList P ops Q (o :: rest) a w := by
 obtain ⟨i, hi1, hz, hsz, hby⟩ := info_split hi
 refine wpList_append_own_at _ hgd sl x t ho base e i z s bytes ht hi1 hz hsz hby hzs hs0 v n _ hs hown ⟨b, 0, none⟩ 1 1 cs.toList hx (by simp [hus]) (fun j v' hj => ?_) hu1 (by unfold maxLen; omega) ?_ hbase ?_
 · rw [Addr.add_mid, Nat.zero_add, cell_of_row _ b j cs e fz hcs]
   simpa using hj
 · have : (n + 1) * bytes ≤ 1000000 * 1000 := Nat.mul_le_mul hn hbt
   omega
 · intro v' w' h2 h3 _ h5
   have e1 : (List.range (n * s)).map f ++ cs.toList = (List.range ((n + 1) * s)).map g := by
    rw [show (n + 1) * s = n * s + s by rw [Nat.add_mul, Nat.one_mul]]
    refine List.ext_getElem? fun j => ?_
    by_cases hj : j < n * s
    · rw [List.getElem?_append_left (by simpa using hj), List.getElem?_map, List.getElem?_map, List.getElem?_range hj, List.getElem?_range (by omega)]
      simp [hg j hj]
    · rw [List.getElem?_append_right (by simp; omega)]
      simp only [List.length_map, List.length_range]
      by_cases hj2 : j < n * s + s
      · rw [List.getElem?_map, List.getElem?_range hj2]
        have := hgu (j - n * s) (by omega)
        rw [show n * s + (j - n * s) = j by omega] at this
        simpa using this
      · rw [List.getElem?_eq_none (by simp; omega), List.getElem?_eq_none (by simp [hus]; omega)]
   rw [e1] at h2
   exact h v' w' h2 h3 h5
end
section
open Go.RowKit Go.Sort
variable {P : Program}
theorem rows_join (n m s : Nat) (f h g : Nat → Value) (hg : ∀ j, j < n * s → g j = f j) (hh : ∀ j, j < m * s → g (n * s + j) = h j) : (List.range (n * s)).map f ++ (List.range (m * s)).map h = (List.range ((n + m) * s)).map g := by
 rw [show (n + m) * s = n * s + m * s by rw [Nat.add_mul]]
 refine List.ext_getElem? fun j => ?_
 by_cases hj : j < n * s
 · rw [List.getElem?_append_left (by simpa using hj), List.getElem?_map, List.getElem?_map, List.getElem?_range hj, List.getElem?_range (by omega)]
   simp [hg j hj]
 · rw [List.getElem?_append_right (by simp; omega)]
   simp only [List.length_map, List.length_range]
   by_cases hj2 : j < n * s + m * s
   · rw [List.getElem?_map, List.getElem?_map, List.getElem?_range hj2, List.getElem?_range (by omega)]
     have := hh (j - n * s) (by omega)
     rw [show n * s + (j - n * s) = j by omega] at this
     simp [this]
   · rw [List.getElem?_eq_none (by simp; omega), List.getElem?_eq_none (by simp; omega)]
theorem wpList_append_rows {ops : Array Oper} {rest : List Oper} {o : Oper} {a : Act} {Q : Exit → Act → World → Prop} (w : World) (base : Nat) (hgd : o.guard = none) (sl x : Operand) (t : TypeId)
 (ho : o.op = .call { callee := .builtin .append, args := #[sl, x], argTypes := #[t, t] })
 (e : TypeId) (z : Value) (s bytes : Nat) (ht : P.underlying t = some (.slice e)) (hi : (P.info? e).map (fun i => (i.zero, i.size, i.bytes)) = some (some z, s, bytes)) (hzs : z.cells.size = s) (hs0 : 0 < s) (hbt : bytes ≤ 1000)
 (v : Value) (n : Nat) (f : Nat → Value) (hs : a.eval sl = v) (b q m c : Nat) (hx : a.eval x = .slice (some ⟨b, q, none⟩) m c) (h : Nat → Value) (hcs : ∀ j, j < m * s → w.cell? ⟨b, q + j, none⟩ = some (h j)) (hu1 : ∀ j, j < m * s → (h j).oneCell' = true)
 (g : Nat → Value) (hg : ∀ j, j < n * s → g j = f j) (hgu : ∀ j, j < m * s → g (n * s + j) = h j)
 (hown : w.ownsRow base e s v n ((List.range (n * s)).map f)) (hbase : base ≤ w.heap.size) (hn : n + m ≤ 1000000)
 (hk : ∀ v' w', w'.ownsRow base e s v' (n + m) ((List.range ((n + m) * s)).map g) → w.grownBy w' v.ownBlock → (v'.ownBlock = v.ownBlock ∨ v'.ownBlock = some w.heap.size) → wpList P ops Q rest (a.put o.dst v') w') :
 wpList P ops Q (o :: rest) a w := by
 obtain ⟨i, hi1, hz, hsz, hby⟩ := info_split hi
 refine wpList_append_own_at _ hgd sl x t ho base e i z s bytes ht hi1 hz hsz hby hzs hs0 v n _ hs hown ⟨b, q, none⟩ m c ((List.range (m * s)).map h) hx (by simp) (fun j v' hj => ?_) (fun u hu => ?_) (by unfold maxLen; omega) ?_ hbase ?_
 · have hj' : j < m * s := by have := (List.getElem?_eq_some_iff.1 hj).1; simpa using this
   rw [List.getElem?_map, List.getElem?_range hj'] at hj
   rw [Addr.add_mid, hcs j hj', ← hj]
   rfl
 · obtain ⟨j, hj, rfl⟩ := List.mem_map.1 hu
   exact hu1 j (List.mem_range.1 hj)
 · have : (n + m) * bytes ≤ 1000000 * 1000 := Nat.mul_le_mul hn hbt
   omega
 · intro v' w' h2 h3 _ h5
   rw [rows_join n m s f h g hg hgu] at h2
   exact hk v' w' h2 h3 h5
end
section
open Go.RowKit
variable {P : Program} {Q : Exit → Act → World → Prop}
def updB (L : Nat → Bool) (i : Nat) : Nat → Bool := fun j => L j || j == i
def updV (vs : Nat → Value) (i : Nat) (v : Value) : Nat → Value := fun j => if j = i then v else vs j
theorem updB_at (L : Nat → Bool) (i : Nat) : updB L i i = true := by simp [updB]
theorem updB_ne {L : Nat → Bool} {i j : Nat} (h : j ≠ i) : updB L i j = L j := by simp [updB, h]
theorem updV_at (vs : Nat → Value) (i : Nat) (v : Value) : updV vs i v i = v := by simp [updV]
theorem updV_ne {vs : Nat → Value} {i j : Nat} {v : Value} (h : j ≠ i) : updV vs i v j = vs j := by simp [updV, h]
theorem wp_region_peelJ {id : Nat} {a b : Act} {w : World} {l : List Oper} (p n : Nat) (R : World → World → Prop) (F : Nat → Value → World → Prop) (J : (Nat → Bool) → (Nat → Value) → World → Prop) (hm : P.follows .mixedOrders = true) (hB : peelHeadB l.toArray p n a.tmps.size = true)
 (hp : Peels P l.toArray (l.take p) a b) (hQ : ∀ c (b : Act) d v w, Q (.panic c) (b.put d v) w → Q (.panic c) b w)
 (hRd : R w w.drew) (hRt : ∀ u v x, R u v → R v x → R u x)
 (hJ : ∀ L L' vs vs' u, (∀ i, p ≤ i → i < n → L i = L' i) → (∀ i, p ≤ i → i < n → L i = true → vs i = vs' i) → J L vs u → J L' vs' u) (h0 : J (fun i => decide (i < p)) (fun _ => undef) w.drew)
 (hF : ∀ i v u u', R u u' → F i v u → F i v u')
 (hstep : ∀ i o, p ≤ i → i < n → l[i]? = some o → ∀ (L : Nat → Bool) (vs : Nat → Value) (u : World), L i = false → (∀ j, waitB' l.toArray i j = true → L j = true) → R w u → J L vs u → (∀ j, p ≤ j → j < n → L j = true → F j (vs j) u) →
  wpList P l.toArray (StepQ (fillA b ((l.take n).drop p) p vs) o.dst fun v u' => R u u' ∧ F i v u' ∧ J (updB L i) (updV vs i v) u') [o] (fillA b ((l.take n).drop p) p vs) u)
 (hend : ∀ vs u, R w u → J (fun _ => true) vs u → (∀ i, p ≤ i → i < n → F i (vs i) u) → wpList P l.toArray Q (l.drop n) (fillA b ((l.take n).drop p) p vs) u) : (Code.region id l.toArray true).wp P Q a w := by
 refine wp_region_peel p n (fun L vs u => R w u ∧ J L vs u ∧ ∀ i, p ≤ i → i < n → L i = true → F i (vs i) u) hm hB hp hQ ?_ ⟨hRd, h0, fun i hpi _ h => by have := of_decide_eq_true h; omega⟩ ?_ ?_
 · intro L L' vs vs' u h1 h2 h3
   refine ⟨h3.1, hJ _ _ _ _ _ h1 h2 h3.2.1, fun i hpi hi hl => ?_⟩
   have hl2 : L i = true := (h1 i hpi hi).trans hl
   rw [← h2 i hpi hi hl2]
   exact h3.2.2 i hpi hi hl2
 · intro i o hpi hi hol L vs u hun hw hphi
   refine wpList_one_mono (fun v u' h1 => ?_) (hstep i o hpi hi hol L vs u hun hw hphi.1 hphi.2.1 hphi.2.2)
   obtain ⟨hb, hf, hj'⟩ := h1
   refine ⟨hRt _ _ _ hphi.1 hb, hj', fun j hpj hj hl => ?_⟩
   by_cases e : j = i
   · subst e; simp only [if_pos]; exact hf
   · simp only [if_neg e]
     have hlj : (L j || j == i) = true := hl
     have : (j == i) = false := by simp [e]
     rw [this, Bool.or_false] at hlj
     exact hF j _ _ _ hb (hphi.2.2 j hpj hj hlj)
 · intro vs u hphi
   exact hend vs u hphi.1 hphi.2.1 fun i hpi hi => hphi.2.2 i hpi hi rfl
def ChJ (S : Nat → Value → World → Prop) (v0 : Value) (cs : List Nat) (L : Nat → Bool) (vs : Nat → Value) (u : World) : Prop :=
 ∃ k, k ≤ cs.length ∧ (∀ j, j < cs.length → L (cs.getD j 0) = decide (j < k)) ∧ S k (if k = 0 then v0 else vs (cs.getD (k - 1) 0)) u
section
variable {S : Nat → Value → World → Prop} {v0 : Value} {cs : List Nat} {L : Nat → Bool} {vs : Nat → Value} {u : World}
theorem getD_mem {j : Nat} (hj : j < cs.length) : cs.getD j 0 ∈ cs := by
 rw [List.getD_eq_getElem?_getD, List.getElem?_eq_getElem hj]
 exact List.getElem_mem hj
theorem ChJ.congr {p n : Nat} (hc : ∀ c ∈ cs, p ≤ c ∧ c < n) {L' : Nat → Bool} {vs' : Nat → Value} (h1 : ∀ i, p ≤ i → i < n → L i = L' i) (h2 : ∀ i, p ≤ i → i < n → L i = true → vs i = vs' i) (h : ChJ S v0 cs L vs u) : ChJ S v0 cs L' vs' u := by
 obtain ⟨k, hk, hl, hs⟩ := h
 refine ⟨k, hk, fun j hj => ?_, ?_⟩
 · have := hc _ (getD_mem hj)
   rw [← h1 _ this.1 this.2]
   exact hl j hj
 · by_cases hk0 : k = 0
   · subst hk0; exact hs
   · rw [if_neg hk0] at hs ⊢
     have hj : k - 1 < cs.length := by omega
     have := hc _ (getD_mem hj)
     rw [← h2 _ this.1 this.2 (by rw [hl _ hj]; exact decide_eq_true (by omega))]
     exact hs
theorem ChJ.start (hL : ∀ c ∈ cs, L c = false) (h : S 0 v0 u) : ChJ S v0 cs L vs u :=
 ⟨0, Nat.zero_le _, fun j hj => by rw [hL _ (getD_mem hj)]; simp, h⟩
theorem ChJ.stage (h : ChJ S v0 cs L vs u) {j0 : Nat} (hj : j0 < cs.length) (hun : L (cs.getD j0 0) = false) (hp : j0 = 0 ∨ L (cs.getD (j0 - 1) 0) = true) : S j0 (if j0 = 0 then v0 else vs (cs.getD (j0 - 1) 0)) u ∧ ∀ j, j < cs.length → L (cs.getD j 0) = decide (j < j0) := by
 obtain ⟨k, hk, hl, hs⟩ := h
 have h1 : ¬ j0 < k := fun e => by
  rw [hl j0 hj, decide_eq_true e] at hun
  cases hun
 have h2 : j0 ≤ k := by
  rcases hp with h | h
  · omega
  · by_cases h0 : j0 = 0
    · omega
    · rw [hl (j0 - 1) (by omega)] at h
      have := of_decide_eq_true h
      omega
 obtain rfl : k = j0 := by omega
 exact ⟨hs, hl⟩
theorem ChJ.next (h : ChJ S v0 cs L vs u) {j0 : Nat} (hj : j0 < cs.length) (hun : L (cs.getD j0 0) = false) (hp : j0 = 0 ∨ L (cs.getD (j0 - 1) 0) = true) (hnd : ∀ j, j < cs.length → j ≠ j0 → cs.getD j 0 ≠ cs.getD j0 0) {v : Value} {u' : World} (hv : S (j0 + 1) v u') : ChJ S v0 cs (updB L (cs.getD j0 0)) (updV vs (cs.getD j0 0) v) u' := by
 obtain ⟨-, hl⟩ := h.stage hj hun hp
 refine ⟨j0 + 1, hj, fun j hj' => ?_, ?_⟩
 · by_cases e : j = j0
   · subst e
     rw [updB_at, decide_eq_true (Nat.lt_succ_self _)]
   · rw [updB_ne (hnd j hj' e), hl j hj']
     exact decide_eq_decide.2 (by omega)
 · rw [if_neg (Nat.succ_ne_zero _), Nat.add_sub_cancel, updV_at]
   exact hv
theorem ChJ.other (h : ChJ S v0 cs L vs u) {i : Nat} (hi : ∀ c ∈ cs, c ≠ i) {v : Value} {u' : World} (hS : ∀ k v, S k v u → S k v u') : ChJ S v0 cs (updB L i) (updV vs i v) u' := by
 obtain ⟨k, hk, hl, hs⟩ := h
 refine ⟨k, hk, fun j hj => ?_, ?_⟩
 · rw [updB_ne (hi _ (getD_mem hj))]
   exact hl j hj
 · by_cases hk0 : k = 0
   · subst hk0; exact hS _ _ hs
   · rw [if_neg hk0] at hs ⊢
     rw [updV_ne (hi _ (getD_mem (by omega)))]
     exact hS _ _ hs
theorem ChJ.fin (h : ChJ S v0 cs (fun _ => true) vs u) (h0 : 0 < cs.length) : S cs.length (vs (cs.getD (cs.length - 1) 0)) u := by
 obtain ⟨k, hk, hl, hs⟩ := h
 have := of_decide_eq_true (hl (cs.length - 1) (by omega)).symm
 obtain rfl : k = cs.length := by omega
 rw [if_neg (by omega)] at hs
 exact hs
end
end
end Go.Proofs.YtgflfdnajchjaaaGreatDoor
