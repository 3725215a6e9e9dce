/- A region that draws its order, of the form 'out = append(out, f(..))': its first operation copies the old slice and may come up at any time ahead of the append; the operations behind it only read or lay blocks; then a tail in order. Nothing of the program is named here. -/
import Derived.Test.YtdcogbokcbpnnaaTail
namespace Go.Proofs.Ytdcogbokcbpnnaa
set_option linter.unusedVariables false
set_option linter.unusedSimpArgs false
open Go.RowKit Go.Sort

section
variable {P : Program} {ops : Array Oper} {C : World → Prop} {n m : Nat}

/-- Every operation from number m up to n is waited for by one that lies behind it and not behind n. -/
def sinkFrom (ops : Array Oper) (m n : Nat) : Bool :=
  (List.range n).all fun i => decide (i < m) || (List.range (n + 1)).any fun j => decide (i < j) && Region.waitsFor .any ops j i

theorem tail_waits_from {listed : Array Bool} (hs : sinkFrom ops m n = true) (hc : Region.chainB .any ops n = true) (hn : n < ops.size) (inv : HeadInv .any ops n listed) :
    ∀ (d i : Nat), n - i = d → m ≤ i → i < n → listed.getD i true = false → ∀ t, n ≤ t → t ∉ Region.ready .any ops listed := by
  intro d
  induction d using Nat.strongRecOn with
  | _ d ih =>
    intro i hd hmi hi hun t ht hr
    obtain ⟨_, ot, hot, hall⟩ := mem_ready.1 hr
    have htlt : t < ops.size := (Array.getElem?_eq_some_iff.1 hot).1
    by_cases htn : t = n
    · subst htn
      have h1 := List.all_eq_true.1 hs i (List.mem_range.2 hi)
      simp only [Bool.or_eq_true, decide_eq_true_eq] at h1
      have h1 := h1.resolve_left (by omega)
      obtain ⟨j, hj, hj2⟩ := List.any_eq_true.1 h1
      simp only [Bool.and_eq_true, decide_eq_true_eq] at hj2
      obtain ⟨oj, hoj, e, he, hb, hon⟩ := Region.waitsFor_spec hj2.2
      have hjle : j ≤ t := by have := List.mem_range.1 hj; omega
      by_cases hjt : j = t
      · subst hjt
        have : oj = ot := Option.some.inj (hoj.symm.trans hot)
        subst this
        have h2 := hall e he hb
        rw [hon, getD_both hun] at h2
        cases h2
      · cases hl : listed.getD j false with
        | true =>
          have h2 := inv.closed j oj hoj hl e he hb
          rw [hon, getD_both hun] at h2
          cases h2
        | false =>
          have hjs : j < listed.size := by rw [inv.size]; omega
          exact ih (t - j) (by omega) j rfl (by omega) (by omega) (getD_in hjs hl) t (Nat.le_refl _) hr
    · have h1 := List.all_eq_true.1 hc t (List.mem_range.2 htlt)
      simp only [Bool.or_eq_true, decide_eq_true_eq] at h1
      rcases h1 with h1 | h1
      · omega
      · obtain ⟨o', ho', e, he, hb, hon⟩ := Region.waitsFor_spec h1
        have : o' = ot := Option.some.inj (ho'.symm.trans hot)
        subst this
        have h2 := hall e he hb
        rw [hon] at h2
        have h3 := inv.tail (t - 1) (by omega) (by omega)
        rw [getD_both h3] at h2
        cases h2

/-- What is free to come first may be taken first. -/
theorem headAny.firstFrom {i : Nat} {oi : Oper} {v : Value} {L : Array Bool → Act → Prop} (hi : ops[i]? = some oi) (hsel : Region.noSelect ops = true) (hs : sinkFrom ops m n = true) (hc : Region.chainB .any ops n = true)
    (hn : n < ops.size) (hmi : m ≤ i) (hin : i < n) (hdone : ∀ listed a, L listed a → ∀ j ∈ Region.ready .any ops listed, n ≤ j) :
    ∀ (f : Nat) (listed : Array Bool) (a : Act), HeadInv .any ops n listed →
      (∀ j oj, ops[j]? = some oj → j ≠ i → listed.getD j true = false → (∀ e ∈ oj.after, Region.binds .any e = true → e.on ≠ i) → oi.apart ops oj = true) →
      i ∈ Region.ready .any ops listed → YieldsIn P ops C oi v a → headAny P ops C n L f (listed.setIfInBounds i true) (a.put oi.dst v) → headAny P ops C n L (f + 1) listed a
  | f, listed, a, inv, hfree, hr, hy, H => by
    have hun := (mem_ready.1 hr).1
    refine ⟨(fun h0 => by rw [h0] at hr; cases hr), fun j hj => ?_⟩
    have hjn : j < n := Nat.lt_of_not_le fun hle => tail_waits_from hs hc hn inv _ i rfl hmi hin hun j hle hj
    refine ⟨hjn, ?_⟩
    by_cases hji : j = i
    · subst hji; exact hy.qOp hi H
    · cases f with
      | zero => exact absurd (hdone _ _ H j (ready_mono hj hji)) (by omega)
      | succ f =>
        have h1 := (H.2 j (ready_mono hj hji)).2
        obtain ⟨hjun, oj, hoj, hall⟩ := mem_ready.1 hj
        have hnot : ∀ e ∈ oj.after, Region.binds .any e = true → e.on ≠ i := fun e he hb heq => by
          have h2 := hall e he hb
          rw [heq, getD_both hun] at h2
          cases h2
        have h2 := qOp_put hoj (hfree j oj hoj hji hjun hnot) (fun cs b => Region.noSelect_spec hsel i oi cs b hi) (fun cs b => Region.noSelect_spec hsel j oj cs b hoj) hy h1
        refine qOp_mono (fun a' h3 => headAny.firstFrom hi hsel hs hc hn hmi hin hdone f (listed.setIfInBounds j true) a' (inv.set hj hjn) (fun k ok hk hki hku hno => ?_) (ready_mono hr (Ne.symm hji)) h3.1 ?_) h2
        · refine hfree k ok hk hki ?_ hno
          by_cases hjk : j = k
          · subst hjk; exact hjun
          · rw [getD_set_ne true hjk] at hku; exact hku
        · rw [Array.setIfInBounds_comm _ _ hji]
          exact h3.2

theorem headAny.lexFrom {g : Nat} {Lq : Act → Prop} (hsel : Region.noSelect ops = true) (hs : sinkFrom ops m n = true) (hc : Region.chainB .any ops n = true) (hn : n < ops.size) :
    ∀ (l : List Oper) (k : Nat) (listed : Array Bool) (a : Act), m ≤ k → (∀ j, j < l.length → l[j]? = ops[k + j]?) → k + l.length = n → HeadInv .any ops n listed →
    Region.lexHead .any ops g l.length k listed = true → wpQuiet P ops C Lq l a → headAny P ops C n (fun listed' a' => Region.seqB .any ops g n listed' = true ∧ Lq a') l.length listed a
  | [], k, listed, a, _, _, hk, _, hB, h => by
    have : k = n := by simpa using hk
    subst this
    exact ⟨by simpa [Region.lexHead] using hB, h⟩
  | o :: l, k, listed, a, hmk, hl, hk, inv, hB, h => by
    simp only [List.length_cons] at hk
    have h0 : ops[k]? = some o := by simpa using (hl 0 (by simp)).symm
    simp only [List.length_cons, Region.lexHead, Bool.and_eq_true] at hB
    obtain ⟨⟨hr, hf⟩, hB'⟩ := hB
    have hr' : k ∈ Region.ready .any ops listed := by simpa using hr
    have hq : qOp P ops C k (wpQuiet P ops C Lq l) a := by unfold qOp; simp only [h0]; exact h
    obtain ⟨v, hy, hK⟩ := yieldsIn_of_qOp h0 hq
    exact headAny.firstFrom h0 hsel hs hc hn hmk (by omega) (fun listed' a' hL => seqB_ready hL.1) l.length listed a inv (Region.free_spec h0 hf) hr' hy
      (headAny.lexFrom hsel hs hc hn l (k + 1) _ _ (by omega) (fun j hj => by have := hl (j + 1) (by simp; omega); simpa [Nat.add_assoc, Nat.add_comm 1 j] using this) (by omega) (inv.set hr' (by omega)) hB' hK)

def lexTail1 (ops : Array Oper) (n : Nat) : Bool :=
  Region.noSelect ops && decide (0 < n) && decide (n < ops.size) && sinkFrom ops 1 n && Region.chainB .any ops n && Region.lexHead .any ops (ops.size - n) n 0 (Array.replicate ops.size false)

/-- **The copy of the old slice first; then the head in the order of the text, every operation quiet in the class; then the tail, in whatever world of the class.** -/
theorem wp_region_quiet_tail1 {id : Nat} {Q : Exit → Act → World → Prop} {a : Act} {w : World} {o : Oper} {l : List Oper} (x : Operand) (n : Nat) (hm : P.follows .mixedOrders = true) (hB : lexTail1 (o :: l).toArray n = true) (hop : o.op = .move x) (hg : o.guard = none)
    (hQ : ∀ c b w, Q (.panic c) (b.put o.dst (a.eval x)) w → Q (.panic c) b w) (hC : C { w with drawn := w.drawn + 1 })
    (h : wpQuiet P (o :: l).toArray C (fun a' => ∀ w', C w' → wpList P (o :: l).toArray Q (l.drop (n - 1)) a' w') (l.take (n - 1)) (a.put o.dst (a.eval x))) : (Code.region id (o :: l).toArray true).wp P Q a w := by
  simp only [lexTail1, Bool.and_eq_true, decide_eq_true_eq] at hB
  obtain ⟨⟨⟨⟨⟨hsel, hn0⟩, hn⟩, hs⟩, hc⟩, hlex⟩ := hB
  have hn' : n < l.length + 1 := by simpa using hn
  obtain ⟨n, rfl⟩ : ∃ k, n = k + 1 := ⟨n - 1, by omega⟩
  simp only [Nat.add_sub_cancel] at h
  have htl : (l.take n).length = n := by simp; omega
  have hsz : (o :: l).toArray.size = l.length + 1 := by simp
  have hdl : (l.drop n).length = (o :: l).toArray.size - (n + 1) := by simp
  have h0 : (o :: l).toArray[0]? = some o := rfl
  rw [show Region.lexHead .any (o :: l).toArray ((o :: l).toArray.size - (n + 1)) (n + 1) 0 (Array.replicate (o :: l).toArray.size false) = ((Region.ready .any (o :: l).toArray (Array.replicate (o :: l).toArray.size false)).contains 0 && Region.free .any (o :: l).toArray (Array.replicate (o :: l).toArray.size false) 0 && Region.lexHead .any (o :: l).toArray ((o :: l).toArray.size - (n + 1)) n 1 ((Array.replicate (o :: l).toArray.size false).setIfInBounds 0 true)) from rfl] at hlex
  simp only [Bool.and_eq_true] at hlex
  obtain ⟨⟨hr, hf⟩, hlex⟩ := hlex
  have inv0 : HeadInv .any (o :: l).toArray (n + 1) (Array.replicate (o :: l).toArray.size false) :=
    ⟨by simp, fun j oj _ hl => (by rw [getD_replicate_false] at hl; cases hl), fun t _ ht => getD_in (by simpa using ht) (getD_replicate_false _ _)⟩
  have inv1 := inv0.set (i := 0) (by simpa using hr) (by omega)
  have H := headAny.lexFrom (m := 1) (g := (o :: l).toArray.size - (n + 1)) hsel hs hc hn (l.take n) 1 _ (a.put o.dst (a.eval x)) (Nat.le_refl _) (fun j hj => by rw [htl] at hj; simp [hj, Nat.add_comm 1 j]) (by rw [htl]; omega) inv1 (by rw [htl]; exact hlex) h
  refine wp_region_any hm ?_
  have h2 := headAny.wp (Q := Q) (g := (o :: l).toArray.size - (n + 1)) (fun listed a' w' hC' hL => by
    have h3 := wpAny_of_seq (md := .any) (Q' := Q) (l.drop n) (n + 1) listed a' w' (fun j => by simp [Nat.add_right_comm n 1 j]) (by rw [hdl]; exact hL.1) (hL.2 w' hC')
    rwa [hdl] at h3) _ _ _ _ hC H
  rw [htl, show n + ((o :: l).toArray.size - (n + 1)) = l.length from by rw [hsz]; omega] at h2
  have h4 := wpAny_take (md := .any) (Q := Q) h0 hsel hf hr hQ (Or.inl ⟨by simp [Region.wanted, hg], fun w => by simp [execOp, hop]⟩) h2
  rw [hsz]
  exact h4

/-- .. at the class 'w with some blocks laid behind it'. -/
theorem wp_region_grown_tail1 {id : Nat} {Q : Exit → Act → World → Prop} {a : Act} {w : World} {o : Oper} {l : List Oper} (x : Operand) (n : Nat) (hm : P.follows .mixedOrders = true) (hB : lexTail1 (o :: l).toArray n = true) (hop : o.op = .move x) (hg : o.guard = none)
    (hQ : ∀ c b w, Q (.panic c) (b.put o.dst (a.eval x)) w → Q (.panic c) b w)
    (h : wpQuiet P (o :: l).toArray (fun w' => ∃ p : Regrown, w' = grow (redrawn w p.d) p.os) (fun a' => ∀ w', (∃ p : Regrown, w' = grow (redrawn w p.d) p.os) → wpList P (o :: l).toArray Q (l.drop (n - 1)) a' w') (l.take (n - 1)) (a.put o.dst (a.eval x))) : (Code.region id (o :: l).toArray true).wp P Q a w :=
  wp_region_quiet_tail1 (C := fun w' => ∃ p : Regrown, w' = grow (redrawn w p.d) p.os) x n hm hB hop hg hQ ⟨⟨w.drawn + 1, #[]⟩, by rw [grow_empty]; rfl⟩ h

end
end Go.Proofs.Ytdcogbokcbpnnaa
