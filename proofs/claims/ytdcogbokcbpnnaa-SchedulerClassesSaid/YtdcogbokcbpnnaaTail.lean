/- A region that draws its order: operations that only read, and calls that only lay new blocks, in whatever order; behind them a tail whose operations come one after the other (a new slice, an append, a store). Nothing of the program is named here. -/
import Derived.StillTail
import Derived.Lib.QuietBelow
import Derived.BigQuiet
namespace Go.Proofs.Ytdcogbokcbpnnaa
set_option linter.unusedVariables false
set_option linter.unusedSimpArgs false
open Go.RowKit Go.Sort

section
variable {P : Program} {ops : Array Oper} {C : World → Prop} {n : Nat}

/-- The head in whatever order: each operation that may come up lies ahead of number n and is quiet in the class; at the end 'L'. -/
def headAny (P : Program) (ops : Array Oper) (C : World → Prop) (n : Nat) (L : Array Bool → Act → Prop) : Nat → Array Bool → Act → Prop
  | 0, listed, a => L listed a
  | f + 1, listed, a => Region.ready .any ops listed ≠ [] ∧ ∀ i ∈ Region.ready .any ops listed, i < n ∧ qOp P ops C i (headAny P ops C n L f (listed.setIfInBounds i true)) a

theorem headAny.wp {g : Nat} {L : Array Bool → Act → Prop} {Q : Exit → Act → World → Prop} (hL : ∀ listed a w, C w → L listed a → wpAny P .any ops Q g listed a w) :
    ∀ (f : Nat) (listed : Array Bool) (a : Act) (w : World), C w → headAny P ops C n L f listed a → wpAny P .any ops Q (f + g) listed a w
  | 0, listed, a, w, hC, h => by rw [Nat.zero_add]; exact hL _ _ _ hC h
  | f + 1, listed, a, w, hC, h => by
    rw [show f + 1 + g = (f + g) + 1 from by omega]
    exact ⟨fun h0 => absurd h0 h.1, fun i hi => wpOp_of_qOp hC (fun a' w' hC' hk => headAny.wp hL f _ a' w' hC' hk) (h.2 i hi).2⟩

/-- What is free to come first may be taken first. -/
theorem headAny.first {i : Nat} {oi : Oper} {v : Value} {L : Array Bool → Act → Prop} (hi : ops[i]? = some oi) (hsel : Region.noSelect ops = true) (hs : Region.sinkB .any ops n = true) (hc : Region.chainB .any ops n = true)
    (hn : n < ops.size) (hin : i < n) (hdone : ∀ listed a, L listed a → ∀ j ∈ Region.ready .any ops listed, n ≤ j) :
    ∀ (f : Nat) (listed : Array Bool) (a : Act), HeadInv .any ops n listed →
      (∀ j oj, ops[j]? = some oj → j ≠ i → listed.getD j true = false → (∀ e ∈ oj.after, Region.binds .any e = true → e.on ≠ i) → oi.apart ops oj = true) →
      i ∈ Region.ready .any ops listed → YieldsIn P ops C oi v a → headAny P ops C n L f (listed.setIfInBounds i true) (a.put oi.dst v) → headAny P ops C n L (f + 1) listed a
  | f, listed, a, inv, hfree, hr, hy, H => by
    have hun := (mem_ready.1 hr).1
    refine ⟨(fun h0 => by rw [h0] at hr; cases hr), fun j hj => ?_⟩
    have hjn : j < n := Nat.lt_of_not_le fun hle => tail_waits hs hc hn inv _ i rfl hin hun j hle hj
    refine ⟨hjn, ?_⟩
    by_cases hji : j = i
    · subst hji; exact hy.qOp hi H
    · cases f with
      | zero => exact absurd (hdone _ _ H j (ready_mono hj hji)) (by omega)
      | succ f =>
        have h1 := (H.2 j (ready_mono hj hji)).2
        obtain ⟨hjun, oj, hoj, hall⟩ := mem_ready.1 hj
        have hnot : ∀ e ∈ oj.after, Region.binds .any e = true → e.on ≠ i := fun e he hb heq => by
          have h2 := hall e he hb
          rw [heq, getD_both hun] at h2
          cases h2
        have h2 := qOp_put hoj (hfree j oj hoj hji hjun hnot) (fun cs b => Region.noSelect_spec hsel i oi cs b hi) (fun cs b => Region.noSelect_spec hsel j oj cs b hoj) hy h1
        refine qOp_mono (fun a' h3 => headAny.first hi hsel hs hc hn hin hdone f (listed.setIfInBounds j true) a' (inv.set hj hjn) (fun k ok hk hki hku hno => ?_) (ready_mono hr (Ne.symm hji)) h3.1 ?_) h2
        · refine hfree k ok hk hki ?_ hno
          by_cases hjk : j = k
          · subst hjk; exact hjun
          · rw [getD_set_ne true hjk] at hku; exact hku
        · rw [Array.setIfInBounds_comm _ _ hji]
          exact h3.2

theorem headAny.lex {g : Nat} {Lq : Act → Prop} (hsel : Region.noSelect ops = true) (hs : Region.sinkB .any ops n = true) (hc : Region.chainB .any ops n = true) (hn : n < ops.size) :
    ∀ (l : List Oper) (k : Nat) (listed : Array Bool) (a : Act), (∀ j, j < l.length → l[j]? = ops[k + j]?) → k + l.length = n → HeadInv .any ops n listed →
    Region.lexHead .any ops g l.length k listed = true → wpQuiet P ops C Lq l a → headAny P ops C n (fun listed' a' => Region.seqB .any ops g n listed' = true ∧ Lq a') l.length listed a
  | [], k, listed, a, _, hk, _, hB, h => by
    have : k = n := by simpa using hk
    subst this
    exact ⟨by simpa [Region.lexHead] using hB, h⟩
  | o :: l, k, listed, a, hl, hk, inv, hB, h => by
    simp only [List.length_cons] at hk
    have h0 : ops[k]? = some o := by simpa using (hl 0 (by simp)).symm
    simp only [List.length_cons, Region.lexHead, Bool.and_eq_true] at hB
    obtain ⟨⟨hr, hf⟩, hB'⟩ := hB
    have hr' : k ∈ Region.ready .any ops listed := by simpa using hr
    have hq : qOp P ops C k (wpQuiet P ops C Lq l) a := by unfold qOp; simp only [h0]; exact h
    obtain ⟨v, hy, hK⟩ := yieldsIn_of_qOp h0 hq
    exact headAny.first h0 hsel hs hc hn (by omega) (fun listed' a' hL => seqB_ready hL.1) l.length listed a inv (Region.free_spec h0 hf) hr' hy
      (headAny.lex hsel hs hc hn l (k + 1) _ _ (fun j hj => by have := hl (j + 1) (by simp; omega); simpa [Nat.add_assoc, Nat.add_comm 1 j] using this) (by omega) (inv.set hr' (by omega)) hB' hK)

/-- **The head in the order of the text, every operation quiet in the class; then the tail, in whatever world of the class.** -/
theorem wp_region_quiet_tail {id : Nat} {Q : Exit → Act → World → Prop} {a : Act} {w : World} {l : List Oper} (n : Nat) (hm : P.follows .mixedOrders = true) (hB : Region.lexTailB .any l.toArray n = true) (hC : C { w with drawn := w.drawn + 1 })
    (h : wpQuiet P l.toArray C (fun a' => ∀ w', C w' → wpList P l.toArray Q (l.drop n) a' w') (l.take n) a) : (Code.region id l.toArray true).wp P Q a w := by
  simp only [Region.lexTailB, Bool.and_eq_true, decide_eq_true_eq] at hB
  obtain ⟨⟨⟨⟨hsel, hn⟩, hs⟩, hc⟩, hlex⟩ := hB
  have hn' : n < l.length := by simpa using hn
  have htl : (l.take n).length = n := by simp; omega
  have hdl : (l.drop n).length = l.toArray.size - n := by simp
  have inv0 : HeadInv .any l.toArray n (Array.replicate l.toArray.size false) :=
    ⟨by simp, fun j oj _ hl => (by rw [getD_replicate_false] at hl; cases hl), fun t _ ht => getD_in (by simpa using ht) (getD_replicate_false _ _)⟩
  have H := headAny.lex (g := l.toArray.size - n) hsel hs hc hn (l.take n) 0 _ a (fun j hj => by rw [htl] at hj; simp [hj]) (by simpa using htl) inv0 (by rw [htl]; exact hlex) h
  refine wp_region_any hm ?_
  have h2 := headAny.wp (Q := Q) (g := l.toArray.size - n) (fun listed a' w' hC' hL => by
    have h3 := wpAny_of_seq (md := .any) (Q' := Q) (l.drop n) n listed a' w' (fun j => by simp [List.getElem?_drop]) (by rw [hdl]; exact hL.1) (hL.2 w' hC')
    rwa [hdl] at h3) _ _ _ _ hC H
  rw [htl, show n + (l.toArray.size - n) = l.toArray.size from by omega] at h2
  exact h2

/-- .. at the class 'w with some blocks laid behind it'. -/
theorem wp_region_grown_tail {id : Nat} {Q : Exit → Act → World → Prop} {a : Act} {w : World} {l : List Oper} (n : Nat) (hm : P.follows .mixedOrders = true) (hB : Region.lexTailB .any l.toArray n = true)
    (h : wpQuiet P l.toArray (fun w' => ∃ p : Regrown, w' = grow (redrawn w p.d) p.os) (fun a' => ∀ w', (∃ p : Regrown, w' = grow (redrawn w p.d) p.os) → wpList P l.toArray Q (l.drop n) a' w') (l.take n) a) : (Code.region id l.toArray true).wp P Q a w :=
  wp_region_quiet_tail (C := fun w' => ∃ p : Regrown, w' = grow (redrawn w p.d) p.os) n hm hB ⟨⟨w.drawn + 1, #[]⟩, by rw [grow_empty]; rfl⟩ h

end
end Go.Proofs.Ytdcogbokcbpnnaa
