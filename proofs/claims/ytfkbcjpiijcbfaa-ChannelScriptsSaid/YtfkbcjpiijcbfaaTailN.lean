/- A region that draws its order, of the form 'out = append(out, f(..))' with out in a box: its first operation loads the old slice and may come up at any time ahead of the append. And the step from a drawn region outside a fence to one in a round of a range over a function. Nothing of the program is named here. -/
import Derived.Test.YtfkbcjpiijcbfaaTailL
import Derived.OrdersIn
import Derived.RangeFuncRecord
import Derived.RangeFuncCalls
namespace Go.Proofs.Ytfkbcjpiijcbfaa
set_option linter.unusedVariables false
set_option linter.unusedSimpArgs false
open Go.RowKit Go.Sort

section
variable {P : Program} {ops : Array Oper} {C : World → Prop} {Q : Exit → Act → World → Prop} {n m N : Nat}

def lexTail3 (ops : Array Oper) (n : Nat) : Bool :=
  Region.noSelect ops && decide (1 ≤ n) && decide (n + 1 < ops.size) && sinkFrom ops 1 n && Region.chainB .any ops n && waitsB ops (n + 1) 0 && Region.lexHead .any ops (ops.size - n) n 0 (Array.replicate ops.size false)

/-- **The old slice first; then the head in the order of the text, every operation quiet in the class; then one that lays a block; then the tail.** -/
theorem wpAny_quiet_tail3 {a : Act} {w : World} {o1 on : Oper} {l : List Oper} (v1 : Value) (n : Nat) (hB : lexTail3 (o1 :: l).toArray n = true)
    (g1 : o1.guard = none) (hon : (o1 :: l).toArray[n]? = some on) (gn : on.guard = none)
    (y1 : ∀ w', C w' → (execOp a.eval o1).run P w' = .ok (.value v1) w')
    (hQ' : ∀ c b w, Q (.panic c) (b.put o1.dst v1) w → Q (.panic c) b w) (hC : C { w with drawn := w.drawn + 1 })
    (h : wpQuiet P (o1 :: l).toArray C (fun a' => ∀ w', C w' → ∃ v w'', (execOp a'.eval on).run P w' = .ok (.value v) w'' ∧ C w'' ∧ wpList P (o1 :: l).toArray Q (l.drop n) (a'.put on.dst v) w'') (l.take (n - 1)) (a.put o1.dst v1)) :
    wpAny P .any (o1 :: l).toArray Q (o1 :: l).toArray.size (Array.replicate (o1 :: l).toArray.size false) a { w with drawn := w.drawn + 1 } := by
  simp only [lexTail3, Bool.and_eq_true, decide_eq_true_eq] at hB
  obtain ⟨⟨⟨⟨⟨⟨hsel, hn0⟩, hn⟩, hs⟩, hc⟩, hwt⟩, hlex⟩ := hB
  have hn' : n + 1 < l.length + 1 := by simpa using hn
  obtain ⟨n, rfl⟩ : ∃ k, n = k + 1 := ⟨n - 1, by omega⟩
  simp only [Nat.add_sub_cancel] at h
  have htl : (l.take n).length = n := by simp; omega
  have hsz : (o1 :: l).toArray.size = l.length + 1 := by simp
  obtain ⟨g, hg⟩ : ∃ g, (o1 :: l).toArray.size - (n + 1) = g + 1 := ⟨(o1 :: l).toArray.size - (n + 1) - 1, by omega⟩
  rw [hg] at hlex
  obtain ⟨oN, hoN, hwN⟩ := waitsB_spec hwt
  generalize hops : (o1 :: l).toArray = ops at *
  have h1 : ops[0]? = some o1 := by rw [← hops]; rfl
  have hk : ∀ j, j < n → l[j]? = ops[1 + j]? := fun j _ => by rw [← hops]; simp [Nat.add_comm 1 j]
  have hd : ∀ j, (l.drop (n + 1))[j]? = ops[n + 1 + 1 + j]? := fun j => by rw [← hops]; simp [show n + 1 + 1 + j = (n + 1 + j) + 1 by omega]
  have hdl : (l.drop (n + 1)).length = g := by simp; omega
  simp only [Region.lexHead, Bool.and_eq_true] at hlex
  obtain ⟨⟨hr1, hf1⟩, hlex⟩ := hlex
  have inv0 : HeadInv .any ops (n + 1) (Array.replicate ops.size false) :=
    ⟨by simp, fun j oj _ hl => (by rw [getD_replicate_false] at hl; cases hl), fun t _ ht => getD_in (by simpa using ht) (getD_replicate_false _ _)⟩
  have inv2 := inv0.set (i := 0) (by simpa using hr1) (by omega)
  have H := headAny.lexFrom (m := 1) (g := g + 1) hsel hs hc (by omega) (l.take n) 1 _ (a.put o1.dst v1) (Nat.le_refl _) (fun j hj => by rw [htl] at hj; rw [← hk j hj]; simp [hj]) (by rw [htl]; omega) inv2 (by rw [htl]; exact hlex) h
  refine wpAny_of_U (C := C) (N := n + 1 + 1) _ _ _ _ ?_
  have h2 := headAny.wpU (Q := Q) (N := n + 1 + 1) (g := g + 1) (fun listed' a' w' hC' hL => by
    obtain ⟨hseq, hL⟩ := hL
    obtain ⟨v, w'', hrun, hC'', hrest⟩ := hL w' hC'
    simp only [Region.seqB, Bool.and_eq_true, decide_eq_true_eq] at hseq
    refine ⟨fun h1 => (by rw [hseq.1] at h1; cases h1), fun i hi => ?_⟩
    rw [hseq.1] at hi
    have hik : i = n + 1 := by simpa using hi
    subst hik
    have hw : wpOp P ops Q (n + 1) (fun b u => b = a'.put on.dst v ∧ u = w'') a' w' := by
      unfold wpOp
      simp only [hon]
      simp [Region.wanted, gn, Oper.wp, hrun, Oper.upon]
    refine wpOp_mono (fun b u hbu => ?_) hw
    obtain ⟨rfl, rfl⟩ := hbu
    refine ⟨fun _ => hC'', ?_⟩
    have h3 := wpAny_of_seq (md := .any) (Q' := Q) (l.drop (n + 1)) (n + 1 + 1) (listed'.setIfInBounds (n + 1) true) (a'.put on.dst v) u hd (by rw [hdl]; exact hseq.2) hrest
    rw [hdl] at h3
    by_cases hlz : n + 1 + 1 < listed'.size
    · refine wpAnyU_at (by simpa using hlz) (fun i hi => ?_) h3
      cases g with
      | zero => omega
      | succ g =>
        simp only [Region.seqB, Bool.and_eq_true, decide_eq_true_eq] at hseq
        rw [hseq.2.1] at hi
        simpa using hi
    · refine absurd ?_ hlz
      have hnr : n + 1 ∈ Region.ready .any ops listed' := by rw [hseq.1]; simp
      cases g with
      | zero => omega
      | succ g =>
        simp only [Region.seqB, Bool.and_eq_true, decide_eq_true_eq] at hseq
        have hnr2 : n + 1 + 1 ∈ Region.ready .any ops (listed'.setIfInBounds (n + 1) true) := by rw [hseq.2.1]; simp
        have h5 := (mem_ready.1 hnr2).1
        rcases Nat.lt_or_ge (n + 1 + 1) listed'.size with h' | h'
        · exact h'
        · simp [Array.getElem?_eq_none (show (listed'.setIfInBounds (n + 1) true).size ≤ n + 1 + 1 by simpa using h')] at h5) _ _ _ _ hC H
  rw [htl, show n + (g + 1) = ops.size - 1 from by omega] at h2
  have hs2 : ops.size = (ops.size - 1) + 1 := by omega
  have hrep : ∀ k, k < ops.size → (Array.replicate ops.size false).getD k true = false := fun k hk => getD_in (by simpa using hk) (getD_replicate_false _ _)
  rw [show wpAnyU P ops C (n + 1 + 1) Q ops.size (Array.replicate ops.size false) a _ = wpAnyU P ops C (n + 1 + 1) Q ((ops.size - 1) + 1) (Array.replicate ops.size false) a _ from by rw [← hs2]]
  exact wpAnyU_first h1 (Region.noSelect_spec hsel) hQ' hoN hwN _ _ _ _ (Region.free_spec h1 hf1) (by simpa using hr1) (hrep _ (by omega)) (Or.inl ⟨by simp [Region.wanted, g1], y1⟩) hC h2

/-- .. at the class 'w with some blocks laid behind it'. -/
theorem wpAny_grown_tail3 {a : Act} {w : World} {o1 on : Oper} {l : List Oper} (v1 : Value) (n : Nat) (hB : lexTail3 (o1 :: l).toArray n = true)
    (g1 : o1.guard = none) (hon : (o1 :: l).toArray[n]? = some on) (gn : on.guard = none) (y1 : ∀ d os, (execOp a.eval o1).run P (grow (redrawn w d) os) = .ok (.value v1) (grow (redrawn w d) os))
    (hQ' : ∀ c b w, Q (.panic c) (b.put o1.dst v1) w → Q (.panic c) b w)
    (h : wpQuiet P (o1 :: l).toArray (fun w' => ∃ p : Regrown, w' = grow (redrawn w p.d) p.os) (fun a' => ∀ w', (∃ p : Regrown, w' = grow (redrawn w p.d) p.os) → ∃ v w'', (execOp a'.eval on).run P w' = .ok (.value v) w'' ∧ (∃ p : Regrown, w'' = grow (redrawn w p.d) p.os) ∧ wpList P (o1 :: l).toArray Q (l.drop n) (a'.put on.dst v) w'') (l.take (n - 1)) (a.put o1.dst v1)) :
    wpAny P .any (o1 :: l).toArray Q (o1 :: l).toArray.size (Array.replicate (o1 :: l).toArray.size false) a { w with drawn := w.drawn + 1 } :=
  wpAny_quiet_tail3 (C := fun w' => ∃ p : Regrown, w' = grow (redrawn w p.d) p.os) v1 n hB g1 hon gn (fun w' ⟨p, hp⟩ => by rw [hp]; exact y1 _ _) hQ' ⟨⟨w.drawn + 1, #[]⟩, by rw [grow_empty]; rfl⟩ h

/-- An operation in a round's frame: as in an activation of a function, but for 'defer'. -/
theorem wpIn_round_of_wp {l k : Nat} {o : Oper} {a : Act} {w : World} {K : Act → World → Prop} (hd : ∀ c, o.op ≠ .defer c) (h : o.wp P a w K Q) : o.wpIn (Fence.wide.inRound l) k P a w K Q := by
  refine ⟨fun f _ => trivial, ?_⟩
  rw [Oper.semAt_eq _ _ _ hd]
  unfold Oper.wp at h
  generalize (execOp a.eval o).run P w = r at *
  cases r with
  | ok x w' =>
    have hdep : ∀ p : Prop, (Fence.wide.inRound l).depth.isSome = true → p := fun p h => (by simp [Fence.inRound, Fence.wide] at h)
    cases x with
    | enter f args =>
      simp only [Oper.upon, Oper.uponIn] at h ⊢
      refine ⟨hdep _, CallsIn.inRound l ?_⟩
      exact CallsIn.mono (callsIn_wide.2 h) (fun e w'' he => by cases e <;> exact he)
    | row row args =>
      simp only [Oper.upon, Oper.uponIn] at h ⊢
      refine ⟨hdep _, fun c cs _ => ?_⟩
      obtain ⟨v, w'', r, s⟩ := h c cs
      exact ⟨v, w'', r, stepsIn_wide.2 s⟩
    | round l' f tmps assign body => exact absurd h (by simp [Oper.upon])
    | value v => exact h
    | skip => exact h
    | defer d => exact h
    | _ => exact absurd h (by simp [Oper.upon])
  | halt x w' => cases x <;> simp only [Oper.upon, Oper.uponIn] at h ⊢ <;> exact h
theorem wpOpIn_round_of {l k i : Nat} {a : Act} {w : World} {K K' : Act → World → Prop} (hK : ∀ a w, K a w → K' a w) (hlo : ¬ LetsOut Q) (hd : ∀ (o : Oper) c, ops[i]? = some o → o.op ≠ .defer c) (h : wpOp P ops Q i K a w) : wpOpIn (Fence.wide.inRound l) k P ops Q i K' a w := by
  refine wpOpIn_mono hK ?_
  unfold wpOp at h
  unfold wpOpIn
  cases ho : ops[i]? with
  | none => rw [ho] at h; exact h
  | some o =>
    rw [ho] at h
    simp only at h ⊢
    split
    · rename_i hw
      rw [if_pos hw] at h
      exact wpIn_round_of_wp (fun c => hd o c ho) (h.resolve_right fun h2 => hlo h2.2)
    · rename_i hw
      rw [if_neg hw] at h
      exact ⟨fun f _ => trivial, h⟩
theorem wpAnyIn_round {l k : Nat} (hlo : ¬ LetsOut Q) (hd : ∀ (i : Nat) (o : Oper) c, ops[i]? = some o → o.op ≠ .defer c) : ∀ (fuel : Nat) (listed : Array Bool) (a : Act) (w : World), wpAny P .any ops Q fuel listed a w → wpAnyIn (Fence.wide.inRound l) k P .any ops Q fuel listed a w
  | 0, _, _, _, h => h
  | fuel + 1, listed, a, w, h => ⟨h.1, fun i hi => wpOpIn_round_of (fun a' w' h' => wpAnyIn_round hlo hd fuel _ a' w' h') hlo (fun o c => hd i o c) (h.2 i hi)⟩
def noDefer (ops : Array Oper) : Bool := ops.toList.all fun o => match o.op with | .defer _ => false | _ => true
theorem noDefer_spec (h : noDefer ops = true) : ∀ (i : Nat) (o : Oper) c, ops[i]? = some o → o.op ≠ .defer c := fun i o c hi e => by
  have := List.all_eq_true.1 h o (by rw [Array.mem_toList_iff]; exact Array.mem_of_getElem? hi)
  rw [e] at this
  cases this
/-- A drawn region in a round. -/
theorem wpIn_round_region {l k id : Nat} {a : Act} {w : World} (hm : P.follows .mixedOrders = true) (hd : noDefer ops = true) (hlo : ¬ LetsOut Q) (h : wpAny P .any ops Q ops.size (Array.replicate ops.size false) a { w with drawn := w.drawn + 1 }) : (Code.region id ops true).wpIn (Fence.wide.inRound l) k P Q a w :=
  wpIn_region_any hm (wpAnyIn_round hlo (noDefer_spec hd) _ _ _ _ h)
end
end Go.Proofs.Ytfkbcjpiijcbfaa
