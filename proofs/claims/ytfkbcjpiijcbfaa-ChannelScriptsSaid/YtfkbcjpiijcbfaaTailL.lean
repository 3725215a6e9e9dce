/- A region that draws its order, of the form 'x.f = append(x.f, f(..))': its first two operations reckon an address and load the old slice, and may come up at any time ahead of the append; the operations behind them only read or lay blocks; then one that lays a block (the new slice), the append, and a tail in order. Nothing of the program is named here. -/
import Derived.Test.YtfkbcjpiijcbfaaTailM
import Derived.OrdersHeld
namespace Go.Proofs.Ytfkbcjpiijcbfaa
set_option linter.unusedVariables false
set_option linter.unusedSimpArgs false
open Go.RowKit Go.Sort

section
variable {P : Program} {ops : Array Oper} {C : World → Prop} {Q : Exit → Act → World → Prop} {n m N : Nat}

/-- Whatever order is picked; C holds as long as number N has not come up. -/
def wpAnyU (P : Program) (ops : Array Oper) (C : World → Prop) (N : Nat) (Q : Exit → Act → World → Prop) : Nat → Array Bool → Act → World → Prop
  | 0, listed, a, w => Region.ready .any ops listed = [] ∧ Q .normal a w
  | fuel + 1, listed, a, w =>
    (Region.ready .any ops listed = [] → Q .normal a w) ∧
    ∀ i ∈ Region.ready .any ops listed, wpOp P ops Q i (fun a' w' => ((listed.setIfInBounds i true).getD N true = false → C w') ∧ wpAnyU P ops C N Q fuel (listed.setIfInBounds i true) a' w') a w

theorem wpAny_of_U : ∀ (fuel : Nat) (listed : Array Bool) (a : Act) (w : World), wpAnyU P ops C N Q fuel listed a w → wpAny P .any ops Q fuel listed a w
  | 0, _, _, _, h => h
  | fuel + 1, _, _, _, h => ⟨h.1, fun i hi => wpOp_mono (fun a' w' h' => wpAny_of_U fuel _ a' w' h'.2) (h.2 i hi)⟩

theorem wpAnyU_of_listed : ∀ (fuel : Nat) (listed : Array Bool) (a : Act) (w : World), listed.getD N false = true → wpAny P .any ops Q fuel listed a w → wpAnyU P ops C N Q fuel listed a w
  | 0, _, _, _, _, h => h
  | fuel + 1, listed, _, _, hl, h => ⟨h.1, fun i hi => wpOp_mono (fun a' w' h' => by
      have h1 : (listed.setIfInBounds i true).getD N false = true := getD_set_true hl
      refine ⟨fun h2 => ?_, wpAnyU_of_listed fuel _ a' w' h1 h'⟩
      rw [getD_both h2] at h1
      cases h1) (h.2 i hi)⟩

theorem wpAnyU_at {fuel : Nat} {listed : Array Bool} {a : Act} {w : World} (hN : N < listed.size) (hr : ∀ i ∈ Region.ready .any ops listed, i = N) (h : wpAny P .any ops Q fuel listed a w) : wpAnyU P ops C N Q fuel listed a w := by
  cases fuel with
  | zero => exact h
  | succ fuel =>
    refine ⟨h.1, fun i hi => wpOp_mono (fun a' w' h' => ?_) (h.2 i hi)⟩
    obtain rfl := hr i hi
    have h1 : (listed.setIfInBounds i true).getD i false = true := by simp [hN]
    refine ⟨fun h2 => ?_, wpAnyU_of_listed fuel _ a' w' h1 h'⟩
    rw [getD_both h2] at h1
    cases h1

/-- What yields in whatever world of the class, and for which number N waits, may be taken first. -/
theorem wpAnyU_first {i : Nat} {oi : Oper} {v : Value} (hi : ops[i]? = some oi) (hsel : ∀ (j : Nat) (o : Oper) cs b, ops[j]? = some o → o.op ≠ .select cs b)
    (hQ : ∀ c a w, Q (.panic c) (a.put oi.dst v) w → Q (.panic c) a w) {oN : Oper} (hN : ops[N]? = some oN) (hNi : ∃ e ∈ oN.after, Region.binds .any e = true ∧ e.on = i) :
    ∀ (fuel : Nat) (listed : Array Bool) (a : Act) (w : World),
      (∀ j oj, ops[j]? = some oj → j ≠ i → listed.getD j true = false → (∀ e ∈ oj.after, Region.binds .any e = true → e.on ≠ i) → oi.apart ops oj = true) →
      i ∈ Region.ready .any ops listed → listed.getD N true = false → YieldsIf P ops C oi v a → C w →
      wpAnyU P ops C N Q fuel (listed.setIfInBounds i true) (a.put oi.dst v) w → wpAnyU P ops C N Q (fuel + 1) listed a w := by
  intro fuel
  induction fuel with
  | zero =>
    intro listed a w _ hr _ hy hS H
    refine ⟨fun h => (by rw [h] at hr; cases hr), fun j hj => ?_⟩
    by_cases hji : j = i
    · subst hji; exact hy.wpOp hi hS ⟨fun _ => hS, H⟩
    · have := ready_mono hj hji
      rw [H.1] at this
      cases this
  | succ fuel ih =>
    intro listed a w hfree hr hNu hy hS H
    refine ⟨fun h => (by rw [h] at hr; cases hr), fun j hj => ?_⟩
    by_cases hji : j = i
    · subst hji; exact hy.wpOp hi hS ⟨fun _ => hS, H⟩
    · have h1 := H.2 j (ready_mono hj hji)
      obtain ⟨hjun, oj, hoj, hall⟩ := mem_ready.1 hj
      have h0 := (mem_ready.1 hr).1
      have hnot : ∀ e ∈ oj.after, Region.binds .any e = true → e.on ≠ i := fun e he hb heq => by
        have h1 := hall e he hb
        rw [heq, getD_both h0] at h1
        cases h1
      have hjN : j ≠ N := fun h => by
        subst h
        have : oj = oN := Option.some.inj (hoj.symm.trans hN)
        subst this
        obtain ⟨e, he, hb, ho⟩ := hNi
        exact hnot e he hb ho
      have hiN : i ≠ N := fun h => by
        subst h
        obtain ⟨_, o, ho, ha⟩ := mem_ready.1 hr
        have : o = oN := Option.some.inj (ho.symm.trans hN)
        subst this
        obtain ⟨e, he, hb, ho⟩ := hNi
        have h2 := ha e he hb
        rw [ho, getD_both h0] at h2
        cases h2
      have hNu' : (listed.setIfInBounds j true).getD N true = false := by rw [getD_set_ne true hjN]; exact hNu
      have hNu2 : ((listed.setIfInBounds i true).setIfInBounds j true).getD N true = false := by rw [getD_set_ne true hjN, getD_set_ne true hiN]; exact hNu
      have h2 := wpOp_putIf hoj (hfree j oj hoj hji hjun hnot) (fun cs b => hsel i oi cs b hi) (fun cs b => hsel j oj cs b hoj) hQ hy h1
      have hfree' : ∀ k ok, ops[k]? = some ok → k ≠ i → (listed.setIfInBounds j true).getD k true = false →
          (∀ e ∈ ok.after, Region.binds .any e = true → e.on ≠ i) → oi.apart ops ok = true := fun k ok hk hki hun hno => by
        refine hfree k ok hk hki ?_ hno
        by_cases hjk : j = k
        · subst hjk; exact hjun
        · rw [getD_set_ne true hjk] at hun; exact hun
      refine wpOp_mono (fun a' w' h3 => ?_) h2
      have hC' := h3.2.1 hNu2
      refine ⟨fun _ => hC', ih (listed.setIfInBounds j true) a' w' hfree' (ready_mono hr (Ne.symm hji)) hNu' h3.1 hC' ?_⟩
      rw [Array.setIfInBounds_comm _ _ hji]
      exact h3.2.2

/-- What yields in whatever world may be taken first. -/
theorem wpAnyU_first' {i : Nat} {oi : Oper} {v : Value} (hi : ops[i]? = some oi) (hsel : ∀ (j : Nat) (o : Oper) cs b, ops[j]? = some o → o.op ≠ .select cs b)
    (hQ : ∀ c a w, Q (.panic c) (a.put oi.dst v) w → Q (.panic c) a w) (hiN : i ≠ N) :
    ∀ (fuel : Nat) (listed : Array Bool) (a : Act) (w : World),
      (∀ j oj, ops[j]? = some oj → j ≠ i → listed.getD j true = false → (∀ e ∈ oj.after, Region.binds .any e = true → e.on ≠ i) → oi.apart ops oj = true) →
      i ∈ Region.ready .any ops listed → Yields P ops oi v a → (listed.getD N true = false → C w) →
      wpAnyU P ops C N Q fuel (listed.setIfInBounds i true) (a.put oi.dst v) w → wpAnyU P ops C N Q (fuel + 1) listed a w := by
  intro fuel
  induction fuel with
  | zero =>
    intro listed a w _ hr hy hS H
    refine ⟨fun h => (by rw [h] at hr; cases hr), fun j hj => ?_⟩
    by_cases hji : j = i
    · subst hji; exact hy.wpOp hi ⟨fun h => hS (by rw [getD_set_ne true hiN] at h; exact h), H⟩
    · have := ready_mono hj hji
      rw [H.1] at this
      cases this
  | succ fuel ih =>
    intro listed a w hfree hr hy hS H
    refine ⟨fun h => (by rw [h] at hr; cases hr), fun j hj => ?_⟩
    by_cases hji : j = i
    · subst hji; exact hy.wpOp hi ⟨fun h => hS (by rw [getD_set_ne true hiN] at h; exact h), H⟩
    · have h1 := H.2 j (ready_mono hj hji)
      obtain ⟨hjun, oj, hoj, hall⟩ := mem_ready.1 hj
      have h0 := (mem_ready.1 hr).1
      have hnot : ∀ e ∈ oj.after, Region.binds .any e = true → e.on ≠ i := fun e he hb heq => by
        have h1 := hall e he hb
        rw [heq, getD_both h0] at h1
        cases h1
      have h2 := wpOp_put hoj (hfree j oj hoj hji hjun hnot) (fun cs b => hsel i oi cs b hi) (fun cs b => hsel j oj cs b hoj) hQ hy h1
      have hfree' : ∀ k ok, ops[k]? = some ok → k ≠ i → (listed.setIfInBounds j true).getD k true = false →
          (∀ e ∈ ok.after, Region.binds .any e = true → e.on ≠ i) → oi.apart ops ok = true := fun k ok hk hki hun hno => by
        refine hfree k ok hk hki ?_ hno
        by_cases hjk : j = k
        · subst hjk; exact hjun
        · rw [getD_set_ne true hjk] at hun; exact hun
      refine wpOp_mono (fun a' w' h3 => ?_) h2
      have hC' : (listed.setIfInBounds j true).getD N true = false → C w' := fun h => h3.2.1 (by rw [Array.setIfInBounds_comm _ _ (Ne.symm hji), getD_set_ne true hiN]; exact h)
      refine ⟨hC', ih (listed.setIfInBounds j true) a' w' hfree' (ready_mono hr (Ne.symm hji)) h3.1 hC' ?_⟩
      rw [Array.setIfInBounds_comm _ _ hji]
      exact h3.2.2

theorem headAny.wpU {g : Nat} {L : Array Bool → Act → Prop} (hL : ∀ listed a w, C w → L listed a → wpAnyU P ops C N Q g listed a w) :
    ∀ (f : Nat) (listed : Array Bool) (a : Act) (w : World), C w → headAny P ops C n L f listed a → wpAnyU P ops C N Q (f + g) listed a w
  | 0, listed, a, w, hC, h => by rw [Nat.zero_add]; exact hL _ _ _ hC h
  | f + 1, listed, a, w, hC, h => by
    rw [show f + 1 + g = (f + g) + 1 from by omega]
    exact ⟨fun h0 => absurd h0 h.1, fun i hi => wpOp_of_qOp hC (fun a' w' hC' hk => ⟨fun _ => hC', headAny.wpU hL f _ a' w' hC' hk⟩) (h.2 i hi).2⟩

/-- Number i waits for number j. -/
def waitsB (ops : Array Oper) (i j : Nat) : Bool := match ops[i]? with | none => false | some o => o.after.any fun e => Region.binds .any e && e.on == j
theorem waitsB_spec {i j : Nat} (h : waitsB ops i j = true) : ∃ o, ops[i]? = some o ∧ ∃ e ∈ o.after, Region.binds .any e = true ∧ e.on = j := by
  unfold waitsB at h
  split at h
  · cases h
  · rename_i o ho
    obtain ⟨k, hk, h2⟩ := Array.any_eq_true.1 h
    simp only [Bool.and_eq_true, beq_iff_eq] at h2
    exact ⟨o, ho, o.after[k], Array.getElem_mem hk, h2⟩

def lexTail2 (ops : Array Oper) (n : Nat) : Bool :=
  Region.noSelect ops && decide (2 ≤ n) && decide (n + 1 < ops.size) && sinkFrom ops 2 n && Region.chainB .any ops n && waitsB ops (n + 1) 1 && Region.lexHead .any ops (ops.size - n) n 0 (Array.replicate ops.size false)

/-- **The old slice's address and the old slice first; then the head in the order of the text, every operation quiet in the class; then one that lays a block; then the tail.** -/
theorem wp_region_quiet_tail2 {id : Nat} {a : Act} {w : World} {o0 o1 on : Oper} {l : List Oper} (v0 v1 : Value) (n : Nat) (hm : P.follows .mixedOrders = true) (hB : lexTail2 (o0 :: o1 :: l).toArray n = true)
    (g0 : o0.guard = none) (g1 : o1.guard = none) (hon : (o0 :: o1 :: l).toArray[n]? = some on) (gn : on.guard = none)
    (y0 : ∀ w', (execOp a.eval o0).run P w' = .ok (.value v0) w') (y1 : ∀ w', C w' → (execOp (a.put o0.dst v0).eval o1).run P w' = .ok (.value v1) w')
    (hQ : ∀ c b w, Q (.panic c) (b.put o0.dst v0) w → Q (.panic c) b w) (hQ' : ∀ c b w, Q (.panic c) (b.put o1.dst v1) w → Q (.panic c) b w) (hC : C { w with drawn := w.drawn + 1 })
    (h : wpQuiet P (o0 :: o1 :: l).toArray C (fun a' => ∀ w', C w' → ∃ v w'', (execOp a'.eval on).run P w' = .ok (.value v) w'' ∧ C w'' ∧ wpList P (o0 :: o1 :: l).toArray Q (l.drop (n - 1)) (a'.put on.dst v) w'') (l.take (n - 2)) ((a.put o0.dst v0).put o1.dst v1)) :
    (Code.region id (o0 :: o1 :: l).toArray true).wp P Q a w := by
  simp only [lexTail2, Bool.and_eq_true, decide_eq_true_eq] at hB
  obtain ⟨⟨⟨⟨⟨⟨hsel, hn0⟩, hn⟩, hs⟩, hc⟩, hwt⟩, hlex⟩ := hB
  have hn' : n + 1 < l.length + 2 := by simpa using hn
  obtain ⟨n, rfl⟩ : ∃ k, n = k + 2 := ⟨n - 2, by omega⟩
  simp only [Nat.add_sub_cancel, show n + 2 - 1 = n + 1 from by omega] at h
  have htl : (l.take n).length = n := by simp; omega
  have hsz : (o0 :: o1 :: l).toArray.size = l.length + 2 := by simp
  obtain ⟨g, hg⟩ : ∃ g, (o0 :: o1 :: l).toArray.size - (n + 2) = g + 1 := ⟨(o0 :: o1 :: l).toArray.size - (n + 2) - 1, by omega⟩
  rw [hg] at hlex
  obtain ⟨oN, hoN, hwN⟩ := waitsB_spec hwt
  generalize hops : (o0 :: o1 :: l).toArray = ops at *
  have h0 : ops[0]? = some o0 := by rw [← hops]; rfl
  have h1 : ops[1]? = some o1 := by rw [← hops]; rfl
  have hk : ∀ j, j < n → l[j]? = ops[2 + j]? := fun j _ => by rw [← hops]; simp [Nat.add_comm 2 j]
  have hd : ∀ j, (l.drop (n + 1))[j]? = ops[n + 2 + 1 + j]? := fun j => by rw [← hops]; simp [show n + 2 + 1 + j = (n + 1 + j) + 1 + 1 by omega]
  have hdl : (l.drop (n + 1)).length = g := by simp; omega
  simp only [Region.lexHead, Bool.and_eq_true] at hlex
  obtain ⟨⟨hr0, hf0⟩, ⟨hr1, hf1⟩, hlex⟩ := hlex
  have inv0 : HeadInv .any ops (n + 2) (Array.replicate ops.size false) :=
    ⟨by simp, fun j oj _ hl => (by rw [getD_replicate_false] at hl; cases hl), fun t _ ht => getD_in (by simpa using ht) (getD_replicate_false _ _)⟩
  have inv1 := inv0.set (i := 0) (by simpa using hr0) (by omega)
  have inv2 := inv1.set (i := 1) (by simpa using hr1) (by omega)
  have H := headAny.lexFrom (m := 2) (g := g + 1) hsel hs hc (by omega) (l.take n) 2 _ ((a.put o0.dst v0).put o1.dst v1) (Nat.le_refl _) (fun j hj => by rw [htl] at hj; rw [← hk j hj]; simp [hj]) (by rw [htl]; omega) inv2 (by rw [htl]; exact hlex) h
  refine wp_region_any hm (wpAny_of_U (C := C) (N := n + 2 + 1) _ _ _ _ ?_)
  have h2 := headAny.wpU (Q := Q) (N := n + 2 + 1) (g := g + 1) (fun listed' a' w' hC' hL => by
    obtain ⟨hseq, hL⟩ := hL
    obtain ⟨v, w'', hrun, hC'', hrest⟩ := hL w' hC'
    simp only [Region.seqB, Bool.and_eq_true, decide_eq_true_eq] at hseq
    refine ⟨fun h1 => (by rw [hseq.1] at h1; cases h1), fun i hi => ?_⟩
    rw [hseq.1] at hi
    have hik : i = n + 2 := by simpa using hi
    subst hik
    have hw : wpOp P ops Q (n + 2) (fun b u => b = a'.put on.dst v ∧ u = w'') a' w' := by
      unfold wpOp
      simp only [hon]
      simp [Region.wanted, gn, Oper.wp, hrun, Oper.upon]
    refine wpOp_mono (fun b u hbu => ?_) hw
    obtain ⟨rfl, rfl⟩ := hbu
    refine ⟨fun _ => hC'', ?_⟩
    have h3 := wpAny_of_seq (md := .any) (Q' := Q) (l.drop (n + 1)) (n + 2 + 1) (listed'.setIfInBounds (n + 2) true) (a'.put on.dst v) u hd (by rw [hdl]; exact hseq.2) hrest
    rw [hdl] at h3
    by_cases hlz : n + 2 + 1 < listed'.size
    · refine wpAnyU_at (by simpa using hlz) (fun i hi => ?_) h3
      cases g with
      | zero => omega
      | succ g =>
        simp only [Region.seqB, Bool.and_eq_true, decide_eq_true_eq] at hseq
        rw [hseq.2.1] at hi
        simpa using hi
    · refine absurd ?_ hlz
      have hnr : n + 2 ∈ Region.ready .any ops listed' := by rw [hseq.1]; simp
      cases g with
      | zero => omega
      | succ g =>
        simp only [Region.seqB, Bool.and_eq_true, decide_eq_true_eq] at hseq
        have hnr2 : n + 2 + 1 ∈ Region.ready .any ops (listed'.setIfInBounds (n + 2) true) := by rw [hseq.2.1]; simp
        have h5 := (mem_ready.1 hnr2).1
        rcases Nat.lt_or_ge (n + 2 + 1) listed'.size with h' | h'
        · exact h'
        · simp [Array.getElem?_eq_none (show (listed'.setIfInBounds (n + 2) true).size ≤ n + 2 + 1 by simpa using h')] at h5) _ _ _ _ hC H
  rw [htl, show n + (g + 1) = ops.size - 2 from by omega] at h2
  have hs2 : ops.size = (ops.size - 2) + 1 + 1 := by omega
  have hrep : ∀ k, k < ops.size → (Array.replicate ops.size false).getD k true = false := fun k hk => getD_in (by simpa using hk) (getD_replicate_false _ _)
  rw [show wpAnyU P ops C (n + 2 + 1) Q ops.size (Array.replicate ops.size false) a _ = wpAnyU P ops C (n + 2 + 1) Q ((ops.size - 2) + 1 + 1) (Array.replicate ops.size false) a _ from by rw [← hs2]]
  refine wpAnyU_first' h0 (Region.noSelect_spec hsel) hQ (by omega) _ _ _ _ (Region.free_spec h0 hf0) (by simpa using hr0) (Or.inl ⟨by simp [Region.wanted, g0], y0⟩) (fun _ => hC) ?_
  refine wpAnyU_first h1 (Region.noSelect_spec hsel) hQ' hoN hwN _ _ _ _ (Region.free_spec h1 hf1) (by simpa using hr1) ?_ (Or.inl ⟨by simp [Region.wanted, g1], y1⟩) hC h2
  rw [getD_set_ne true (by omega)]
  exact hrep _ (by omega)

/-- .. at the class 'w with some blocks laid behind it'. -/
theorem wp_region_grown_tail2 {id : Nat} {a : Act} {w : World} {o0 o1 on : Oper} {l : List Oper} (v0 v1 : Value) (n : Nat) (hm : P.follows .mixedOrders = true) (hB : lexTail2 (o0 :: o1 :: l).toArray n = true)
    (g0 : o0.guard = none) (g1 : o1.guard = none) (hon : (o0 :: o1 :: l).toArray[n]? = some on) (gn : on.guard = none)
    (y0 : ∀ w', (execOp a.eval o0).run P w' = .ok (.value v0) w') (y1 : ∀ d os, (execOp (a.put o0.dst v0).eval o1).run P (grow (redrawn w d) os) = .ok (.value v1) (grow (redrawn w d) os))
    (hQ : ∀ c b w, Q (.panic c) (b.put o0.dst v0) w → Q (.panic c) b w) (hQ' : ∀ c b w, Q (.panic c) (b.put o1.dst v1) w → Q (.panic c) b w)
    (h : wpQuiet P (o0 :: o1 :: l).toArray (fun w' => ∃ p : Regrown, w' = grow (redrawn w p.d) p.os) (fun a' => ∀ w', (∃ p : Regrown, w' = grow (redrawn w p.d) p.os) → ∃ v w'', (execOp a'.eval on).run P w' = .ok (.value v) w'' ∧ (∃ p : Regrown, w'' = grow (redrawn w p.d) p.os) ∧ wpList P (o0 :: o1 :: l).toArray Q (l.drop (n - 1)) (a'.put on.dst v) w'') (l.take (n - 2)) ((a.put o0.dst v0).put o1.dst v1)) :
    (Code.region id (o0 :: o1 :: l).toArray true).wp P Q a w :=
  wp_region_quiet_tail2 (C := fun w' => ∃ p : Regrown, w' = grow (redrawn w p.d) p.os) v0 v1 n hm hB g0 g1 hon gn y0 (fun w' ⟨p, hp⟩ => by rw [hp]; exact y1 _ _) hQ hQ' ⟨⟨w.drawn + 1, #[]⟩, by rw [grow_empty]; rfl⟩ h
theorem regrown_alloc {w w' : World} (h : ∃ p : Regrown, w' = grow (redrawn w p.d) p.os) (o : Obj) : ∃ p : Regrown, w'.alloc o = grow (redrawn w p.d) p.os := by
  obtain ⟨p, rfl⟩ := h
  exact ⟨⟨p.d, p.os.push o⟩, by unfold grow; simp only [World.alloc, Array.append_push]⟩

end
end Go.Proofs.Ytfkbcjpiijcbfaa
