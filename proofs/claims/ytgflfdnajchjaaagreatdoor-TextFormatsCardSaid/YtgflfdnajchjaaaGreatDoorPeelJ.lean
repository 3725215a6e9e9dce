/- A region that draws its order, by facts that stay true along a relation of one's own, and a state that each operation turns. Nothing of the program is named here. -/
import Derived.Test.YtgflfdnajchjaaaGreatDoorJB
namespace Go.Proofs.YtgflfdnajchjaaaGreatDoor
set_option linter.unusedVariables false
set_option linter.unusedSimpArgs false
open Go.RowKit
variable {P : Program} {Q : Exit → Act → World → Prop}
def updB (L : Nat → Bool) (i : Nat) : Nat → Bool := fun j => L j || j == i
def updV (vs : Nat → Value) (i : Nat) (v : Value) : Nat → Value := fun j => if j = i then v else vs j
theorem updB_at (L : Nat → Bool) (i : Nat) : updB L i i = true := by simp [updB]
theorem updB_ne {L : Nat → Bool} {i j : Nat} (h : j ≠ i) : updB L i j = L j := by simp [updB, h]
theorem updV_at (vs : Nat → Value) (i : Nat) (v : Value) : updV vs i v i = v := by simp [updV]
theorem updV_ne {vs : Nat → Value} {i j : Nat} {v : Value} (h : j ≠ i) : updV vs i v j = vs j := by simp [updV, h]
theorem wp_region_peelJ {id : Nat} {a b : Act} {w : World} {l : List Oper} (p n : Nat) (R : World → World → Prop) (F : Nat → Value → World → Prop) (J : (Nat → Bool) → (Nat → Value) → World → Prop) (hm : P.follows .mixedOrders = true) (hB : peelHeadB l.toArray p n a.tmps.size = true)
    (hp : Peels P l.toArray (l.take p) a b) (hQ : ∀ c (b : Act) d v w, Q (.panic c) (b.put d v) w → Q (.panic c) b w)
    (hRd : R w w.drew) (hRt : ∀ u v x, R u v → R v x → R u x)
    (hJ : ∀ L L' vs vs' u, (∀ i, p ≤ i → i < n → L i = L' i) → (∀ i, p ≤ i → i < n → L i = true → vs i = vs' i) → J L vs u → J L' vs' u) (h0 : J (fun i => decide (i < p)) (fun _ => undef) w.drew)
    (hF : ∀ i v u u', R u u' → F i v u → F i v u')
    (hstep : ∀ i o, p ≤ i → i < n → l[i]? = some o → ∀ (L : Nat → Bool) (vs : Nat → Value) (u : World), L i = false → (∀ j, waitB' l.toArray i j = true → L j = true) → R w u → J L vs u → (∀ j, p ≤ j → j < n → L j = true → F j (vs j) u) →
      wpList P l.toArray (StepQ (fillA b ((l.take n).drop p) p vs) o.dst fun v u' => R u u' ∧ F i v u' ∧ J (updB L i) (updV vs i v) u') [o] (fillA b ((l.take n).drop p) p vs) u)
    (hend : ∀ vs u, R w u → J (fun _ => true) vs u → (∀ i, p ≤ i → i < n → F i (vs i) u) → wpList P l.toArray Q (l.drop n) (fillA b ((l.take n).drop p) p vs) u) : (Code.region id l.toArray true).wp P Q a w := by
  refine wp_region_peel p n (fun L vs u => R w u ∧ J L vs u ∧ ∀ i, p ≤ i → i < n → L i = true → F i (vs i) u) hm hB hp hQ ?_ ⟨hRd, h0, fun i hpi _ h => by have := of_decide_eq_true h; omega⟩ ?_ ?_
  · intro L L' vs vs' u h1 h2 h3
    refine ⟨h3.1, hJ _ _ _ _ _ h1 h2 h3.2.1, fun i hpi hi hl => ?_⟩
    have hl2 : L i = true := (h1 i hpi hi).trans hl
    rw [← h2 i hpi hi hl2]
    exact h3.2.2 i hpi hi hl2
  · intro i o hpi hi hol L vs u hun hw hphi
    refine wpList_one_mono (fun v u' h1 => ?_) (hstep i o hpi hi hol L vs u hun hw hphi.1 hphi.2.1 hphi.2.2)
    obtain ⟨hb, hf, hj'⟩ := h1
    refine ⟨hRt _ _ _ hphi.1 hb, hj', fun j hpj hj hl => ?_⟩
    by_cases e : j = i
    · subst e; simp only [if_pos]; exact hf
    · simp only [if_neg e]
      have hlj : (L j || j == i) = true := hl
      have : (j == i) = false := by simp [e]
      rw [this, Bool.or_false] at hlj
      exact hF j _ _ _ hb (hphi.2.2 j hpj hj hlj)
  · intro vs u hphi
    exact hend vs u hphi.1 hphi.2.1 fun i hpi hi => hphi.2.2 i hpi hi rfl
/-- A chain of operations (numbers cs), each of which turns a state: S k, behind k of them, of the value that the last one gave. -/
def ChJ (S : Nat → Value → World → Prop) (v0 : Value) (cs : List Nat) (L : Nat → Bool) (vs : Nat → Value) (u : World) : Prop :=
  ∃ k, k ≤ cs.length ∧ (∀ j, j < cs.length → L (cs.getD j 0) = decide (j < k)) ∧ S k (if k = 0 then v0 else vs (cs.getD (k - 1) 0)) u
section
variable {S : Nat → Value → World → Prop} {v0 : Value} {cs : List Nat} {L : Nat → Bool} {vs : Nat → Value} {u : World}
theorem getD_mem {j : Nat} (hj : j < cs.length) : cs.getD j 0 ∈ cs := by
  rw [List.getD_eq_getElem?_getD, List.getElem?_eq_getElem hj]
  exact List.getElem_mem hj
theorem ChJ.congr {p n : Nat} (hc : ∀ c ∈ cs, p ≤ c ∧ c < n) {L' : Nat → Bool} {vs' : Nat → Value} (h1 : ∀ i, p ≤ i → i < n → L i = L' i) (h2 : ∀ i, p ≤ i → i < n → L i = true → vs i = vs' i) (h : ChJ S v0 cs L vs u) : ChJ S v0 cs L' vs' u := by
  obtain ⟨k, hk, hl, hs⟩ := h
  refine ⟨k, hk, fun j hj => ?_, ?_⟩
  · have := hc _ (getD_mem hj)
    rw [← h1 _ this.1 this.2]
    exact hl j hj
  · by_cases hk0 : k = 0
    · subst hk0; exact hs
    · rw [if_neg hk0] at hs ⊢
      have hj : k - 1 < cs.length := by omega
      have := hc _ (getD_mem hj)
      rw [← h2 _ this.1 this.2 (by rw [hl _ hj]; exact decide_eq_true (by omega))]
      exact hs
theorem ChJ.start (hL : ∀ c ∈ cs, L c = false) (h : S 0 v0 u) : ChJ S v0 cs L vs u :=
  ⟨0, Nat.zero_le _, fun j hj => by rw [hL _ (getD_mem hj)]; simp, h⟩
theorem ChJ.stage (h : ChJ S v0 cs L vs u) {j0 : Nat} (hj : j0 < cs.length) (hun : L (cs.getD j0 0) = false) (hp : j0 = 0 ∨ L (cs.getD (j0 - 1) 0) = true) : S j0 (if j0 = 0 then v0 else vs (cs.getD (j0 - 1) 0)) u ∧ ∀ j, j < cs.length → L (cs.getD j 0) = decide (j < j0) := by
  obtain ⟨k, hk, hl, hs⟩ := h
  have h1 : ¬ j0 < k := fun e => by
    rw [hl j0 hj, decide_eq_true e] at hun
    cases hun
  have h2 : j0 ≤ k := by
    rcases hp with h | h
    · omega
    · by_cases h0 : j0 = 0
      · omega
      · rw [hl (j0 - 1) (by omega)] at h
        have := of_decide_eq_true h
        omega
  obtain rfl : k = j0 := by omega
  exact ⟨hs, hl⟩
theorem ChJ.next (h : ChJ S v0 cs L vs u) {j0 : Nat} (hj : j0 < cs.length) (hun : L (cs.getD j0 0) = false) (hp : j0 = 0 ∨ L (cs.getD (j0 - 1) 0) = true) (hnd : ∀ j, j < cs.length → j ≠ j0 → cs.getD j 0 ≠ cs.getD j0 0) {v : Value} {u' : World} (hv : S (j0 + 1) v u') : ChJ S v0 cs (updB L (cs.getD j0 0)) (updV vs (cs.getD j0 0) v) u' := by
  obtain ⟨-, hl⟩ := h.stage hj hun hp
  refine ⟨j0 + 1, hj, fun j hj' => ?_, ?_⟩
  · by_cases e : j = j0
    · subst e
      rw [updB_at, decide_eq_true (Nat.lt_succ_self _)]
    · rw [updB_ne (hnd j hj' e), hl j hj']
      exact decide_eq_decide.2 (by omega)
  · rw [if_neg (Nat.succ_ne_zero _), Nat.add_sub_cancel, updV_at]
    exact hv
theorem ChJ.other (h : ChJ S v0 cs L vs u) {i : Nat} (hi : ∀ c ∈ cs, c ≠ i) {v : Value} {u' : World} (hS : ∀ k v, S k v u → S k v u') : ChJ S v0 cs (updB L i) (updV vs i v) u' := by
  obtain ⟨k, hk, hl, hs⟩ := h
  refine ⟨k, hk, fun j hj => ?_, ?_⟩
  · rw [updB_ne (hi _ (getD_mem hj))]
    exact hl j hj
  · by_cases hk0 : k = 0
    · subst hk0; exact hS _ _ hs
    · rw [if_neg hk0] at hs ⊢
      rw [updV_ne (hi _ (getD_mem (by omega)))]
      exact hS _ _ hs
theorem ChJ.fin (h : ChJ S v0 cs (fun _ => true) vs u) (h0 : 0 < cs.length) : S cs.length (vs (cs.getD (cs.length - 1) 0)) u := by
  obtain ⟨k, hk, hl, hs⟩ := h
  have := of_decide_eq_true (hl (cs.length - 1) (by omega)).symm
  obtain rfl : k = cs.length := by omega
  rw [if_neg (by omega)] at hs
  exact hs
end
end Go.Proofs.YtgflfdnajchjaaaGreatDoor
