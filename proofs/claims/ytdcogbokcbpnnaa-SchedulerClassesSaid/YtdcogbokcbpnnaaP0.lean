/- Layer 34: the assignment in plain Lean. -/
import Derived.Test.YtdcogbokcbpnnaaD3
namespace Go.Proofs.Ytdcogbokcbpnnaa
set_option linter.unusedVariables false
set_option linter.unusedSimpArgs false
open Go.RowKit Go.Sort
/-- What holds between two steps. -/
structure Inv (R n : Nat) (s : St) : Prop where
  le : s.left ≤ R
  r12 : R ≤ 12
  h : ∀ k, k < n → 0 ≤ s.hs k ∧ s.hs k + s.left ≤ R
theorem Inv.give {R n : Nat} {s : St} (I : Inv R n s) {i k : Nat} (hk : k ≤ s.left) : Inv R n (giveS R s i k) := by
  refine ⟨by show s.left - k ≤ R; have := I.le; omega, I.r12, fun j hj => ?_⟩
  have := I.h j hj
  show 0 ≤ putI s.hs i (s.hs i + k) j ∧ putI s.hs i (s.hs i + k) j + ((s.left - k : Nat) : Int) ≤ R
  unfold putI
  split
  · rename_i h; subst h; omega
  · omega
theorem Inv.hs12 {R n : Nat} {s : St} (I : Inv R n s) : ∀ k, k < n → 0 ≤ s.hs k ∧ s.hs k ≤ 12 := fun k hk => by
  have := I.h k hk
  have := I.r12
  omega
theorem wantsP_le (d : Dm) (h : Int) (left : Nat) : wantsP d h left ≤ left := by
  unfold wantsP
  split
  · omega
  · by_cases e : firstK (fun k => decide (bytes d.q h < bytes d.q (h + k))) left = 0
    · rw [e]; omega
    · exact (firstK_spec e).2.1
theorem coverP_le (d : Dm) (h : Int) (left : Nat) : coverP d h left ≤ left := by
  unfold coverP
  split
  · omega
  · rename_i e
    exact (firstK_spec e).2.1
theorem coverP_pos (d : Dm) (h : Int) (left : Nat) (hl : 0 < left) : 0 < coverP d h left := by
  unfold coverP
  split
  · exact hl
  · rename_i e
    exact (firstK_spec e).1
theorem wantsP_ag {d : Dm} {h : Int} {left : Nat} (hw : 0 < wantsP d h left) : d.ag ≤ 0 ∧ bytes d.q h < d.by' := by
  unfold wantsP at hw
  split at hw
  · omega
  · omega
theorem bestP_ok {ok : Nat → Bool} {ah : Nat → Nat → Bool} : ∀ {n : Nat}, 0 ≤ bestP ok ah n → ok (bestP ok ah n).toNat = true
  | 0, h => by have : bestP ok ah 0 = -1 := rfl; omega
  | n + 1, h => by
    by_cases hc : ok n = true ∧ (bestP ok ah n < 0 ∨ ah n (bestP ok ah n).toNat = true)
    · rw [bestP_yes hc]
      exact hc.1
    · rw [bestP_no hc] at h ⊢
      exact bestP_ok h
theorem bestP_neg {ok : Nat → Bool} {ah : Nat → Nat → Bool} : ∀ {n : Nat}, bestP ok ah n < 0 → ∀ i, i < n → ok i = false
  | 0, _, i, hi => by omega
  | n + 1, h, i, hi => by
    by_cases hc : ok n = true ∧ (bestP ok ah n < 0 ∨ ah n (bestP ok ah n).toNat = true)
    · rw [bestP_yes hc] at h; omega
    · rw [bestP_no hc] at h
      rcases Nat.lt_or_eq_of_le (Nat.le_of_lt_succ hi) with h2 | rfl
      · exact bestP_neg h i h2
      · cases hk : ok i
        · rfl
        · exact absurd ⟨hk, .inl h⟩ hc
def nextO (L : Nat → Dm) (n : Nat) (s : St) : Int := bestP (fun i => canO L s.hs i && wantB L s i) (ahO L) n
def nextF (L : Nat → Dm) (n : Nat) (s : St) : Int := bestP (fun i => canF i && wantB L s i) (ahF L s.hs) n
theorem nextO_spec {L : Nat → Dm} {n : Nat} {s : St} (h : 0 ≤ nextO L n s) : (nextO L n s).toNat < n ∧ 0 < wantsP (L (nextO L n s).toNat) (s.hs (nextO L n s).toNat) s.left ∧ s.hs (nextO L n s).toNat < (L (nextO L n s).toNat).ow := by
  have h1 := bestP_ok h
  have h2 := (bestP_bd (fun i => canO L s.hs i && wantB L s i) (ahO L) n).2
  simp only [Bool.and_eq_true] at h1
  have h3 := of_decide_eq_true h1.2
  have h4 := of_decide_eq_true h1.1
  refine ⟨?_, h3, h4⟩
  show (bestP (fun i => canO L s.hs i && wantB L s i) (ahO L) n).toNat < n
  have h' : 0 ≤ bestP (fun i => canO L s.hs i && wantB L s i) (ahO L) n := h
  omega
theorem nextF_spec {L : Nat → Dm} {n : Nat} {s : St} (h : 0 ≤ nextF L n s) : (nextF L n s).toNat < n ∧ 0 < wantsP (L (nextF L n s).toNat) (s.hs (nextF L n s).toNat) s.left := by
  have h1 := bestP_ok h
  have h2 := (bestP_bd (fun i => canF i && wantB L s i) (ahF L s.hs) n).2
  simp only [Bool.and_eq_true] at h1
  have h3 := of_decide_eq_true h1.2
  refine ⟨?_, h3⟩
  have h' : 0 ≤ bestP (fun i => canF i && wantB L s i) (ahF L s.hs) n := h
  show (bestP (fun i => canF i && wantB L s i) (ahF L s.hs) n).toNat < n
  omega
/-- The guarantees. -/
def owedS (R : Nat) (L : Nat → Dm) (n : Nat) : Nat → St → St
  | 0, s => s
  | f + 1, s => if nextO L n s < 0 then s else owedS R L n f (giveS R s (nextO L n s).toNat (wantsP (L (nextO L n s).toNat) (s.hs (nextO L n s).toNat) s.left))
theorem owedS_end {R : Nat} {L : Nat → Dm} {n f : Nat} {s : St} (h : nextO L n s < 0) : owedS R L n f s = s := by
  cases f with
  | zero => rfl
  | succ f => exact if_pos h
theorem owedS_go {R : Nat} {L : Nat → Dm} {n f : Nat} {s : St} (h : ¬ nextO L n s < 0) : owedS R L n (f + 1) s = owedS R L n f (giveS R s (nextO L n s).toNat (wantsP (L (nextO L n s).toNat) (s.hs (nextO L n s).toNat) s.left)) := if_neg h
/-- Fairness. -/
def fairS (R : Nat) (L : Nat → Dm) (n : Nat) : Nat → St → St
  | 0, s => s
  | f + 1, s => if nextF L n s < 0 then s else fairS R L n f (giveS R s (nextF L n s).toNat (coverP (L (nextF L n s).toNat) (s.hs (nextF L n s).toNat) s.left))
theorem fairS_end {R : Nat} {L : Nat → Dm} {n f : Nat} {s : St} (h : nextF L n s < 0) : fairS R L n f s = s := by
  cases f with
  | zero => rfl
  | succ f => exact if_pos h
theorem fairS_go {R : Nat} {L : Nat → Dm} {n f : Nat} {s : St} (h : ¬ nextF L n s < 0) : fairS R L n (f + 1) s = fairS R L n f (giveS R s (nextF L n s).toNat (coverP (L (nextF L n s).toNat) (s.hs (nextF L n s).toNat) s.left)) := if_neg h
theorem nextO_got {L : Nat → Dm} {n : Nat} {s : St} {got : Nat → Int} (h : ∀ i, i < n → (L i).ag ≤ 0 → got i = s.hs i) : bestP (fun i => canO L got i && wantB L s i) (ahO L) n = nextO L n s := by
  refine bestP_congr (fun i hi => ?_) fun _ _ _ _ => rfl
  cases hw : wantB L s i
  · simp
  · have := (wantsP_ag (of_decide_eq_true hw)).1
    unfold canO
    rw [h i hi this]
end Go.Proofs.Ytdcogbokcbpnnaa
