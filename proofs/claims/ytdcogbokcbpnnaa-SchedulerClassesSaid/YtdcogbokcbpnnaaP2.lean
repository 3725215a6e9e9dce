/- Layer 34: who has got what, in plain Lean. -/
import Derived.Test.YtdcogbokcbpnnaaP1
namespace Go.Proofs.Ytdcogbokcbpnnaa
set_option linter.unusedVariables false
set_option linter.unusedSimpArgs false
theorem againF_other {R : Nat} {L : Nat → Dm} {s : St} {i j : Nat} (h : j ≠ i) : (againF R L s i).hs j = s.hs j := by
  unfold againF
  split
  · show putI s.hs i _ j = _
    unfold putI
    rw [if_neg h]
  · rfl
theorem foldl_zero2 {R : Nat} {L : Nat → Dm} {j : Nat} : ∀ (l : List Nat) (s : St), j ∉ l → (l.foldl (againF R L) s).hs j = s.hs j
  | [], _, _ => rfl
  | i :: l, s, h => (foldl_zero2 l _ fun hm => h (by simp [hm])).trans (againF_other fun e => h (by simp [e]))
theorem againF_left {R : Nat} {L : Nat → Dm} (s : St) (i : Nat) : (againF R L s i).left ≤ s.left := by
  unfold againF
  split
  · show s.left - _ ≤ s.left; omega
  · exact Nat.le_refl _
theorem foldl_left {R : Nat} {L : Nat → Dm} : ∀ (l : List Nat) (s : St), (l.foldl (againF R L) s).left ≤ s.left
  | [], _ => Nat.le_refl _
  | i :: l, s => Nat.le_trans (foldl_left l _) (againF_left s i)
/-- Each retransmission has its blocks or none; who has none wants more than are left. -/
theorem foldl_again {R : Nat} {L : Nat → Dm} : ∀ (l : List Nat) (s : St), l.Nodup → (∀ i ∈ l, s.hs i = 0) → ∀ i ∈ l, 0 < (L i).ag → (l.foldl (againF R L) s).hs i = (L i).ag ∨ ((l.foldl (againF R L) s).hs i = 0 ∧ ((l.foldl (againF R L) s).left : Int) < (L i).ag)
  | [], _, _, _, i, hi, _ => by cases hi
  | j :: l, s, hnd, h0, i, hi, hg => by
    obtain ⟨hj, hnd'⟩ := List.nodup_cons.1 hnd
    have hl : ∀ k ∈ l, (againF R L s j).hs k = 0 := fun k hk => by
      have hkj : k ≠ j := fun e => hj (by rw [← e]; exact hk)
      rw [againF_other hkj]
      exact h0 k (by simp [hk])
    by_cases e : i = j
    · subst e
      have hk : (l.foldl (againF R L) (againF R L s i)).hs i = (againF R L s i).hs i := foldl_zero2 l _ hj
      show (l.foldl (againF R L) (againF R L s i)).hs i = _ ∨ (l.foldl (againF R L) (againF R L s i)).hs i = 0 ∧ ((l.foldl (againF R L) (againF R L s i)).left : Int) < _
      rw [hk]
      have hz := h0 i (by simp)
      have hll := foldl_left (R := R) (L := L) l (againF R L s i)
      by_cases hc : (L i).ag ≤ s.left
      · left
        have : againF R L s i = giveS R s i (L i).ag.toNat := by unfold againF; rw [if_pos ⟨hg, hc⟩]
        rw [this]
        show putI s.hs i (s.hs i + _) i = _
        unfold putI
        rw [if_pos rfl, hz]
        omega
      · right
        have : againF R L s i = s := by unfold againF; rw [if_neg (by omega)]
        rw [this] at hll ⊢
        exact ⟨hz, by omega⟩
    · have hi' : i ∈ l := by
        rcases List.mem_cons.1 hi with h | h
        · exact absurd h e
        · exact h
      exact foldl_again l _ hnd' hl i hi' hg
theorem again_spec {R n : Nat} {L : Nat → Dm} (hcl : ∀ i, i < n → 0 ≤ (L i).cl ∧ (L i).cl ≤ 15) (i : Nat) (hi : i < n) (hg : 0 < (L i).ag) : (againS R L n (st0 R)).hs i = (L i).ag ∨ ((againS R L n (st0 R)).hs i = 0 ∧ ((againS R L n (st0 R)).left : Int) < (L i).ag) := by
  have hm : i ∈ ordP (clOf L) n 16 := mem_ordP.2 ⟨hi, (hcl i hi).1, by have := (hcl i hi).2; show (L i).cl < 16; omega⟩
  have h := foldl_again (R := R) (L := L) (ordP (clOf L) n 16) (st0 R) (ord_all (k := clOf L) n hcl).2.1 (fun _ _ => rfl) i hm hg
  unfold againS
  exact h
/-- Guarantees and fairness give nothing to a retransmission, and never give back. -/
structure Later (L : Nat → Dm) (n : Nat) (s t : St) : Prop where
  left : t.left ≤ s.left
  keep : ∀ i, i < n → 0 < (L i).ag → t.hs i = s.hs i
theorem later_asg {R n : Nat} {L : Nat → Dm} : Later L n (againS R L n (st0 R)) (asg R L n) := by
  have h1 : Later L n (againS R L n (st0 R)) (owedS R L n 13 (againS R L n (st0 R))) := by
    refine owedS_ind (R := R) (n := n) (L := L) (Later L n (againS R L n (st0 R))) (fun s hs hn => ?_) 13 _ ⟨Nat.le_refl _, fun _ _ _ => rfl⟩
    obtain ⟨a, b, -⟩ := nextO_spec hn
    have hag := (wantsP_ag b).1
    refine ⟨by have := hs.left; show s.left - _ ≤ _; omega, fun i hi hg => ?_⟩
    show putI s.hs _ _ i = _
    unfold putI
    rw [if_neg (fun e => by rw [← e] at hag; omega)]
    exact hs.keep i hi hg
  refine fairS_ind (R := R) (n := n) (L := L) (Later L n (againS R L n (st0 R))) (fun s hs hn => ?_) 13 _ h1
  obtain ⟨a, b⟩ := nextF_spec hn
  have hag := (wantsP_ag b).1
  refine ⟨by have := hs.left; show s.left - _ ≤ _; omega, fun i hi hg => ?_⟩
  show putI s.hs _ _ i = _
  unfold putI
  rw [if_neg (fun e => by rw [← e] at hag; omega)]
  exact hs.keep i hi hg
/-- A retransmission gets its blocks or none; if none, more than are left in the end. -/
theorem asg_again {R n : Nat} {L : Nat → Dm} (hcl : ∀ i, i < n → 0 ≤ (L i).cl ∧ (L i).cl ≤ 15) (i : Nat) (hi : i < n) (hg : 0 < (L i).ag) : (asg R L n).hs i = (L i).ag ∨ ((asg R L n).hs i = 0 ∧ ((asg R L n).left : Int) < (L i).ag) := by
  have h1 := again_spec (R := R) hcl i hi hg
  have h2 := later_asg (R := R) (L := L) (n := n)
  rw [h2.keep i hi hg]
  have := h2.left
  omega
end Go.Proofs.Ytdcogbokcbpnnaa
