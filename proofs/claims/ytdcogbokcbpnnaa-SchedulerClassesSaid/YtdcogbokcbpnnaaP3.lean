/- Layer 34: blocks that add bytes, in plain Lean. -/
import Derived.Test.YtdcogbokcbpnnaaP2
namespace Go.Proofs.Ytdcogbokcbpnnaa
set_option linter.unusedVariables false
set_option linter.unusedSimpArgs false
theorem bytes_mono {q a b : Int} (hq : 0 ≤ q ∧ q ≤ 15) (ha : 0 ≤ a) (hab : a ≤ b) (hb : b ≤ 12) : bytes q a ≤ bytes q b := by
  rw [bytes_yes q a hq.1 hq.2 ha (by omega), bytes_yes q b hq.1 hq.2 (by omega) hb]
  have h : 96 * a * q ≤ 96 * b * q := Int.mul_le_mul_of_nonneg_right (by omega) hq.1
  unfold sz
  generalize 96 * a * q = x at *
  generalize 96 * b * q = y at *
  omega
theorem wants_spec {d : Dm} {h : Int} {left : Nat} (hw : 0 < wantsP d h left) : bytes d.q h < bytes d.q (h + (wantsP d h left : Nat)) ∧ ∀ j : Nat, 1 ≤ j → j < wantsP d h left → bytes d.q (h + j) ≤ bytes d.q h := by
  have hs := wantsP_ag hw
  have e : wantsP d h left = firstK (fun k => decide (bytes d.q h < bytes d.q (h + k))) left := by unfold wantsP; rw [if_neg (by omega)]
  rw [e] at hw ⊢
  obtain ⟨h1, h2, h3, h4⟩ := firstK_spec (Nat.ne_of_gt hw)
  refine ⟨of_decide_eq_true h3, fun j a b => ?_⟩
  have := of_decide_eq_false (h4 j a b)
  omega
theorem wants_none {d : Dm} {h : Int} {left : Nat} (ha : d.ag ≤ 0) (hb : bytes d.q h < d.by') (hw : wantsP d h left = 0) (j : Nat) (h1 : 1 ≤ j) (h2 : j ≤ left) : bytes d.q (h + j) ≤ bytes d.q h := by
  unfold wantsP at hw
  rw [if_neg (by omega)] at hw
  have := of_decide_eq_false (firstK_none.1 hw j h1 h2)
  omega
theorem cover_spec {d : Dm} {h : Int} {left : Nat} (hb : bytes d.q h < d.by') (hl : 0 < left) : bytes d.q (h + (coverP d h left : Nat) - 1) < d.by' ∧ (d.by' ≤ bytes d.q (h + (coverP d h left : Nat)) ∨ coverP d h left = left) := by
  unfold coverP
  by_cases e : firstK (fun k => decide (d.by' ≤ bytes d.q (h + k))) left = 0
  · rw [if_pos e]
    refine ⟨?_, .inr rfl⟩
    rcases Nat.lt_or_ge 1 left with h1 | h1
    · have := of_decide_eq_false (firstK_none.1 e (left - 1) (by omega) (by omega))
      rw [show h + (left : Int) - 1 = h + ((left - 1 : Nat) : Int) by omega]
      omega
    · rw [show h + (left : Int) - 1 = h by omega]
      exact hb
  · rw [if_neg e]
    obtain ⟨h1, h2, h3, h4⟩ := firstK_spec e
    refine ⟨?_, .inl (of_decide_eq_true h3)⟩
    generalize firstK (fun k => decide (d.by' ≤ bytes d.q (h + k))) left = k at *
    rcases Nat.lt_or_ge 1 k with hk | hk
    · have := of_decide_eq_false (h4 (k - 1) (by omega) (by omega))
      rw [show h + (k : Int) - 1 = h + ((k - 1 : Nat) : Int) by omega]
      omega
    · rw [show h + (k : Int) - 1 = h by omega]
      exact hb
/-- Who is no retransmission and has blocks: they carry bytes, and one block fewer would not cover what it has to send. -/
def Useful (L : Nat → Dm) (n : Nat) (s : St) : Prop := ∀ i, i < n → (L i).ag ≤ 0 → 0 < s.hs i → 0 < bytes (L i).q (s.hs i) ∧ bytes (L i).q (s.hs i - 1) < (L i).by'
theorem useful_give {R n : Nat} {L : Nat → Dm} {s : St} (U : Useful L n s) {i k : Nat} (h : (L i).ag ≤ 0 → 0 < bytes (L i).q (s.hs i + k) ∧ bytes (L i).q (s.hs i + k - 1) < (L i).by') : Useful L n (giveS R s i k) := fun j hj ha hp => by
  have e : (giveS R s i k).hs j = putI s.hs i (s.hs i + k) j := rfl
  rw [e] at hp ⊢
  unfold putI at hp ⊢
  by_cases hji : j = i
  · subst hji
    rw [if_pos rfl]
    exact h ha
  · rw [if_neg hji] at hp ⊢
    exact U j hj ha hp
theorem asg_useful {R n : Nat} {L : Nat → Dm} (hR : R ≤ 12) (hq : ∀ i, i < n → 0 ≤ (L i).q ∧ (L i).q ≤ 15) (hcl : ∀ i, i < n → 0 ≤ (L i).cl ∧ (L i).cl ≤ 15) : Useful L n (asg R L n) := by
  have h := asg_ind (R := R) (n := n) (L := L) (fun s => Inv R n s ∧ Useful L n s) hcl ⟨st0_inv hR, fun i hi ha hp => by have e : (st0 R).hs i = 0 := rfl; rw [e] at hp; omega⟩
    (fun s i hs hi h1 h2 => ⟨hs.1.give (by omega), useful_give hs.2 fun h => by omega⟩)
    (fun s i hs hi hw ho => ⟨hs.1.give (wantsP_le _ _ _), useful_give hs.2 fun _ => by
      obtain ⟨g1, g2⟩ := wants_spec hw
      have g3 := (bytes_bd (L i).q (s.hs i)).1
      have g4 := (wantsP_ag hw).2
      refine ⟨by omega, ?_⟩
      generalize wantsP (L i) (s.hs i) s.left = k at *
      rcases Nat.lt_or_ge 1 k with hk | hk
      · have := g2 (k - 1) (by omega) (by omega)
        rw [show s.hs i + (k : Int) - 1 = s.hs i + ((k - 1 : Nat) : Int) by omega]
        omega
      · rw [show s.hs i + (k : Int) - 1 = s.hs i by omega]
        exact g4⟩)
    (fun s i hs hi hw => ⟨hs.1.give (coverP_le _ _ _), useful_give hs.2 fun _ => by
      obtain ⟨g1, g2⟩ := wants_spec hw
      have g3 := (bytes_bd (L i).q (s.hs i)).1
      have g4 := (wantsP_ag hw).2
      have g5 := wantsP_le (L i) (s.hs i) s.left
      obtain ⟨c1, c2⟩ := cover_spec (d := L i) (h := s.hs i) (left := s.left) g4 (by omega)
      have c3 := coverP_le (L i) (s.hs i) s.left
      refine ⟨?_, c1⟩
      have hh := hs.1.h i hi
      have hr := hs.1.r12
      rcases c2 with c2 | c2
      · omega
      · rw [c2]
        have := bytes_mono (q := (L i).q) (a := s.hs i + (wantsP (L i) (s.hs i) s.left : Nat)) (b := s.hs i + (s.left : Int)) (hq i hi) (by omega) (by omega) (by omega)
        omega⟩)
  exact h.2
theorem asg_end {R n : Nat} {L : Nat → Dm} (hR : R ≤ 12) (i : Nat) (hi : i < n) (ha : (L i).ag ≤ 0) (hb : bytes (L i).q ((asg R L n).hs i) < (L i).by') : bytes (L i).q ((asg R L n).hs i + ((asg R L n).left : Nat)) ≤ bytes (L i).q ((asg R L n).hs i) := by
  have h := asg_done (R := R) (L := L) hR i hi
  generalize asg R L n = s at *
  rcases Nat.eq_zero_or_pos s.left with h0 | h0
  · rw [h0, show s.hs i + ((0 : Nat) : Int) = s.hs i by omega]
    exact Int.le_refl _
  · exact wants_none ha hb h s.left h0 (Nat.le_refl _)
end Go.Proofs.Ytdcogbokcbpnnaa
