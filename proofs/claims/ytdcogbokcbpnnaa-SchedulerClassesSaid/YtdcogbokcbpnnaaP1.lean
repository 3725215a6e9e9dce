/- Layer 34: what holds of an assignment, in plain Lean. -/
import Derived.Test.YtdcogbokcbpnnaaE0
namespace Go.Proofs.Ytdcogbokcbpnnaa
set_option linter.unusedVariables false
set_option linter.unusedSimpArgs false
theorem cnt_give (ow : Nat → Int) (R left i k j : Nat) (h : ∀ x, R - left ≤ x → x < R - left + k → ow x = -1) : ∀ m : Nat, cnt (giveO R left i k ow) j m = cnt ow j m + if j = i then ((min m (R - left + k) - min m (R - left) : Nat) : Int) else 0
  | 0 => by simp [cnt]
  | m + 1 => by
    have ih := cnt_give ow R left i k j h m
    show cnt (giveO R left i k ow) j m + (if giveO R left i k ow m = j then 1 else 0) = cnt ow j m + (if ow m = j then 1 else 0) + _
    rw [ih]
    unfold giveO
    by_cases h1 : R - left ≤ m ∧ m < R - left + k
    · rw [if_pos h1, h m h1.1 h1.2, if_neg (show ¬ (-1 : Int) = (j : Int) by omega)]
      by_cases hj : j = i
      · subst hj
        rw [if_pos rfl, if_pos rfl, if_pos rfl]
        omega
      · rw [if_neg hj, if_neg (show ¬ ((i : Int) = (j : Int)) by omega), if_neg hj]
        try omega
    · rw [if_neg h1]
      by_cases hj : j = i
      · rw [if_pos hj, if_pos hj]
        omega
      · rw [if_neg hj, if_neg hj]
        omega
theorem sumI_putI (f : Nat → Int) (i : Nat) (v : Int) : ∀ n : Nat, i < n → sumI (putI f i v) n = sumI f n - f i + v
  | 0, h => by omega
  | n + 1, h => by
    show sumI (putI f i v) n + putI f i v n = sumI f n + f n - f i + v
    by_cases e : i = n
    · subst e
      have : sumI (putI f i v) i = sumI f i := sumI_congr fun j hj => by unfold putI; rw [if_neg (by omega)]
      rw [this]
      unfold putI
      rw [if_pos rfl]
      omega
    · rw [sumI_putI f i v n (by omega)]
      have : putI f i v n = f n := by unfold putI; rw [if_neg (by omega)]
      rw [this]
      omega
/-- What holds between two steps: the owners tell the same as the counts. -/
structure Inv2 (R n : Nat) (s : St) : Prop where
  i : Inv R n s
  sum : sumI s.hs n + s.left = R
  neg : ∀ x, R - s.left ≤ x → x < R → s.ow x = -1
  pos : ∀ x, x < R - s.left → 0 ≤ s.ow x ∧ s.ow x < n
  cn : ∀ j, j < n → cnt s.ow j R = s.hs j
theorem Inv2.give {R n : Nat} {s : St} (I : Inv2 R n s) {i k : Nat} (hi : i < n) (hk : k ≤ s.left) : Inv2 R n (giveS R s i k) := by
  have hle := I.i.le
  refine ⟨I.i.give hk, ?_, ?_, ?_, ?_⟩
  · show sumI (putI s.hs i (s.hs i + k)) n + ((s.left - k : Nat) : Int) = R
    rw [sumI_putI _ _ _ _ hi]
    have := I.sum
    omega
  · intro x h1 h2
    have h1' : R - (s.left - k) ≤ x := h1
    show giveO R s.left i k s.ow x = -1
    unfold giveO
    rw [if_neg (by omega)]
    exact I.neg x (by omega) h2
  · intro x h1
    have h1' : x < R - (s.left - k) := h1
    show 0 ≤ giveO R s.left i k s.ow x ∧ giveO R s.left i k s.ow x < n
    unfold giveO
    split
    · omega
    · exact I.pos x (by omega)
  · intro j hj
    show cnt (giveO R s.left i k s.ow) j R = putI s.hs i (s.hs i + k) j
    rw [cnt_give _ _ _ _ _ _ fun x a b => I.neg x a (by omega), I.cn j hj]
    unfold putI
    by_cases e : j = i
    · subst e
      rw [if_pos rfl, if_pos rfl]
      omega
    · rw [if_neg e, if_neg e, Int.add_zero]
theorem cnt_neg (j R : Nat) : ∀ m : Nat, cnt (st0 R).ow j m = 0
  | 0 => rfl
  | m + 1 => by
    show cnt (st0 R).ow j m + (if (-1 : Int) = (j : Int) then 1 else 0) = 0
    rw [cnt_neg j R m, if_neg (by omega)]; rfl
theorem sumI_z0 : ∀ n : Nat, sumI (fun _ => 0) n = 0
  | 0 => rfl
  | n + 1 => by show sumI (fun _ => 0) n + 0 = 0; rw [sumI_z0 n]; rfl
theorem st0_inv2 {R n : Nat} (h : R ≤ 12) : Inv2 R n (st0 R) :=
  ⟨st0_inv h, by show sumI (fun _ => 0) n + (R : Int) = R; rw [sumI_z0]; omega, fun _ _ _ => rfl, fun x hx => by have : x < R - R := hx; omega, fun j _ => cnt_neg j R R⟩
theorem foldl_ind {R n : Nat} {L : Nat → Dm} (Q : St → Prop) (hstep : ∀ s i, Q s → i < n → 0 < (L i).ag → (L i).ag ≤ s.left → Q (giveS R s i (L i).ag.toNat)) : ∀ (l : List Nat) (s : St), (∀ i ∈ l, i < n) → Q s → Q (l.foldl (againF R L) s)
  | [], _, _, h => h
  | i :: l, s, hl, h => by
    refine foldl_ind Q hstep l _ (fun j hj => hl j (by simp [hj])) ?_
    unfold againF
    split
    · rename_i hc
      exact hstep s i h (hl i (by simp)) hc.1 hc.2
    · exact h
theorem owedS_ind {R n : Nat} {L : Nat → Dm} (Q : St → Prop) (hstep : ∀ s, Q s → 0 ≤ nextO L n s → Q (giveS R s (nextO L n s).toNat (wantsP (L (nextO L n s).toNat) (s.hs (nextO L n s).toNat) s.left))) : ∀ (f : Nat) (s : St), Q s → Q (owedS R L n f s)
  | 0, _, h => h
  | f + 1, s, h => by
    unfold owedS
    split
    · exact h
    · exact owedS_ind Q hstep f _ (hstep s h (by omega))
theorem fairS_ind {R n : Nat} {L : Nat → Dm} (Q : St → Prop) (hstep : ∀ s, Q s → 0 ≤ nextF L n s → Q (giveS R s (nextF L n s).toNat (coverP (L (nextF L n s).toNat) (s.hs (nextF L n s).toNat) s.left))) : ∀ (f : Nat) (s : St), Q s → Q (fairS R L n f s)
  | 0, _, h => h
  | f + 1, s, h => by
    unfold fairS
    split
    · exact h
    · exact fairS_ind Q hstep f _ (hstep s h (by omega))
theorem asg_ind {R n : Nat} {L : Nat → Dm} (Q : St → Prop) (hcl : ∀ i, i < n → 0 ≤ (L i).cl ∧ (L i).cl ≤ 15)
    (h0 : Q (st0 R)) (h1 : ∀ s i, Q s → i < n → 0 < (L i).ag → (L i).ag ≤ s.left → Q (giveS R s i (L i).ag.toNat))
    (h2 : ∀ s i, Q s → i < n → 0 < wantsP (L i) (s.hs i) s.left → s.hs i < (L i).ow → Q (giveS R s i (wantsP (L i) (s.hs i) s.left)))
    (h3 : ∀ s i, Q s → i < n → 0 < wantsP (L i) (s.hs i) s.left → Q (giveS R s i (coverP (L i) (s.hs i) s.left))) : Q (asg R L n) := by
  refine fairS_ind Q (fun s hs hn => ?_) 13 _ (owedS_ind Q (fun s hs hn => ?_) 13 _ (foldl_ind Q h1 _ _ (fun i hi => (mem_ordP.1 hi).1) h0))
  · obtain ⟨a, b⟩ := nextF_spec hn
    exact h3 s _ hs a b
  · obtain ⟨a, b, c⟩ := nextO_spec hn
    exact h2 s _ hs a b c
theorem asg_inv2 {R n : Nat} {L : Nat → Dm} (hR : R ≤ 12) (hcl : ∀ i, i < n → 0 ≤ (L i).cl ∧ (L i).cl ≤ 15) : Inv2 R n (asg R L n) :=
  asg_ind (Inv2 R n) hcl (st0_inv2 hR) (fun s i I hi h1 h2 => I.give hi (by omega)) (fun s i I hi _ _ => I.give hi (wantsP_le _ _ _)) (fun s i I hi _ => I.give hi (coverP_le _ _ _))
theorem fairS_done {R n : Nat} {L : Nat → Dm} : ∀ (f : Nat) (s : St), s.left < f → nextF L n (fairS R L n f s) < 0
  | 0, _, h => by omega
  | f + 1, s, h => by
    by_cases hn : nextF L n s < 0
    · rw [fairS_end hn]; exact hn
    · rw [fairS_go hn]
      refine fairS_done f _ ?_
      obtain ⟨a, b⟩ := nextF_spec (L := L) (n := n) (s := s) (by omega)
      have := coverP_pos (L (nextF L n s).toNat) (s.hs (nextF L n s).toNat) s.left (Nat.lt_of_lt_of_le b (wantsP_le _ _ _))
      have := coverP_le (L (nextF L n s).toNat) (s.hs (nextF L n s).toNat) s.left
      show s.left - _ < f
      omega
theorem owedS_done {R n : Nat} {L : Nat → Dm} : ∀ (f : Nat) (s : St), s.left < f → nextO L n (owedS R L n f s) < 0
  | 0, _, h => by omega
  | f + 1, s, h => by
    by_cases hn : nextO L n s < 0
    · rw [owedS_end hn]; exact hn
    · rw [owedS_go hn]
      refine owedS_done f _ ?_
      obtain ⟨a, b, -⟩ := nextO_spec (L := L) (n := n) (s := s) (by omega)
      have := wantsP_le (L (nextO L n s).toNat) (s.hs (nextO L n s).toNat) s.left
      show s.left - _ < f
      omega
/-- In the end nobody wants a block. -/
theorem asg_done {R n : Nat} {L : Nat → Dm} (hR : R ≤ 12) (i : Nat) (hi : i < n) : wantsP (L i) ((asg R L n).hs i) (asg R L n).left = 0 := by
  have hI : Inv R n (owedS R L n 13 (againS R L n (st0 R))) := owedS_inv 13 (foldl_inv _ (st0_inv hR))
  have h := bestP_neg (fairS_done (R := R) (n := n) (L := L) 13 (owedS R L n 13 (againS R L n (st0 R))) (by have := hI.le; omega)) i hi
  simp only [canF, wantB, Bool.true_and, decide_eq_false_iff_not] at h
  show wantsP (L i) ((fairS R L n 13 _).hs i) _ = 0
  exact Nat.eq_zero_of_not_pos h
end Go.Proofs.Ytdcogbokcbpnnaa
