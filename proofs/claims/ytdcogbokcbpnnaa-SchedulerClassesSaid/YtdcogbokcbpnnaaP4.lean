/- Layer 34: guarantees, classes and retransmissions, in plain Lean. -/
import Derived.Test.YtdcogbokcbpnnaaP3
namespace Go.Proofs.Ytdcogbokcbpnnaa
set_option linter.unusedVariables false
set_option linter.unusedSimpArgs false
theorem bytes15 {h : Int} (h0 : 0 ≤ h) (h1 : h < 12) : bytes 15 h < bytes 15 (h + 1) := by
  rw [bytes_yes 15 h (by omega) (by omega) h0 (by omega), bytes_yes 15 (h + 1) (by omega) (by omega) (by omega) (by omega)]
  unfold sz
  omega
theorem wants15 {d : Dm} {h : Int} {left : Nat} (hq : d.q = 15) (ha : d.ag = 0) (hb : 256 < d.by') (h0 : 0 ≤ h) (h1 : h < 12) (hl : 0 < left) : wantsP d h left = 1 := by
  have := (bytes_bd 15 h).2
  unfold wantsP
  rw [hq, ha, if_neg (by omega)]
  exact firstK_at (by omega) hl (fun j a b => by omega) (decide_eq_true (bytes15 h0 h1))
theorem wants_less {d : Dm} {h : Int} {m l : Nat} (hm : wantsP d h m = 0) (hl : l ≤ m) : wantsP d h l = 0 := by
  unfold wantsP at hm ⊢
  split
  · rfl
  · rename_i hc
    rw [if_neg hc] at hm
    exact firstK_none.2 fun j a b => firstK_none.1 hm j a (by omega)
theorem sumI_lt {f g : Nat → Int} : ∀ {n : Nat}, (∀ j, j < n → f j ≤ g j) → sumI f n ≤ sumI g n ∧ ∀ i, i < n → f i < g i → sumI f n < sumI g n
  | 0, _ => ⟨Int.le_refl _, fun i hi _ => by omega⟩
  | n + 1, h => by
    obtain ⟨a, b⟩ := sumI_lt (n := n) fun j hj => h j (by omega)
    have c := h n (by omega)
    have e1 : sumI f (n + 1) = sumI f n + f n := rfl
    have e2 : sumI g (n + 1) = sumI g n + g n := rfl
    refine ⟨by omega, fun i hi hf => ?_⟩
    by_cases e : i = n
    · subst e; omega
    · have := b i (by omega) hf; omega
theorem again_inv2 {R n : Nat} {L : Nat → Dm} (hR : R ≤ 12) : Inv2 R n (againS R L n (st0 R)) :=
  foldl_ind (Inv2 R n) (fun s i I hi h1 h2 => I.give hi (by omega)) _ _ (fun i hi => (mem_ordP.1 hi).1) (st0_inv2 hR)
theorem asg_owed {n : Nat} {L : Nat → Dm} (hL : ∀ i, i < n → (L i).q = 15 ∧ (L i).ag = 0 ∧ 256 < (L i).by' ∧ 0 ≤ (L i).ow) (hs : sumI (fun i => (L i).ow) n ≤ 12) : ∀ i, i < n → (L i).ow ≤ (asg 12 L n).hs i := by
  have h1 : Inv2 12 n (againS 12 L n (st0 12)) ∧ ∀ i, i < n → (againS 12 L n (st0 12)).hs i ≤ (L i).ow :=
    ⟨again_inv2 (Nat.le_refl _), fun i hi => by rw [again0 i (by rw [(hL i hi).2.1]; exact Int.le_refl _)]; exact (hL i hi).2.2.2⟩
  have h2 := owedS_ind (R := 12) (n := n) (L := L) (fun s => Inv2 12 n s ∧ ∀ i, i < n → s.hs i ≤ (L i).ow) (fun s hq hn => by
    obtain ⟨a, b, c⟩ := nextO_spec hn
    have hle := wantsP_le (L (nextO L n s).toNat) (s.hs (nextO L n s).toNat) s.left
    obtain ⟨l1, l2, l3, l4⟩ := hL _ a
    have hh := hq.1.i.h _ a
    have e := wants15 l1 l2 l3 hh.1 (by omega) (Nat.lt_of_lt_of_le b hle)
    rw [e]
    refine ⟨hq.1.give a (by omega), fun i hi => ?_⟩
    show putI s.hs _ _ i ≤ _
    unfold putI
    split
    · rename_i ei; subst ei; omega
    · exact hq.2 i hi) 13 _ h1
  have h3 := owedS_done (R := 12) (n := n) (L := L) 13 (againS 12 L n (st0 12)) (by have := h1.1.i.le; omega)
  have h4 : ∀ i, i < n → (L i).ow ≤ (owedS 12 L n 13 (againS 12 L n (st0 12))).hs i := fun i hi => by
    generalize owedS 12 L n 13 (againS 12 L n (st0 12)) = s at *
    have hb := bestP_neg h3 i hi
    rcases Int.lt_or_le (s.hs i) (L i).ow with hlt | hle
    · exfalso
      have hc : canO L s.hs i = true := decide_eq_true hlt
      rw [hc, Bool.true_and] at hb
      have hw : ¬ 0 < wantsP (L i) (s.hs i) s.left := of_decide_eq_false hb
      obtain ⟨l1, l2, l3, l4⟩ := hL i hi
      have hh := h2.1.i.h i hi
      have hl0 : s.left = 0 := by
        rcases Nat.eq_zero_or_pos s.left with h0 | h0
        · exact h0
        · rw [wants15 l1 l2 l3 hh.1 (by omega) h0] at hw; omega
      have hsum := h2.1.sum
      have := (sumI_lt (f := s.hs) (g := fun i => (L i).ow) (n := n) h2.2).2 i hi hlt
      omega
    · exact hle
  exact fairS_ind (R := 12) (n := n) (L := L) (fun s => ∀ i, i < n → (L i).ow ≤ s.hs i) (fun s hq hn i hi => by
    show _ ≤ putI s.hs _ _ i
    unfold putI
    split
    · rename_i ei; subst ei; have := hq _ hi; omega
    · exact hq i hi) 13 _ h4

theorem bestP_first {ok : Nat → Bool} {ah : Nat → Nat → Bool} {key : Nat → Int} (h1 : ∀ a b, ah a b = true → key a ≤ key b) (h2 : ∀ a b, ah a b = false → key b ≤ key a) : ∀ {n : Nat} (i : Nat), i < n → ok i = true → 0 ≤ bestP ok ah n ∧ key (bestP ok ah n).toNat ≤ key i
  | 0, i, hi, _ => by omega
  | n + 1, i, hi, hk => by
    by_cases hc : ok n = true ∧ (bestP ok ah n < 0 ∨ ah n (bestP ok ah n).toNat = true)
    · rw [bestP_yes hc]
      refine ⟨by omega, ?_⟩
      rw [Int.toNat_natCast]
      by_cases e : i = n
      · subst e; exact Int.le_refl _
      · obtain ⟨a, b⟩ := bestP_first h1 h2 (n := n) i (by omega) hk
        rcases hc.2 with c | c
        · omega
        · have := h1 _ _ c; omega
    · rw [bestP_no hc]
      by_cases e : i = n
      · subst e
        have hb : ¬ bestP ok ah i < 0 := fun h => hc ⟨hk, .inl h⟩
        refine ⟨by omega, h2 _ _ ?_⟩
        cases ha : ah i (bestP ok ah i).toNat
        · rfl
        · exact absurd ⟨hk, .inr ha⟩ hc
      · exact bestP_first h1 h2 i (by omega) hk
theorem ahF_true {L : Nat → Dm} {hs : Nat → Int} (a b : Nat) (h : ahF L hs a b = true) : (L a).cl ≤ (L b).cl := by
  unfold ahF at h
  split at h
  · omega
  · have := of_decide_eq_true h; omega
theorem ahF_false {L : Nat → Dm} {hs : Nat → Int} (a b : Nat) (h : ahF L hs a b = false) : (L b).cl ≤ (L a).cl := by
  unfold ahF at h
  split at h
  · omega
  · have := of_decide_eq_false h; omega
def Cls (L : Nat → Dm) (n : Nat) (s : St) : Prop := ∀ i k, i < n → k < n → (L i).cl < (L k).cl → 0 < s.hs k → wantsP (L i) (s.hs i) (s.left + (s.hs k).toNat) = 0
theorem asg_classes {R n : Nat} {L : Nat → Dm} (hR : R ≤ 12) (hL : ∀ i, i < n → (L i).ag = 0 ∧ (L i).ow = 0) (i k : Nat) (hi : i < n) (hk : k < n) (hc : (L i).cl < (L k).cl) (hp : 0 < (asg R L n).hs k) (hb : bytes (L i).q ((asg R L n).hs i) < (L i).by') : bytes (L i).q ((asg R L n).hs i + (asg R L n).hs k) ≤ bytes (L i).q ((asg R L n).hs i) := by
  have h1 : Inv R n (againS R L n (st0 R)) ∧ ∀ i, i < n → (againS R L n (st0 R)).hs i = 0 :=
    ⟨(again_inv2 hR).i, fun i hi => again0 i (by rw [(hL i hi).1]; exact Int.le_refl _)⟩
  have h2 := owedS_ind (R := R) (n := n) (L := L) (fun s => Inv R n s ∧ ∀ i, i < n → s.hs i = 0) (fun s hq hn => by
    obtain ⟨a, b, c⟩ := nextO_spec hn
    rw [hq.2 _ a, (hL _ a).2] at c
    omega) 13 _ h1
  have h3 : Inv R n (asg R L n) ∧ Cls L n (asg R L n) := fairS_ind (R := R) (n := n) (L := L) (fun s => Inv R n s ∧ Cls L n s) (fun s hq hn => by
    obtain ⟨a, b⟩ := nextF_spec hn
    have hle := coverP_le (L (nextF L n s).toNat) (s.hs (nextF L n s).toNat) s.left
    have hf := fun i (hi : i < n) => bestP_first (ok := fun i => canF i && wantB L s i) (ah := ahF L s.hs) (key := fun i => (L i).cl) ahF_true ahF_false (n := n) i hi
    change ∀ i, i < n → (canF i && wantB L s i) = true → 0 ≤ nextF L n s ∧ (L (nextF L n s).toNat).cl ≤ (L i).cl at hf
    generalize coverP (L (nextF L n s).toNat) (s.hs (nextF L n s).toNat) s.left = c at *
    generalize (nextF L n s).toNat = j at *
    refine ⟨hq.1.give hle, fun i k hi hk hc hp => ?_⟩
    have e1 : ∀ x, (giveS R s j c).hs x = putI s.hs j (s.hs j + c) x := fun x => rfl
    have e2 : (giveS R s j c).left = s.left - c := rfl
    rw [e1 i, e1 k, e2]
    rw [e1 k] at hp
    by_cases hkj : k = j
    · subst hkj
      have hik : i ≠ k := fun e => by subst e; omega
      have hh := (hq.1.h k hk).1
      have p1 : putI s.hs k (s.hs k + c) k = s.hs k + c := by unfold putI; rw [if_pos rfl]
      have p2 : putI s.hs k (s.hs k + c) i = s.hs i := by unfold putI; rw [if_neg hik]
      rw [p1, p2, show s.left - c + (s.hs k + (c : Int)).toNat = s.left + (s.hs k).toNat by omega]
      by_cases h0 : 0 < s.hs k
      · exact hq.2 i k hi hk hc h0
      · rw [show s.left + (s.hs k).toNat = s.left by omega]
        cases hw : wantB L s i
        · have := of_decide_eq_false hw
          omega
        · have := (hf i hi (by rw [hw]; rfl)).2
          omega
    · have p1 : putI s.hs j (s.hs j + c) k = s.hs k := by unfold putI; rw [if_neg hkj]
      rw [p1] at hp ⊢
      have hz := hq.2 i k hi hk hc hp
      by_cases hij : i = j
      · subst hij
        have := wants_less hz (l := s.left) (by omega)
        omega
      · have p2 : putI s.hs j (s.hs j + c) i = s.hs i := by unfold putI; rw [if_neg hij]
        rw [p2]
        exact wants_less hz (by omega)) 13 _ ⟨h2.1, fun i k hi hk hc hp => by rw [h2.2 k hk] at hp; omega⟩
  have hz := h3.2 i k hi hk hc hp
  have := wants_none (d := L i) (h := (asg R L n).hs i) (by rw [(hL i hi).1]; exact Int.le_refl _) hb hz ((asg R L n).hs k).toNat (by omega) (by omega)
  rw [show (((asg R L n).hs k).toNat : Int) = (asg R L n).hs k by omega] at this
  exact this

def stp (R : Nat) (L : Nat → Dm) (c : Nat) (s : St) (i : Nat) : St := if (L i).cl = c then againF R L s i else s
def rowS (R : Nat) (L : Nat → Dm) (c : Nat) (s : St) : Nat → St
  | 0 => s
  | i + 1 => stp R L c (rowS R L c s i) i
theorem grp_fold {R : Nat} {L : Nat → Dm} {c : Nat} (s : St) : ∀ n : Nat, (grp (clOf L) c n).foldl (againF R L) s = rowS R L c s n
  | 0 => rfl
  | n + 1 => by
    have ih := grp_fold (R := R) (L := L) (c := c) s n
    show (if clOf L n = c then grp (clOf L) c n ++ [n] else grp (clOf L) c n).foldl (againF R L) s = if (L n).cl = c then againF R L (rowS R L c s n) n else rowS R L c s n
    by_cases h : (L n).cl = c
    · rw [if_pos (show clOf L n = c from h), if_pos h, List.foldl_append, ih]
      rfl
    · rw [if_neg (show ¬ clOf L n = c from h), if_neg h, ih]
theorem ordP_two {k : Nat → Int} {n : Nat} (h : ∀ i, i < n → k i < 2) : ∀ p : Nat, ordP k n (p + 2) = grp k 0 n ++ grp k 1 n
  | 0 => by simp [ordP]
  | p + 1 => by
    have e : grp k (p + 2) n = [] := by
      rcases hg : grp k (p + 2) n with _ | ⟨x, l⟩
      · rfl
      · have hm : x ∈ grp k (p + 2) n := by rw [hg]; simp
        obtain ⟨a, b⟩ := mem_grp.1 hm
        have := h x a
        omega
    show ordP k n (p + 2) ++ grp k (p + 2) n = _
    rw [ordP_two h p, e, List.append_nil]
def rowAt (R : Nat) (L : Nat → Dm) (n c i : Nat) : St := if c = 0 then rowS R L 0 (st0 R) i else rowS R L 1 (rowS R L 0 (st0 R) n) i
theorem again_rows {R n : Nat} {L : Nat → Dm} (h : ∀ i, i < n → (L i).cl < 2) : againS R L n (st0 R) = rowAt R L n 1 n := by
  unfold againS
  rw [show (16 : Nat) = 14 + 2 from rfl, ordP_two (k := clOf L) h 14, List.foldl_append, grp_fold, grp_fold]
  rfl
theorem rowS_other {R : Nat} {L : Nat → Dm} {c : Nat} {s : St} {j : Nat} : ∀ i : Nat, (i ≤ j ∨ (L j).cl ≠ c) → (rowS R L c s i).hs j = s.hs j
  | 0, _ => rfl
  | i + 1, h => by
    show (stp R L c (rowS R L c s i) i).hs j = _
    unfold stp
    split
    · rename_i hc
      rw [againF_other (fun e => by subst e; rcases h with h | h; omega; exact h hc)]
      exact rowS_other i (by rcases h with h | h; exact .inl (by omega); exact .inr h)
    · exact rowS_other i (by rcases h with h | h; exact .inl (by omega); exact .inr h)
theorem rowS_at {R : Nat} {L : Nat → Dm} {c : Nat} {s : St} {j : Nat} (hz : s.hs j = 0) (ha : 0 ≤ (L j).ag) (hc : (L j).cl = c) : ∀ i : Nat, j < i → (rowS R L c s i).hs j = if (L j).ag ≤ (rowS R L c s j).left then (L j).ag else 0
  | 0, h => by omega
  | i + 1, h => by
    by_cases e : j = i
    · subst e
      show (stp R L c (rowS R L c s j) j).hs j = _
      unfold stp
      rw [if_pos hc]
      have h0 : (rowS R L c s j).hs j = 0 := (rowS_other j (.inl (Nat.le_refl _))).trans hz
      unfold againF
      by_cases h1 : (L j).ag ≤ (rowS R L c s j).left
      · rw [if_pos h1]
        by_cases h2 : 0 < (L j).ag
        · rw [if_pos ⟨h2, h1⟩]
          show putI _ j _ j = _
          unfold putI
          rw [if_pos rfl, h0]
          omega
        · rw [if_neg (by omega), h0]
          omega
      · rw [if_neg (by omega), if_neg h1, h0]
    · show (stp R L c (rowS R L c s i) i).hs j = _
      unfold stp
      split
      · rw [againF_other e]
        exact rowS_at hz ha hc i (by omega)
      · exact rowS_at hz ha hc i (by omega)
theorem rowAt_hs {R n : Nat} {L : Nat → Dm} {c j : Nat} (hc2 : c < 2) (ha : 0 ≤ (L j).ag) (hc : (L j).cl = c) (hj : j < n) : (rowAt R L n 1 n).hs j = if (L j).ag ≤ (rowAt R L n c j).left then (L j).ag else 0 := by
  rcases (show c = 0 ∨ c = 1 by omega) with rfl | rfl
  · show (rowS R L 1 (rowS R L 0 (st0 R) n) n).hs j = _
    rw [rowS_other n (.inr (by omega))]
    exact rowS_at rfl ha hc n hj
  · show (rowS R L 1 (rowS R L 0 (st0 R) n) n).hs j = _
    rw [rowS_at (by rw [rowS_other n (.inr (by omega))]; rfl) ha hc n hj]
    rfl
theorem stp_left {R : Nat} {L : Nat → Dm} {c i : Nat} {s : St} (ha : 0 ≤ (L i).ag) : ((stp R L c s i).left : Int) = s.left - if (L i).cl = c ∧ (L i).ag ≤ s.left then (L i).ag else 0 := by
  unfold stp
  by_cases hc : (L i).cl = c
  · rw [if_pos hc]
    by_cases h1 : (L i).ag ≤ s.left
    · rw [if_pos (show (L i).cl = (c : Int) ∧ (L i).ag ≤ (s.left : Int) from ⟨hc, h1⟩)]
      unfold againF
      by_cases h2 : 0 < (L i).ag
      · rw [if_pos (show 0 < (L i).ag ∧ (L i).ag ≤ (s.left : Int) from ⟨h2, h1⟩)]
        show ((s.left - (L i).ag.toNat : Nat) : Int) = _
        omega
      · rw [if_neg (show ¬ (0 < (L i).ag ∧ (L i).ag ≤ (s.left : Int)) from fun h => h2 h.1)]
        omega
    · rw [if_neg (show ¬ ((L i).cl = (c : Int) ∧ (L i).ag ≤ (s.left : Int)) from fun h => h1 h.2)]
      unfold againF
      rw [if_neg (show ¬ (0 < (L i).ag ∧ (L i).ag ≤ (s.left : Int)) from fun h => h1 h.2)]
      omega
  · rw [if_neg hc, if_neg (show ¬ ((L i).cl = (c : Int) ∧ (L i).ag ≤ (s.left : Int)) from fun h => hc h.1)]
    omega
theorem rowAt_succ {R n : Nat} {L : Nat → Dm} {c i : Nat} (hc : c < 2) (ha : 0 ≤ (L i).ag) : ((rowAt R L n c (i + 1)).left : Int) = (rowAt R L n c i).left - if (L i).cl = c ∧ (L i).ag ≤ (rowAt R L n c i).left then (L i).ag else 0 := by
  rcases (show c = 0 ∨ c = 1 by omega) with rfl | rfl
  · exact stp_left ha
  · exact stp_left ha
theorem rowAt_one {R n : Nat} {L : Nat → Dm} {c : Nat} (hc : c < 2) (ha : (L 0).ag = 0) : (rowAt R L n c 1).left = (rowAt R L n c 0).left := by
  have := rowAt_succ (R := R) (n := n) (L := L) (c := c) (i := 0) hc (by omega)
  rw [ha, show (0 : Nat) + 1 = 1 from rfl] at this
  split at this <;> omega
/-- Guarantees and fairness give nothing to a retransmission or to who has nothing to send. -/
theorem keep_asg {R n : Nat} {L : Nat → Dm} (i : Nat) (hi : i < n) (hb : 0 < (L i).ag ∨ (L i).by' ≤ 0) : (asg R L n).hs i = (againS R L n (st0 R)).hs i := by
  have hx : ∀ (s : St) (j : Nat), 0 < wantsP (L j) (s.hs j) s.left → ∀ c : Nat, (giveS R s j c).hs i = s.hs i := fun s j hw c => by
    obtain ⟨a, b⟩ := wantsP_ag hw
    have hbd := (bytes_bd (L j).q (s.hs j)).1
    show putI s.hs _ _ i = _
    unfold putI
    rw [if_neg (fun e => by subst e; omega)]
  refine fairS_ind (R := R) (n := n) (L := L) (fun s => s.hs i = (againS R L n (st0 R)).hs i) (fun s hs hn => (hx s _ (nextF_spec hn).2 _).trans hs) 13 _ ?_
  exact owedS_ind (R := R) (n := n) (L := L) (fun s => s.hs i = (againS R L n (st0 R)).hs i) (fun s hs hn => (hx s _ (nextO_spec hn).2.1 _).trans hs) 13 _ rfl
theorem asg_rows {R : Nat} {L : Nat → Dm} (hR : R ≤ 12) (hL : ∀ i, 1 ≤ i → i < 4 → 0 ≤ (L i).ag ∧ (L i).by' ≤ 0 ∧ (L i).cl < 2 ∧ 0 ≤ (L i).cl) (h0 : (L 0).q = 15 ∧ (L 0).ag = 0 ∧ 256 < (L 0).by' ∧ (L 0).cl = 0) :
    (∀ c j : Nat, c < 2 → 1 ≤ j → j < 4 → (L j).cl = c → (asg R L 4).hs j = if (L j).ag ≤ (rowAt R L 4 c j).left then (L j).ag else 0) ∧ (asg R L 4).hs 0 = (rowAt R L 4 1 4).left := by
  have hcl : ∀ i, i < 4 → (L i).cl < 2 := fun i hi => by
    rcases Nat.eq_zero_or_pos i with h | h
    · subst h; rw [h0.2.2.2]; omega
    · exact (hL i h hi).2.2.1
  have ha := again_rows (R := R) (n := 4) (L := L) hcl
  have hk : ∀ j, 1 ≤ j → j < 4 → (asg R L 4).hs j = (rowAt R L 4 1 4).hs j := fun j h1 h4 => by
    rw [← ha]
    exact keep_asg j h4 (.inr (hL j h1 h4).2.1)
  refine ⟨fun c j hc h1 h4 hj => ?_, ?_⟩
  · rw [hk j h1 h4]
    exact rowAt_hs hc (hL j h1 h4).1 hj h4
  · have I1 : Inv2 R 4 (rowAt R L 4 1 4) := by rw [← ha]; exact again_inv2 hR
    have I2 : Inv2 R 4 (asg R L 4) := asg_inv2 hR (fun i hi => ⟨by rcases Nat.eq_zero_or_pos i with h | h; subst h; omega; exact (hL i h hi).2.2.2, by have := hcl i hi; omega⟩)
    have hz : (rowAt R L 4 1 4).hs 0 = 0 := by rw [← ha]; exact again0 0 (by omega)
    have hd := asg_done (R := R) (n := 4) (L := L) hR 0 (by omega)
    have k1 := hk 1 (by omega) (by omega)
    have k2 := hk 2 (by omega) (by omega)
    have k3 := hk 3 (by omega) (by omega)
    have s1 := I1.sum
    have s2 := I2.sum
    have hh := I2.i.h 0 (by omega)
    generalize rowAt R L 4 1 4 = s at *
    generalize asg R L 4 = t at *
    simp only [sumI] at s1 s2
    rcases Nat.eq_zero_or_pos t.left with h | h
    · omega
    · rw [wants15 h0.1 h0.2.1 h0.2.2.1 hh.1 (by omega) h] at hd
      omega
end Go.Proofs.Ytdcogbokcbpnnaa
