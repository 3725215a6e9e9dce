/- Layer 25: indices by their priorities, and what is handed out along a list: in plain Lean. Nothing of the program is named here. -/
import Derived.WalkKit
namespace Go.Proofs.Ytdcogbokcbpnnaa
set_option linter.unusedVariables false
set_option linter.unusedSimpArgs false

/-- The indices below n of priority p. -/
def grp (k : Nat → Int) (p : Nat) : Nat → List Nat
  | 0 => []
  | n + 1 => if k n = p then grp k p n ++ [n] else grp k p n
/-- The indices below n of priorities below p. -/
def ordP (k : Nat → Int) (n : Nat) : Nat → List Nat
  | 0 => []
  | p + 1 => ordP k n p ++ grp k p n
theorem mem_grp {k : Nat → Int} {p i : Nat} : ∀ {n : Nat}, i ∈ grp k p n ↔ i < n ∧ k i = p
  | 0 => by simp [grp]
  | n + 1 => by
    unfold grp
    have ih := mem_grp (k := k) (p := p) (i := i) (n := n)
    split
    · rename_i h
      rw [List.mem_append, ih, List.mem_singleton]
      constructor
      · rintro (⟨h1, h2⟩ | rfl)
        · exact ⟨by omega, h2⟩
        · exact ⟨by omega, h⟩
      · rintro ⟨h1, h2⟩
        by_cases e : i = n
        · exact .inr e
        · exact .inl ⟨by omega, h2⟩
    · rename_i h
      rw [ih]
      constructor
      · rintro ⟨h1, h2⟩
        exact ⟨by omega, h2⟩
      · rintro ⟨h1, h2⟩
        refine ⟨?_, h2⟩
        by_cases e : i = n
        · subst e; exact absurd h2 h
        · omega
theorem mem_ordP {k : Nat → Int} {n i : Nat} : ∀ {p : Nat}, i ∈ ordP k n p ↔ i < n ∧ 0 ≤ k i ∧ k i < p
  | 0 => by
    simp [ordP]
    try omega
  | p + 1 => by
    unfold ordP
    rw [List.mem_append, mem_ordP (p := p), mem_grp]
    omega
/-- One index more goes behind those of its priority. -/
theorem ord_split {k : Nat → Int} {n : Nat} (h0 : 0 ≤ k n) : ∀ p : Nat, ((p : Int) ≤ k n ∧ ordP k (n + 1) p = ordP k n p) ∨ (k n < p ∧ ∃ A B, ordP k n p = A ++ B ∧ ordP k (n + 1) p = A ++ n :: B ∧ (∀ a ∈ A, k a ≤ k n) ∧ ∀ b ∈ B, k n < k b)
  | 0 => .inl ⟨h0, rfl⟩
  | p + 1 => by
    rcases ord_split h0 p with ⟨h1, h2⟩ | ⟨h1, A, B, h2, h3, h4, h5⟩
    · by_cases hp : k n = p
      · refine .inr ⟨by omega, ordP k n p ++ grp k p n, [], ?_, ?_, ?_, ?_⟩
        · simp [ordP]
        · simp [ordP, h2, grp, hp]
        · intro a ha
          rcases List.mem_append.1 ha with h | h
          · have := (mem_ordP.1 h).2.2; omega
          · have := (mem_grp.1 h).2; omega
        · intro b hb; cases hb
      · refine .inl ⟨by omega, ?_⟩
        simp [ordP, h2, grp, hp]
    · have hp : k n ≠ p := by omega
      refine .inr ⟨by omega, A, B ++ grp k p n, ?_, ?_, h4, ?_⟩
      · simp [ordP, h2]
      · simp [ordP, h3, grp, hp]
      · intro b hb
        rcases List.mem_append.1 hb with h | h
        · exact h5 b h
        · have := (mem_grp.1 h).2; omega
theorem ord_split16 {k : Nat → Int} {n : Nat} (h0 : 0 ≤ k n ∧ k n ≤ 15) : ∃ A B, ordP k n 16 = A ++ B ∧ ordP k (n + 1) 16 = A ++ n :: B ∧ (∀ a ∈ A, k a ≤ k n) ∧ ∀ b ∈ B, k n < k b := by
  rcases ord_split h0.1 16 with ⟨h1, _⟩ | ⟨_, h⟩
  · omega
  · exact h
theorem ordP_zero (k : Nat → Int) : ∀ p, ordP k 0 p = []
  | 0 => rfl
  | p + 1 => by simp [ordP, ordP_zero k p, grp]
theorem ord_all {k : Nat → Int} : ∀ n : Nat, (∀ i, i < n → 0 ≤ k i ∧ k i ≤ 15) → (ordP k n 16).length = n ∧ (ordP k n 16).Nodup ∧ (ordP k n 16).Pairwise (fun a b => k a ≤ k b)
  | 0, _ => by rw [ordP_zero]; simp
  | n + 1, h => by
    obtain ⟨h1, h2, h3⟩ := ord_all n fun i hi => h i (by omega)
    obtain ⟨A, B, e1, e2, a1, b1⟩ := ord_split16 (h n (by omega))
    rw [e1] at h1 h2 h3
    have hn : n ∉ A ++ B := fun hm => by
      rw [← e1] at hm
      have := (mem_ordP.1 hm).1
      omega
    rw [e2]
    refine ⟨by simp at h1 ⊢; omega, ?_, ?_⟩
    · exact (List.perm_middle.nodup_iff).2 (List.nodup_cons.2 ⟨hn, h2⟩)
    · rw [List.pairwise_append] at h3 ⊢
      refine ⟨h3.1, List.pairwise_cons.2 ⟨fun b hb => Int.le_of_lt (b1 b hb), h3.2.1⟩, fun a ha b hb => ?_⟩
      rcases List.mem_cons.1 hb with rfl | hb
      · exact a1 a ha
      · exact h3.2.2 a ha b hb

/-- An order of the indices below n. -/
structure Ord (n : Nat) (k : Nat → Int) (L : List Nat) : Prop where
  len : L.length = n
  inj : ∀ i j, i < n → j < n → L.getD i 0 = L.getD j 0 → i = j
  lt : ∀ j, j < n → L.getD j 0 < n
  sur : ∀ i, i < n → ∃ j, j < n ∧ L.getD j 0 = i
  le : ∀ i j, i < j → j < n → k (L.getD i 0) ≤ k (L.getD j 0)
theorem ord_of {k : Nat → Int} {n : Nat} (h : ∀ i, i < n → 0 ≤ k i ∧ k i ≤ 15) : Ord n k (ordP k n 16) := by
  obtain ⟨h1, h2, h3⟩ := ord_all n h
  generalize hL : ordP k n 16 = L at *
  have hg : ∀ j (hj : j < n), L.getD j 0 = L[j]'(by omega) := fun j hj => by simp [List.getD, h1, hj]
  refine ⟨h1, fun i j hi hj he => ?_, fun j hj => ?_, fun i hi => ?_, fun i j hij hj => ?_⟩
  · rw [hg i hi, hg j hj] at he
    have hp := List.pairwise_iff_getElem.1 h2
    rcases Nat.lt_trichotomy i j with h | h | h
    · exact absurd he (hp i j (by omega) (by omega) h)
    · exact h
    · exact absurd he.symm (hp j i (by omega) (by omega) h)
  · rw [hg j hj]
    have : L[j]'(by omega) ∈ ordP k n 16 := by rw [hL]; exact List.getElem_mem _
    exact (mem_ordP.1 this).1
  · have : i ∈ L := by rw [← hL]; exact mem_ordP.2 ⟨hi, (h i hi).1, by have := (h i hi).2; omega⟩
    obtain ⟨j, hj, e⟩ := List.getElem_of_mem this
    exact ⟨j, by omega, by rw [hg j (by omega), e]⟩
  · rw [hg i (by omega), hg j hj]
    exact List.pairwise_iff_getElem.1 h3 i j (by omega) (by omega) hij

/-- What is left when j of a list have been given what they may have. -/
def lf (cap : Nat → Int) (L : List Nat) (s : Int) : Nat → Int
  | 0 => s
  | j + 1 => lf cap L s j - min (cap (L.getD j 0)) (lf cap L s j)
/-- What each one has got when j of a list have been given what they may have. -/
def gv (cap : Nat → Int) (L : List Nat) (s : Int) : Nat → Nat → Int
  | 0, _ => 0
  | j + 1, i => if i = L.getD j 0 then min (cap (L.getD j 0)) (lf cap L s j) else gv cap L s j i
/-- A sum of numbers. -/
def sumI (f : Nat → Int) : Nat → Int
  | 0 => 0
  | n + 1 => sumI f n + f n
theorem sumI_congr {f g : Nat → Int} : ∀ {n : Nat}, (∀ i, i < n → f i = g i) → sumI f n = sumI g n
  | 0, _ => rfl
  | n + 1, h => by unfold sumI; rw [sumI_congr fun i hi => h i (by omega), h n (by omega)]
theorem sumI_le {f g : Nat → Int} : ∀ {n : Nat}, (∀ i, i < n → f i ≤ g i) → sumI f n ≤ sumI g n
  | 0, _ => Int.le_refl _
  | n + 1, h => by
    unfold sumI
    have := sumI_le (n := n) fun i hi => h i (by omega)
    have := h n (by omega)
    omega
theorem sumI_add {f g : Nat → Int} : ∀ {n : Nat}, sumI (fun i => f i + g i) n = sumI f n + sumI g n
  | 0 => rfl
  | n + 1 => by
    unfold sumI
    have := sumI_add (f := f) (g := g) (n := n)
    omega
theorem sumI_zero {f : Nat → Int} : ∀ {n : Nat}, (∀ i, i < n → f i = 0) → sumI f n = 0
  | 0, _ => rfl
  | n + 1, h => by unfold sumI; rw [sumI_zero fun i hi => h i (by omega), h n (by omega)]; rfl
theorem sumI_put {f : Nat → Int} {k : Nat} {x : Int} : ∀ {n : Nat}, sumI (fun i => if i = k then x else f i) n = sumI f n + (if k < n then x - f k else 0)
  | 0 => by simp [sumI]
  | n + 1 => by
    unfold sumI
    rw [sumI_put (n := n)]
    by_cases h : n = k
    · subst h
      simp
      omega
    · rw [if_neg h]
      by_cases hk : k < n
      · rw [if_pos hk, if_pos (by omega)]; omega
      · rw [if_neg hk, if_neg (by omega)]; omega
theorem sumI_eq {f g : Nat → Int} : ∀ {n : Nat}, (∀ i, i < n → f i ≤ g i) → sumI g n ≤ sumI f n → ∀ i, i < n → f i = g i
  | 0, _, _ => fun i hi => absurd hi (Nat.not_lt_zero _)
  | n + 1, h, hs => by
    have h1 := sumI_le (n := n) fun i hi => h i (by omega)
    have h2 := h n (by omega)
    have e1 : sumI g (n + 1) = sumI g n + g n := rfl
    have e2 : sumI f (n + 1) = sumI f n + f n := rfl
    intro i hi
    by_cases e : i = n
    · subst e; omega
    · exact sumI_eq (n := n) (fun i hi => h i (by omega)) (by omega) i (by omega)

section
variable {cap : Nat → Int} {L : List Nat} {s : Int} {n : Nat} {k : Nat → Int}
theorem lf_bd (hs : 0 ≤ s) (hc : ∀ i, 0 ≤ cap i) : ∀ j, 0 ≤ lf cap L s j ∧ lf cap L s j ≤ s
  | 0 => ⟨hs, Int.le_refl _⟩
  | j + 1 => by
    have := lf_bd hs hc j
    have := hc (L.getD j 0)
    unfold lf
    omega
theorem lf_anti (hs : 0 ≤ s) (hc : ∀ i, 0 ≤ cap i) (j : Nat) : ∀ m, lf cap L s (j + m) ≤ lf cap L s j
  | 0 => Int.le_refl _
  | m + 1 => by
    have := lf_anti hs hc j m
    have := (lf_bd (L := L) hs hc (j + m)).1
    have := hc (L.getD (j + m) 0)
    have e : lf cap L s (j + (m + 1)) = lf cap L s (j + m) - min (cap (L.getD (j + m) 0)) (lf cap L s (j + m)) := rfl
    omega
theorem gv_fresh (O : Ord n k L) : ∀ {j m : Nat}, j ≤ m → m < n → gv cap L s j (L.getD m 0) = 0
  | 0, _, _, _ => rfl
  | j + 1, m, h1, h2 => by
    unfold gv
    rw [if_neg fun e => by have := O.inj m j h2 (by omega) e; omega]
    exact gv_fresh O (by omega) h2
theorem gv_at (O : Ord n k L) {m : Nat} : ∀ {j : Nat}, m < j → j ≤ n → gv cap L s j (L.getD m 0) = min (cap (L.getD m 0)) (lf cap L s m)
  | 0, h, _ => absurd h (Nat.not_lt_zero _)
  | j + 1, h1, h2 => by
    unfold gv
    by_cases e : m = j
    · subst e; rw [if_pos rfl]
    · rw [if_neg fun e' => e (O.inj m j (by omega) (by omega) e')]
      exact gv_at O (by omega) (by omega)
theorem gv_le (O : Ord n k L) (hs : 0 ≤ s) (hc : ∀ i, 0 ≤ cap i) {i : Nat} (hi : i < n) : 0 ≤ gv cap L s n i ∧ gv cap L s n i ≤ cap i := by
  obtain ⟨m, hm, rfl⟩ := O.sur i hi
  rw [gv_at O hm (Nat.le_refl _)]
  have := (lf_bd (L := L) hs hc m).1
  have := hc (L.getD m 0)
  omega
theorem gv_bd (hs : 0 ≤ s) (hc : ∀ i, 0 ≤ cap i) : ∀ j i, 0 ≤ gv cap L s j i ∧ gv cap L s j i ≤ cap i
  | 0, i => ⟨Int.le_refl _, hc i⟩
  | j + 1, i => by
    unfold gv
    split
    · rename_i e
      rw [← e]
      have := (lf_bd (L := L) hs hc j).1
      have := hc i
      omega
    · exact gv_bd hs hc j i
theorem gv_sum (O : Ord n k L) : ∀ j, j ≤ n → sumI (gv cap L s j) n = s - lf cap L s j
  | 0, _ => by
    show sumI (fun _ => 0) n = _
    rw [sumI_zero fun _ _ => rfl]
    show 0 = s - s
    omega
  | j + 1, h => by
    have ih := gv_sum O j (by omega)
    have e : gv cap L s (j + 1) = fun i => if i = L.getD j 0 then min (cap (L.getD j 0)) (lf cap L s j) else gv cap L s j i := by funext i; rfl
    rw [e, sumI_put, if_pos (O.lt j (by omega)), gv_fresh O (Nat.le_refl _) (by omega), ih]
    show _ = s - (lf cap L s j - _)
    omega
/-- Where something is left, all have got what they may have. -/
theorem gv_full (O : Ord n k L) (hs : 0 ≤ s) (hc : ∀ i, 0 ≤ cap i) {j m : Nat} (hl : 0 < lf cap L s j) (hm : m < j) (hj : j ≤ n) : gv cap L s n (L.getD m 0) = cap (L.getD m 0) := by
  rw [gv_at O (show m < n by omega) (Nat.le_refl _)]
  have h1 := lf_anti (L := L) hs hc (m + 1) (j - (m + 1))
  rw [show m + 1 + (j - (m + 1)) = j by omega] at h1
  have h2 : lf cap L s (m + 1) = lf cap L s m - min (cap (L.getD m 0)) (lf cap L s m) := rfl
  omega
theorem lf_end (O : Ord n k L) (hs : 0 ≤ s) (hc : ∀ i, 0 ≤ cap i) : lf cap L s n = max 0 (s - sumI cap n) := by
  have h0 := (lf_bd (L := L) hs hc n).1
  have h1 := gv_sum (cap := cap) (s := s) O n (Nat.le_refl _)
  have h2 : sumI (gv cap L s n) n ≤ sumI cap n := sumI_le fun i hi => (gv_le O hs hc hi).2
  by_cases hp : 0 < lf cap L s n
  · have h3 : sumI (gv cap L s n) n = sumI cap n := sumI_congr fun i hi => by
      obtain ⟨m, hm, rfl⟩ := O.sur i hi
      exact gv_full O hs hc hp hm (Nat.le_refl _)
    omega
  · omega
end

/-- What a channel may have in the first round. -/
def cap1 (W T : Nat → Int) (i : Nat) : Int := min (W i) (max (T i) 0)
/-- What each one gets in the first round. -/
def g1 (W T : Nat → Int) (L : List Nat) (n : Nat) (s : Int) : Nat → Int := gv (cap1 W T) L s n
def l1 (W T : Nat → Int) (L : List Nat) (n : Nat) (s : Int) : Int := lf (cap1 W T) L s n
def cap2 (W T : Nat → Int) (L : List Nat) (n : Nat) (s : Int) (i : Nat) : Int := W i - g1 W T L n s i
def g2 (W T : Nat → Int) (L : List Nat) (n : Nat) (s : Int) (j : Nat) : Nat → Int := gv (cap2 W T L n s) L (l1 W T L n s) j
/-- What each one gets. -/
def gAll (W T : Nat → Int) (L : List Nat) (n : Nat) (s : Int) (i : Nat) : Int := g1 W T L n s i + g2 W T L n s n i

section
variable {W T k : Nat → Int} {L : List Nat} {s : Int} {n : Nat}
theorem cap1_nn (hW : ∀ i, 0 ≤ W i) (i : Nat) : 0 ≤ cap1 W T i := by
  have := hW i
  unfold cap1
  omega
theorem cap2_nn (hs : 0 ≤ s) (hW : ∀ i, 0 ≤ W i) (i : Nat) : 0 ≤ cap2 W T L n s i := by
  have h1 := (gv_bd (L := L) hs (cap1_nn (T := T) hW) n i).2
  unfold cap2 g1
  have : cap1 W T i ≤ W i := by unfold cap1; omega
  omega
theorem l1_bd (hs : 0 ≤ s) (hW : ∀ i, 0 ≤ W i) : 0 ≤ l1 W T L n s ∧ l1 W T L n s ≤ s := lf_bd hs (cap1_nn hW) n
theorem gAll_bd (O : Ord n k L) (hs : 0 ≤ s) (hW : ∀ i, 0 ≤ W i) {i : Nat} (hi : i < n) : 0 ≤ gAll W T L n s i ∧ gAll W T L n s i ≤ W i := by
  have h1 := gv_le O hs (cap1_nn (T := T) hW) hi
  have h2 := gv_le O (l1_bd (T := T) (L := L) (n := n) hs hW).1 (cap2_nn (T := T) (L := L) (n := n) hs hW) hi
  have e1 : gAll W T L n s i = gv (cap1 W T) L s n i + gv (cap2 W T L n s) L (l1 W T L n s) n i := rfl
  have e2 : cap2 W T L n s i = W i - gv (cap1 W T) L s n i := rfl
  omega
theorem gAll_sum (O : Ord n k L) (hs : 0 ≤ s) (hW : ∀ i, 0 ≤ W i) : sumI (gAll W T L n s) n = min s (sumI W n) := by
  have e : sumI (gAll W T L n s) n = sumI (g1 W T L n s) n + sumI (g2 W T L n s n) n := sumI_add
  have h1 : sumI (g1 W T L n s) n = s - l1 W T L n s := gv_sum O n (Nat.le_refl _)
  have h2 : sumI (g2 W T L n s n) n = l1 W T L n s - lf (cap2 W T L n s) L (l1 W T L n s) n := gv_sum O n (Nat.le_refl _)
  have h3 := lf_end O (l1_bd (T := T) (L := L) (n := n) hs hW).1 (cap2_nn (T := T) (L := L) (n := n) hs hW)
  have h4 : sumI W n = sumI (cap2 W T L n s) n + sumI (g1 W T L n s) n := by
    rw [← sumI_add]
    exact sumI_congr fun i _ => by unfold cap2; omega
  omega
/-- Who gets more than its tokens allow: then all have what theirs allow, and those of higher priority have all. -/
theorem gAll_beyond (O : Ord n k L) (hs : 0 ≤ s) (hW : ∀ i, 0 ≤ W i) {i q : Nat} (hi : i < n) (hq : q < n) (hb : max 0 (T q) < gAll W T L n s q) :
    min (W i) (max 0 (T i)) ≤ gAll W T L n s i ∧ (k i < k q → W i ≤ gAll W T L n s i) := by
  have hc1 := cap1_nn (T := T) hW
  have hc2 := cap2_nn (T := T) (L := L) (n := n) hs hW
  have hl := l1_bd (T := T) (L := L) (n := n) hs hW
  have a1 := (gv_le O hs hc1 hq).2
  have a2 : cap1 W T q ≤ max 0 (T q) := by unfold cap1; omega
  have a3 : 0 < g2 W T L n s n q := by
    have e1 : gAll W T L n s q = gv (cap1 W T) L s n q + g2 W T L n s n q := rfl
    omega
  obtain ⟨m, hm, rfl⟩ := O.sur q hq
  unfold g2 at a3
  rw [gv_at O hm (Nat.le_refl _)] at a3
  have a4 : 0 < lf (cap2 W T L n s) L (l1 W T L n s) m := by omega
  have a5 : 0 < l1 W T L n s := by
    have := lf_anti (L := L) hl.1 hc2 0 m
    rw [Nat.zero_add] at this
    have e : lf (cap2 W T L n s) L (l1 W T L n s) 0 = l1 W T L n s := rfl
    omega
  obtain ⟨x, hx, rfl⟩ := O.sur i hi
  have a6 : g1 W T L n s (L.getD x 0) = cap1 W T (L.getD x 0) := gv_full O hs hc1 a5 hx (Nat.le_refl _)
  have a7 := (gv_le O hl.1 hc2 hi).1
  constructor
  · unfold gAll g2
    rw [a6]
    unfold cap1
    omega
  · intro hk
    have hxm : x < m := by
      rcases Nat.lt_or_ge x m with h | h
      · exact h
      · rcases Nat.lt_or_ge m x with h' | h'
        · have := O.le m x h' hx; omega
        · have : x = m := by omega
          subst this; omega
    have a8 : g2 W T L n s n (L.getD x 0) = cap2 W T L n s (L.getD x 0) := gv_full O hl.1 hc2 a4 hxm (by omega)
    unfold gAll
    rw [a8]
    unfold cap2
    omega
/-- If all that the tokens allow is just the size, each one gets that. -/
theorem g1_rates (O : Ord n k L) (hs : 0 ≤ s) (hW : ∀ i, 0 ≤ W i) (he : sumI (cap1 W T) n = s) {i : Nat} (hi : i < n) : g1 W T L n s i = cap1 W T i ∧ g2 W T L n s n i = 0 := by
  have hc1 := cap1_nn (T := T) hW
  have h0 := lf_end O hs hc1
  have hl : l1 W T L n s = 0 := by unfold l1; omega
  have h1 : sumI (g1 W T L n s) n = s - l1 W T L n s := gv_sum O n (Nat.le_refl _)
  refine ⟨sumI_eq (fun i hi => (gv_le O hs hc1 hi).2) (by unfold g1 at h1; omega) i hi, ?_⟩
  have hc2 := cap2_nn (T := T) (L := L) (n := n) hs hW
  unfold g2
  rw [hl]
  obtain ⟨m, hm, rfl⟩ := O.sur i hi
  rw [gv_at O hm (Nat.le_refl _)]
  have := lf_bd (L := L) (Int.le_refl 0) hc2 m
  have := hc2 (L.getD m 0)
  omega
/-- If one alone has something waiting. -/
theorem g_alone (O : Ord n k L) (hs : 0 ≤ s) (hW : ∀ i, 0 ≤ W i) (h0 : ∀ i, 0 < i → W i = 0) (hn : 0 < n) : g1 W T L n s 0 = min (min (W 0) s) (max 0 (T 0)) ∧ gAll W T L n s 0 = min (W 0) s := by
  have hc1 := cap1_nn (T := T) hW
  have hc2 := cap2_nn (T := T) (L := L) (n := n) hs hW
  have hl := l1_bd (T := T) (L := L) (n := n) hs hW
  have flat : ∀ (cap : Nat → Int) (s : Int), 0 ≤ s → (∀ i, 0 ≤ cap i) → (∀ i, 0 < i → cap i = 0) → gv cap L s n 0 = min (cap 0) s ∧ lf cap L s n = s - min (cap 0) s := by
    intro cap s hs hc hz
    have h1 := gv_sum (cap := cap) (s := s) O n (Nat.le_refl _)
    have h2 := lf_end O hs hc
    have one : ∀ (f : Nat → Int), (∀ i, 0 < i → f i = 0) → ∀ n, 0 < n → sumI f n = f 0 := by
      intro f hf n
      induction n with
      | zero => intro h; omega
      | succ n ih =>
        intro _
        unfold sumI
        by_cases e : n = 0
        · subst e; simp [sumI]
        · rw [ih (by omega), hf n (by omega)]; omega
    have e1 := one cap hz n hn
    have e2 := one (gv cap L s n) (fun i hi => by
      have := gv_bd (L := L) hs hc n i
      rw [hz i hi] at this
      omega) n hn
    have := hc 0
    omega
  have z1 : ∀ i, 0 < i → cap1 W T i = 0 := fun i hi => by unfold cap1; rw [h0 i hi]; omega
  obtain ⟨e1, e2⟩ := flat _ _ hs hc1 z1
  have z2 : ∀ i, 0 < i → cap2 W T L n s i = 0 := fun i hi => by
    have := gv_bd (L := L) hs hc1 n i
    rw [z1 i hi] at this
    unfold cap2 g1
    rw [h0 i hi]
    omega
  obtain ⟨e3, e4⟩ := flat _ _ hl.1 hc2 z2
  have w0 := hW 0
  have e5 : g1 W T L n s 0 = min (cap1 W T 0) s := e1
  have e6 : g2 W T L n s n 0 = min (cap2 W T L n s 0) (l1 W T L n s) := e3
  have e7 : l1 W T L n s = s - min (cap1 W T 0) s := e2
  unfold gAll
  rw [e6, e7]
  unfold cap2
  rw [e5]
  unfold cap1
  constructor <;> omega
end
end Go.Proofs.Ytdcogbokcbpnnaa
