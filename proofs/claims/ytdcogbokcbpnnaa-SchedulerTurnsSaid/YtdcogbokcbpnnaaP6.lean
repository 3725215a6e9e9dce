/- Layer 34: nobody waits long, in plain Lean. -/
import Derived.Test.YtdcogbokcbpnnaaP5
namespace Go.Proofs.Ytdcogbokcbpnnaa
set_option linter.unusedVariables false
set_option linter.unusedSimpArgs false
/-- A mean that learns. -/
def lrn (m b : Int) : Int := m - m / 16 + 4 * b
theorem learn_lrn {m b : Int} (hm : 0 ≤ m ∧ m ≤ 60000) (hb : 0 ≤ b ∧ b ≤ 256) : learn m b = lrn m b := by
  unfold learn lrn
  rw [mean_in (by omega)]
  unfold within
  omega
/-- All that others have, but one. -/
def oth (m : Nat → Int) (i j : Nat) : Int := if j = i then 0 else m j
theorem oth_le {m : Nat → Int} {i : Nat} {U : Int} : ∀ n : Nat, (∀ j, j < n → m j ≤ U) → 0 ≤ U → sumI (oth m i) n ≤ (if i < n then (n : Int) - 1 else (n : Int)) * U
  | 0, _, _ => by show (0 : Int) ≤ _; split <;> omega
  | n + 1, h, h0 => by
    have ih := oth_le (i := i) n (fun j hj => h j (by omega)) h0
    have e : sumI (oth m i) (n + 1) = sumI (oth m i) n + oth m i n := rfl
    have hn := h n (by omega)
    rw [e]
    by_cases hi : n = i
    · have e2 : oth m i n = 0 := if_pos hi
      rw [if_neg (by omega)] at ih
      rw [if_pos (by omega), e2, show ((n + 1 : Nat) : Int) - 1 = (n : Int) by omega]
      omega
    · have e2 : oth m i n = m n := if_neg hi
      rw [e2]
      by_cases h2 : i < n
      · rw [if_pos h2] at ih
        rw [if_pos (by omega), show ((n + 1 : Nat) : Int) - 1 = ((n : Int) - 1) + 1 by omega, Int.add_mul]
        omega
      · rw [if_neg h2] at ih
        rw [if_neg (by omega), show ((n + 1 : Nat) : Int) = (n : Int) + 1 by omega, Int.add_mul]
        omega
theorem oth_step {m e : Nat → Int} {i : Nat} (h0 : e i = 0) : ∀ n : Nat, 15 * sumI (oth m i) n + 64 * sumI e n ≤ 16 * sumI (oth (fun j => lrn (m j) (e j)) i) n
  | 0 => by show 15 * (0 : Int) + 64 * 0 ≤ 16 * 0; omega
  | n + 1 => by
    have ih := oth_step (m := m) (e := e) (i := i) h0 n
    have e1 : sumI (oth m i) (n + 1) = sumI (oth m i) n + oth m i n := rfl
    have e2 : sumI e (n + 1) = sumI e n + e n := rfl
    have e3 : sumI (oth (fun j => lrn (m j) (e j)) i) (n + 1) = sumI (oth (fun j => lrn (m j) (e j)) i) n + oth (fun j => lrn (m j) (e j)) i n := rfl
    rw [e1, e2, e3]
    by_cases hi : n = i
    · have e4 : oth m i n = 0 := if_pos hi
      have e5 : oth (fun j => lrn (m j) (e j)) i n = 0 := if_pos hi
      rw [e4, e5, show e n = 0 by rw [hi]; exact h0]
      omega
    · have e4 : oth m i n = m n := if_neg hi
      have e5 : oth (fun j => lrn (m j) (e j)) i n = lrn (m n) (e n) := if_neg hi
      have e6 : lrn (m n) (e n) = m n - m n / 16 + 4 * e n := rfl
      rw [e4, e5, e6]
      omega
/-- A tick in which i is not served. -/
structure Tick (n i : Nat) (b g : Int) (m e : Nat → Int) : Prop where
  hb : ∀ j, j < n → 0 ≤ e j ∧ e j ≤ b
  hi : e i = 0
  ord : ∀ j, j < n → e j ≠ 0 → m j ≤ m i
  sum : g ≤ sumI e n
/-- What holds while i waits. -/
structure Wt (n i : Nat) (b v : Int) (z : Int) (m : Nat → Int) : Prop where
  z0 : 0 ≤ z
  mi : m i ≤ z
  up : ∀ j, j < n → m j ≤ z + 4 * b
  pot : 3 * z + 12 * b - sumI (oth m i) n ≤ v
theorem Wt.step {n i : Nat} {b g v v' z : Int} {m e : Nat → Int} (hin : i < n) (T : Tick n i b g m e) (H : Wt n i b v z m) (hb : 0 ≤ b) (hv : 15 * v + 45 + 12 * b - 64 * g ≤ 16 * v') : Wt n i b v' (z - z / 16) (fun j => lrn (m j) (e j)) := by
  have h0 := H.z0
  have h1 := H.mi
  refine ⟨by omega, ?_, fun j hj => ?_, ?_⟩
  · show lrn (m i) (e i) ≤ _
    rw [T.hi]
    unfold lrn
    omega
  · show lrn (m j) (e j) ≤ _
    have h2 := H.up j hj
    have h3 := T.hb j hj
    unfold lrn
    by_cases he : e j = 0
    · rw [he]; omega
    · have h4 := T.ord j hj he
      omega
  · have h5 := oth_step (m := m) (e := e) (i := i) T.hi n
    have h6 := T.sum
    have h7 := H.pot
    omega
theorem Wt.congr {n i : Nat} {b v z : Int} {m m' : Nat → Int} (hin : i < n) (H : Wt n i b v z m) (h : ∀ j, j < n → m' j = m j) : Wt n i b v z m' :=
  ⟨H.z0, by rw [h i hin]; exact H.mi, fun j hj => by rw [h j hj]; exact H.up j hj, by
    rw [sumI_congr (g := oth m i) fun j hj => by unfold oth; rw [h j hj]]
    exact H.pot⟩
/-- How the potential falls: in thousandths, c a tick. -/
def fall (a c : Int) : Nat → Int
  | 0 => a
  | k + 1 => (15 * fall a c k - c) / 16 + 1
theorem Wt.fall {n i : Nat} {b g z : Int} {a c : Int} {k : Nat} {m e : Nat → Int} (hin : i < n) (T : Tick n i b g m e) (H : Wt n i b (fall a c k * b) z m) (hb : 0 ≤ b) (hc : c * b ≤ 64 * g - 45 - 12 * b) : Wt n i b (fall a c (k + 1) * b) (z - z / 16) (fun j => lrn (m j) (e j)) := by
  refine H.step hin T hb ?_
  have h1 : 15 * Go.Proofs.Ytdcogbokcbpnnaa.fall a c k - c ≤ 16 * Go.Proofs.Ytdcogbokcbpnnaa.fall a c (k + 1) := by
    show _ ≤ 16 * ((15 * Go.Proofs.Ytdcogbokcbpnnaa.fall a c k - c) / 16 + 1)
    omega
  have h2 := Int.mul_le_mul_of_nonneg_right h1 hb
  rw [Int.sub_mul, Int.mul_assoc, Int.mul_assoc] at h2
  omega
theorem fall_one : Go.Proofs.Ytdcogbokcbpnnaa.fall 1113 135 40 < 0 := of_decide_eq_true (by kernel_rfl)
theorem fall_five : Go.Proofs.Ytdcogbokcbpnnaa.fall 396 43 40 < 0 := of_decide_eq_true (by kernel_rfl)
/-- Nobody waits forty ticks. -/
theorem starve {n i : Nat} {b a c : Int} {m e : Nat → Nat → Int} (hin : i < n) (hn : n ≤ 4) (hb : 1 ≤ b) (h0 : ∀ j, j < n → 0 ≤ m 0 j ∧ m 0 j ≤ 299 + 68 * b) (hst : ∀ t j, j < n → m (t + 1) j = lrn (m t j) (e t j))
    (ht : ∀ t, t < 40 → ∃ g, Tick n i b g (m t) (e t) ∧ c * b ≤ 64 * g - 45 - 12 * b) (ha : 897 + 216 * b ≤ a * b) (hneg : Go.Proofs.Ytdcogbokcbpnnaa.fall a c 40 < 0) : False := by
  have hw : ∀ t, t ≤ 40 → ∃ z, Wt n i b (Go.Proofs.Ytdcogbokcbpnnaa.fall a c t * b) z (m t) := by
    intro t
    induction t with
    | zero =>
      intro _
      have hz : ∀ k, 0 ≤ sumI (oth (m 0) i) k ∨ n < k := by
        intro k
        induction k with
        | zero => exact .inl (Int.le_refl _)
        | succ k ih =>
          by_cases hk : n < k + 1
          · exact .inr hk
          · left
            have e1 : sumI (oth (m 0) i) (k + 1) = sumI (oth (m 0) i) k + oth (m 0) i k := rfl
            have e2 : 0 ≤ oth (m 0) i k := by
              unfold oth
              split
              · exact Int.le_refl _
              · exact (h0 k (by omega)).1
            rcases ih with h | h <;> omega
      refine ⟨299 + 68 * b, by omega, (h0 i hin).2, fun j hj => by have := (h0 j hj).2; omega, ?_⟩
      have h1 : 0 ≤ sumI (oth (m 0) i) n := by rcases hz n with h | h <;> omega
      show _ ≤ a * b
      omega
    | succ t ih =>
      intro h
      obtain ⟨z, H⟩ := ih (by omega)
      obtain ⟨g, T, hc⟩ := ht t (by omega)
      have := Wt.fall hin T H (by omega) hc
      refine ⟨z - z / 16, ?_⟩
      exact this.congr hin fun j hj => hst t j hj
  obtain ⟨z, H⟩ := hw 40 (Nat.le_refl _)
  have h1 := oth_le (m := m 40) (i := i) (U := z + 4 * b) n (fun j hj => H.up j hj) (by have := H.z0; omega)
  rw [if_pos hin] at h1
  have h2 : ((n : Int) - 1) * (z + 4 * b) ≤ 3 * (z + 4 * b) := Int.mul_le_mul_of_nonneg_right (by omega) (by have := H.z0; omega)
  have h3 := H.pot
  have h4 : Go.Proofs.Ytdcogbokcbpnnaa.fall a c 40 * b < 0 := Int.mul_neg_of_neg_of_pos hneg (by omega)
  omega
/-- The means after t ticks. -/
def mT (q y : Int) (R n : Nat) (m0 : Nat → Int) : Nat → Nat → Int
  | 0 => m0
  | t + 1 => fun j => learn (mT q y R n m0 t j) (bytes q ((asg R (tuD q y (mT q y R n m0 t)) n).hs j))
/-- Who has what in the tick behind t ticks. -/
def hT (q y : Int) (R n : Nat) (m0 : Nat → Int) (t j : Nat) : Int := (asg R (tuD q y (mT q y R n m0 t)) n).hs j
/-- The last tick in which each one was served. -/
def lT (q y : Int) (R n : Nat) (m0 : Nat → Int) : Nat → Nat → Nat
  | 0 => fun _ => 0
  | t + 1 => fun j => if 0 < hT q y R n m0 t j then t + 1 else lT q y R n m0 t j
section
variable {q y : Int} {R n : Nat} {m0 : Nat → Int}
theorem lT_le (j : Nat) : ∀ t : Nat, lT q y R n m0 t j ≤ t
  | 0 => Nat.le_refl _
  | t + 1 => by
    show (if 0 < hT q y R n m0 t j then t + 1 else lT q y R n m0 t j) ≤ t + 1
    have := lT_le j t
    split <;> omega
theorem lT_idle (j : Nat) : ∀ t s : Nat, lT q y R n m0 t j ≤ s → s < t → ¬ 0 < hT q y R n m0 s j
  | 0, s, _, h => by omega
  | t + 1, s, h1, h2 => by
    have e : lT q y R n m0 (t + 1) j = if 0 < hT q y R n m0 t j then t + 1 else lT q y R n m0 t j := rfl
    rw [e] at h1
    by_cases hc : 0 < hT q y R n m0 t j
    · rw [if_pos hc] at h1; omega
    · rw [if_neg hc] at h1
      by_cases hs : s = t
      · rw [hs]; exact hc
      · exact lT_idle j t s h1 (by omega)
theorem mT_bd (hq : 10 ≤ q ∧ q ≤ 15) (hy : 1 ≤ y) (hR : 3 ≤ R ∧ R ≤ 12) (h0 : ∀ j, j < n → 0 ≤ m0 j ∧ m0 j ≤ 299) : ∀ t j, j < n → 0 ≤ mT q y R n m0 t j ∧ mT q y R n m0 t j ≤ 299 + 68 * bytes q (covK q y R)
  | 0, j, hj => by
    have h1 := h0 j hj
    have h2 := (bytes_bd q (covK q y R)).1
    show 0 ≤ m0 j ∧ m0 j ≤ _
    omega
  | t + 1, j, hj => by
    have ih := fun j hj => mT_bd hq hy hR h0 t j hj
    have hb := (bytes_bd q (covK q y R)).2
    obtain ⟨h1, h2⟩ := (tick_spec (m := mT q y R n m0 t) (n := n) hq hy hR fun i hi => by have := ih i hi; omega).1 j hj
    show 0 ≤ learn (mT q y R n m0 t j) _ ∧ learn (mT q y R n m0 t j) _ ≤ _
    have h3 := ih j hj
    rw [learn_lrn (by omega) (by omega)]
    unfold lrn
    omega
theorem turns_wait (hq : 10 ≤ q ∧ q ≤ 15) (hy : 1 ≤ y) (hR : 3 ≤ R ∧ R ≤ 12) (hn : n ≤ 4) (h0 : ∀ j, j < n → 0 ≤ m0 j ∧ m0 j ≤ 299) (t i : Nat) (hi : i < n) : t ≤ lT q y R n m0 t i + 40 := by
  refine Nat.le_of_not_lt fun hlt => ?_
  have hbd := mT_bd (q := q) (y := y) (R := R) (n := n) (m0 := m0) hq hy hR h0
  have hid := lT_idle (q := q) (y := y) (R := R) (n := n) (m0 := m0) i t
  generalize lT q y R n m0 t i = s at *
  have hb256 := (bytes_bd q (covK q y R)).2
  have hkp : 0 < covK q y R := coverP_pos _ _ _ (by omega)
  have hkl : covK q y R ≤ R := coverP_le _ _ _
  have hb1 : 1 ≤ bytes q (covK q y R) := by
    have h1 := bytes_one hq
    have h2 := bytes_mono (q := q) (a := 1) (b := (covK q y R : Nat)) (by omega) (by omega) (by omega) (by omega)
    omega
  have hts := fun k => tick_spec (m := mT q y R n m0 (s + k)) (n := n) hq hy hR fun i hi => by have := hbd (s + k) i hi; omega
  have hz : ∀ k, k < 40 → (asg R (tuD q y (mT q y R n m0 (s + k))) n).hs i = 0 := fun k hk => by
    have h1 : ¬ 0 < (asg R (tuD q y (mT q y R n m0 (s + k))) n).hs i := hid (s + k) (by omega) (by omega)
    have h2 := ((asg_inv2 (R := R) (n := n) (L := tuD q y (mT q y R n m0 (s + k))) hR.2 fun i hi => ⟨Int.le_refl _, by show (0 : Int) ≤ 15; omega⟩).i.h i hi).1
    omega
  have hst : ∀ k j, j < n → mT q y R n m0 (s + (k + 1)) j = lrn (mT q y R n m0 (s + k) j) (bytes q ((asg R (tuD q y (mT q y R n m0 (s + k))) n).hs j)) := fun k j hj => by
    have h1 := hbd (s + k) j hj
    have h2 := (hts k).1 j hj
    exact learn_lrn (m := mT q y R n m0 (s + k) j) (b := bytes q ((asg R (tuD q y (mT q y R n m0 (s + k))) n).hs j)) (by omega) (by omega)
  have hT : ∀ k, k < 40 → (5 ≤ bytes q (covK q y R) → Tick n i (bytes q (covK q y R)) (bytes q (covK q y R)) (mT q y R n m0 (s + k)) (fun j => bytes q ((asg R (tuD q y (mT q y R n m0 (s + k))) n).hs j))) ∧
      (¬ 5 ≤ bytes q (covK q y R) → Tick n i (bytes q (covK q y R)) (3 * bytes q (covK q y R)) (mT q y R n m0 (s + k)) (fun j => bytes q ((asg R (tuD q y (mT q y R n m0 (s + k))) n).hs j))) := fun k hk => by
    obtain ⟨h1, h2⟩ := hts k
    obtain ⟨h3, h4⟩ := h2 i hi (hz k hk)
    exact ⟨fun h5 => ⟨h1, by show bytes q ((asg R (tuD q y (mT q y R n m0 (s + k))) n).hs i) = 0; rw [hz k hk, bytes_zero], h3, by rcases h4 with h | h <;> omega⟩,
      fun h5 => ⟨h1, by show bytes q ((asg R (tuD q y (mT q y R n m0 (s + k))) n).hs i) = 0; rw [hz k hk, bytes_zero], h3, by rcases h4 with h | h <;> omega⟩⟩
  generalize bytes q (covK q y R) = b at *
  by_cases h5 : 5 ≤ b
  · exact starve (n := n) (i := i) (b := b) (a := 396) (c := 43) (m := fun k => mT q y R n m0 (s + k)) (e := fun k j => bytes q ((asg R (tuD q y (mT q y R n m0 (s + k))) n).hs j)) hi hn hb1 (fun j hj => hbd (s + 0) j hj) hst (fun k hk => ⟨b, (hT k hk).1 h5, by omega⟩) (by omega) fall_five
  · exact starve (n := n) (i := i) (b := b) (a := 1113) (c := 135) (m := fun k => mT q y R n m0 (s + k)) (e := fun k j => bytes q ((asg R (tuD q y (mT q y R n m0 (s + k))) n).hs j)) hi hn hb1 (fun j hj => hbd (s + 0) j hj) hst (fun k hk => ⟨3 * b, (hT k hk).2 h5, by omega⟩) (by omega) fall_one
end
end Go.Proofs.Ytdcogbokcbpnnaa
