/- Layer 34: who is served in turns, in plain Lean. -/
import Derived.Test.YtdcogbokcbpnnaaP4
namespace Go.Proofs.Ytdcogbokcbpnnaa
set_option linter.unusedVariables false
set_option linter.unusedSimpArgs false
/-- The demands of SchedulerTurns. -/
def tuD (q y : Int) (m : Nat → Int) (i : Nat) : Dm := ⟨q, 0, y, m i, 0, 0, 0⟩
def covK (q y : Int) (R : Nat) : Nat := coverP ⟨q, 0, y, 0, 0, 0, 0⟩ 0 R
theorem bytes_zero (q : Int) : bytes q 0 = 0 := by
  unfold bytes
  split
  · unfold sz; simp; omega
  · rfl
theorem bytes_one {q : Int} (hq : 10 ≤ q ∧ q ≤ 15) : 1 ≤ bytes q 1 := by
  rw [bytes_yes q 1 (by omega) (by omega) (by omega) (by omega)]
  unfold sz
  omega
theorem bytes_two {q k : Int} (hq : 10 ≤ q ∧ q ≤ 15) (h2 : 2 ≤ k) (h12 : k ≤ 12) : 5 ≤ bytes q k := by
  have h1 : 5 ≤ bytes q 2 := by
    rw [bytes_yes q 2 (by omega) (by omega) (by omega) (by omega)]
    unfold sz
    omega
  have := bytes_mono (q := q) (a := 2) (b := k) (by omega) (by omega) h2 h12
  omega
theorem cover_min (q y : Int) (m : Nat → Int) (i : Nat) {left R : Nat} (h : left ≤ R) : coverP (tuD q y m i) 0 left = min (covK q y R) left := by
  show (if firstK (fun k => decide (y ≤ bytes q (0 + k))) left = 0 then left else firstK (fun k => decide (y ≤ bytes q (0 + k))) left) = min (if firstK (fun k => decide (y ≤ bytes q (0 + k))) R = 0 then R else firstK (fun k => decide (y ≤ bytes q (0 + k))) R) left
  generalize (fun k : Nat => decide (y ≤ bytes q (0 + k))) = p
  by_cases e : firstK p left = 0
  · rw [if_pos e]
    by_cases e2 : firstK p R = 0
    · rw [if_pos e2]; omega
    · rw [if_neg e2]
      obtain ⟨a, b, c, d⟩ := firstK_spec e2
      have : ¬ firstK p R ≤ left := fun hl => by
        have := firstK_none.1 e _ a hl
        rw [this] at c; cases c
      omega
  · rw [if_neg e]
    obtain ⟨a, b, c, d⟩ := firstK_spec e
    have e2 : firstK p R = firstK p left := firstK_at a (by omega) d c
    rw [e2, if_neg e]
    omega
theorem wants10 {q y : Int} {m : Nat → Int} {i left : Nat} (hq : 10 ≤ q ∧ q ≤ 15) (hy : 1 ≤ y) (hl : 0 < left) : wantsP (tuD q y m i) 0 left = 1 := by
  have h0 := bytes_zero q
  have h1 := bytes_one hq
  show (if 0 < (0 : Int) ∨ y ≤ bytes q 0 then 0 else firstK (fun k => decide (bytes q 0 < bytes q (0 + k))) left) = 1
  rw [if_neg (by omega)]
  refine firstK_at (by omega) hl (fun j a b => by omega) (decide_eq_true ?_)
  rw [h0]
  show 0 < bytes q (0 + ((1 : Nat) : Int))
  rw [show (0 : Int) + ((1 : Nat) : Int) = 1 by omega]
  omega
theorem mean_in {m : Int} (h : 0 ≤ m ∧ m ≤ 67108864) : mean m = m := by unfold mean within; omega
/-- The demand that is next has the least mean of those that want blocks. -/
def tkey (q : Int) (m hs : Nat → Int) (i : Nat) : Int := mean (m i + 4 * bytes q (hs i))
theorem ahF_tu {q y : Int} {m hs : Nat → Int} (hq : 10 ≤ q ∧ q ≤ 15) (a b : Nat) : ahF (tuD q y m) hs a b = decide (tkey q m hs a < tkey q m hs b) := by
  show (if (0 : Int) = 0 then prefer q (m a + 4 * bytes q (hs a)) q (m b + 4 * bytes q (hs b)) else _) = _
  rw [if_pos rfl]
  unfold prefer tkey
  have e : within q 1048576 = q := by unfold within; omega
  rw [e]
  generalize mean (m a + 4 * bytes q (hs a)) = x
  generalize mean (m b + 4 * bytes q (hs b)) = z
  by_cases h : x < z
  · rw [decide_eq_true h]
    exact decide_eq_true (Int.mul_lt_mul_of_pos_left (by omega) (by omega))
  · rw [decide_eq_false h]
    refine decide_eq_false fun h2 => ?_
    have := Int.mul_le_mul_of_nonneg_left (a := 64 + z) (b := 64 + x) (c := q) (by omega) (by omega)
    omega
structure Tk (q y : Int) (m : Nat → Int) (R n : Nat) (s : St) : Prop where
  i : Inv2 R n s
  le : ∀ j, j < n → s.hs j ≤ covK q y R
  cov : ∀ j, j < n → 0 < s.hs j → y ≤ bytes q (s.hs j) ∨ s.left = 0
  ord : ∀ i j, i < n → j < n → s.hs i = 0 → 0 < s.hs j → m j ≤ m i
  one : ((∀ j, j < n → s.hs j = 0) ∧ s.left = R) ∨ ∃ j, j < n ∧ s.hs j = covK q y R
theorem Tk.step {q y : Int} {m : Nat → Int} {R n : Nat} {s : St} (hq : 10 ≤ q ∧ q ≤ 15) (hy : 1 ≤ y) (hR : 1 ≤ R ∧ R ≤ 12) (hm : ∀ i, i < n → 0 ≤ m i ∧ m i ≤ 67108864) (T : Tk q y m R n s) (hn : 0 ≤ nextF (tuD q y m) n s) :
    Tk q y m R n (giveS R s (nextF (tuD q y m) n s).toNat (coverP (tuD q y m (nextF (tuD q y m) n s).toNat) (s.hs (nextF (tuD q y m) n s).toNat) s.left)) := by
  obtain ⟨a, b⟩ := nextF_spec hn
  have hle := wantsP_le (tuD q y m (nextF (tuD q y m) n s).toNat) (s.hs (nextF (tuD q y m) n s).toNat) s.left
  have hf := fun i (hi : i < n) => bestP_first (ok := fun i => canF i && wantB (tuD q y m) s i) (ah := ahF (tuD q y m) s.hs) (key := tkey q m s.hs) (fun a b h => by rw [ahF_tu hq] at h; have := of_decide_eq_true h; omega) (fun a b h => by rw [ahF_tu hq] at h; have := of_decide_eq_false h; omega) (n := n) i hi
  change ∀ i, i < n → (canF i && wantB (tuD q y m) s i) = true → 0 ≤ nextF (tuD q y m) n s ∧ tkey q m s.hs (nextF (tuD q y m) n s).toNat ≤ tkey q m s.hs i at hf
  have hcs := cover_spec (d := tuD q y m (nextF (tuD q y m) n s).toNat) (h := s.hs (nextF (tuD q y m) n s).toNat) (left := s.left) (wantsP_ag b).2 (by omega)
  have hag := (wantsP_ag b).2
  generalize (nextF (tuD q y m) n s).toNat = j at *
  have hl : 0 < s.left := by omega
  have hb : bytes q (s.hs j) < y := hag
  have hnn := T.i.i.h
  have h0 : s.hs j = 0 := by
    have := (hnn j a).1
    rcases Int.lt_or_le 0 (s.hs j) with h | h
    · rcases T.cov j a h with h | h <;> omega
    · omega
  rw [h0] at hcs ⊢
  rw [cover_min q y m j T.i.i.le] at hcs ⊢
  have hkp : 0 < covK q y R := coverP_pos _ _ _ (by omega)
  have hkl : covK q y R ≤ R := coverP_le _ _ _
  have hcl : min (covK q y R) s.left ≤ s.left := by omega
  have hcp : 0 < min (covK q y R) s.left := by omega
  have hck : min (covK q y R) s.left ≤ covK q y R := by omega
  have hcov : y ≤ bytes q (min (covK q y R) s.left : Nat) ∨ s.left - min (covK q y R) s.left = 0 := by
    rcases hcs.2 with h | h
    · left
      have h' : y ≤ bytes q (0 + ((min (covK q y R) s.left : Nat) : Int)) := h
      rw [Int.zero_add] at h'
      exact h'
    · right; omega
  have hfull : s.left = R → min (covK q y R) s.left = covK q y R := fun h => by omega
  generalize min (covK q y R) s.left = c at *
  have e1 : ∀ x, (giveS R s j c).hs x = if x = j then (c : Int) else s.hs x := fun x => by
    show putI s.hs j (s.hs j + c) x = _
    unfold putI
    rw [h0, Int.zero_add]
  have e2 : (giveS R s j c).left = s.left - c := rfl
  refine ⟨T.i.give a hcl, fun x hx => ?_, fun x hx hp => ?_, fun x z hx hz hx0 hzp => ?_, ?_⟩
  · rw [e1]
    split
    · omega
    · exact T.le x hx
  · rw [e1] at hp ⊢
    rw [e2]
    by_cases e : x = j
    · rw [if_pos e]
      exact hcov
    · rw [if_neg e] at hp ⊢
      rcases T.cov x hx hp with h | h
      · exact .inl h
      · omega
  · rw [e1] at hx0 hzp
    by_cases ex : x = j
    · rw [if_pos ex] at hx0; omega
    · rw [if_neg ex] at hx0
      by_cases ez : z = j
      · subst ez
        have hw : wantB (tuD q y m) s x = true := decide_eq_true (by rw [hx0, wants10 hq hy hl]; omega)
        have := (hf x hx (by rw [hw]; rfl)).2
        unfold tkey at this
        rw [h0, hx0, bytes_zero] at this
        have b1 := hm x hx
        have b2 := hm z hz
        rw [mean_in (by omega), mean_in (by omega)] at this
        omega
      · rw [if_neg ez] at hzp
        exact T.ord x z hx hz hx0 hzp
  · right
    rcases T.one with ⟨h1, h2⟩ | ⟨z, hz, h1⟩
    · exact ⟨j, a, by rw [e1, if_pos rfl, hfull h2]⟩
    · refine ⟨z, hz, ?_⟩
      rw [e1]
      split
      · rename_i e; subst e; omega
      · exact h1
theorem tk_asg {q y : Int} {m : Nat → Int} {R n : Nat} (hq : 10 ≤ q ∧ q ≤ 15) (hy : 1 ≤ y) (hR : 1 ≤ R ∧ R ≤ 12) (hm : ∀ i, i < n → 0 ≤ m i ∧ m i ≤ 67108864) : Tk q y m R n (asg R (tuD q y m) n) := by
  have h1 : Inv2 R n (againS R (tuD q y m) n (st0 R)) ∧ ∀ i, i < n → (againS R (tuD q y m) n (st0 R)).hs i = 0 :=
    ⟨again_inv2 hR.2, fun i hi => again0 i (Int.le_refl _)⟩
  have h2 := owedS_ind (R := R) (n := n) (L := tuD q y m) (fun s => Inv2 R n s ∧ ∀ i, i < n → s.hs i = 0) (fun s hs hn => by
    obtain ⟨a, b, c⟩ := nextO_spec hn
    rw [hs.2 _ a] at c
    have c' : (0 : Int) < 0 := c
    omega) 13 _ h1
  refine fairS_ind (R := R) (n := n) (L := tuD q y m) (Tk q y m R n) (fun s T hn => T.step hq hy hR hm hn) 13 _ ?_
  generalize owedS R (tuD q y m) n 13 (againS R (tuD q y m) n (st0 R)) = s at *
  refine ⟨h2.1, fun j hj => by rw [h2.2 j hj]; omega, fun j hj hp => by rw [h2.2 j hj] at hp; omega, fun i j hi hj _ hp => by rw [h2.2 j hj] at hp; omega, .inl ⟨h2.2, ?_⟩⟩
  have hs := h2.1.sum
  rw [sumI_congr (g := fun _ => 0) fun j hj => h2.2 j hj, sumI_z0] at hs
  omega
theorem sumI_ge {f : Nat → Int} {n j : Nat} (h : ∀ i, i < n → 0 ≤ f i) (hj : j < n) : f j ≤ sumI f n := by
  induction n with
  | zero => omega
  | succ n ih =>
    have e : sumI f (n + 1) = sumI f n + f n := rfl
    have h0 := h n (by omega)
    have hs : 0 ≤ sumI f n := by
      clear ih e h0 hj
      induction n with
      | zero => exact Int.le_refl _
      | succ n ih2 => have := ih2 fun i hi => h i (by omega); have := h n (by omega); show 0 ≤ sumI f n + f n; omega
    by_cases e2 : j = n
    · subst e2; omega
    · have := ih (fun i hi => h i (by omega)) (by omega); omega
theorem sumI_mul {f : Nat → Int} (b : Int) : ∀ n : Nat, sumI (fun j => b * f j) n = b * sumI f n
  | 0 => by show (0 : Int) = b * 0; rw [Int.mul_zero]
  | n + 1 => by show sumI (fun j => b * f j) n + b * f n = b * (sumI f n + f n); rw [sumI_mul b n, Int.mul_add]
/-- What one tick gives, if someone is not served. -/
theorem tick_spec {q y : Int} {m : Nat → Int} {R n : Nat} (hq : 10 ≤ q ∧ q ≤ 15) (hy : 1 ≤ y) (hR : 3 ≤ R ∧ R ≤ 12) (hm : ∀ i, i < n → 0 ≤ m i ∧ m i ≤ 67108864) :
    (∀ j, j < n → 0 ≤ bytes q ((asg R (tuD q y m) n).hs j) ∧ bytes q ((asg R (tuD q y m) n).hs j) ≤ bytes q (covK q y R)) ∧
    ∀ i, i < n → (asg R (tuD q y m) n).hs i = 0 →
      (∀ j, j < n → bytes q ((asg R (tuD q y m) n).hs j) ≠ 0 → m j ≤ m i) ∧
      ((5 ≤ bytes q (covK q y R) ∧ bytes q (covK q y R) ≤ sumI (fun j => bytes q ((asg R (tuD q y m) n).hs j)) n) ∨
       (1 ≤ bytes q (covK q y R) ∧ 3 * bytes q (covK q y R) ≤ sumI (fun j => bytes q ((asg R (tuD q y m) n).hs j)) n)) := by
  have T := tk_asg (R := R) hq hy (by omega) hm
  have hd := fun i => asg_done (R := R) (n := n) (L := tuD q y m) hR.2 i
  have hkp : 0 < covK q y R := coverP_pos _ _ _ (by omega)
  have hkl : covK q y R ≤ R := coverP_le _ _ _
  generalize asg R (tuD q y m) n = s at *
  have hnn := fun j hj => (T.i.i.h j hj).1
  refine ⟨fun j hj => ⟨(bytes_bd _ _).1, bytes_mono (by omega) (hnn j hj) (T.le j hj) (by omega)⟩, fun i hi h0 => ⟨fun j hj hb => ?_, ?_⟩⟩
  · refine T.ord i j hi hj h0 ?_
    have := hnn j hj
    rcases Int.lt_or_le 0 (s.hs j) with h | h
    · exact h
    · rw [show s.hs j = 0 by omega, bytes_zero] at hb
      exact absurd rfl hb
  · have hl : s.left = 0 := by
      rcases Nat.eq_zero_or_pos s.left with h | h
      · exact h
      · have := hd i hi
        rw [h0, wants10 hq hy h] at this
        omega
    by_cases hk : covK q y R = 1
    · right
      rw [hk]
      refine ⟨bytes_one hq, ?_⟩
      have e : sumI (fun j => bytes q (s.hs j)) n = sumI (fun j => bytes q 1 * s.hs j) n := sumI_congr fun j hj => by
        have h1 := hnn j hj
        have h2 := T.le j hj
        rw [hk] at h2
        rcases (show s.hs j = 0 ∨ s.hs j = 1 by omega) with h | h
        · rw [h, bytes_zero, Int.mul_zero]
        · rw [h, Int.mul_one]
      rw [e, sumI_mul]
      have hs := T.i.sum
      rw [show sumI s.hs n = R by omega]
      have hb1 := bytes_one hq
      show 3 * bytes q 1 ≤ bytes q 1 * (R : Int)
      rw [Int.mul_comm]
      exact Int.mul_le_mul_of_nonneg_left (by omega) (by omega)
    · left
      refine ⟨bytes_two hq (by omega) (by omega), ?_⟩
      rcases T.one with ⟨h1, h2⟩ | ⟨j, hj, h1⟩
      · omega
      · have := sumI_ge (f := fun j => bytes q (s.hs j)) (n := n) (j := j) (fun i hi => (bytes_bd _ _).1) hj
        have this : bytes q (s.hs j) ≤ sumI (fun j => bytes q (s.hs j)) n := this
        rw [h1] at this
        exact this
end Go.Proofs.Ytdcogbokcbpnnaa
