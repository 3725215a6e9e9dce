/- Guarantees that are planned tick by tick, whoever's window ends first being served first: all windows are kept exactly if no interval asks for more than there is. Plain facts; nothing of the program is named here. -/
import Derived.ProofKit
namespace Go.Proofs.Yteokhadpenalaaa
set_option linter.unusedVariables false
set_option linter.unusedSimpArgs false
set_option linter.unusedSectionVars false

/-- A sum of n numbers. -/
def sumN (f : Nat → Int) : Nat → Int
  | 0 => 0
  | n + 1 => sumN f n + f n
theorem sumN_congr {f g : Nat → Int} : ∀ {n : Nat}, (∀ i, i < n → f i = g i) → sumN f n = sumN g n
  | 0, _ => rfl
  | n + 1, h => by
    unfold sumN
    rw [sumN_congr (n := n) fun i hi => h i (by omega), h n (by omega)]
theorem sumN_le {f g : Nat → Int} : ∀ {n : Nat}, (∀ i, i < n → f i ≤ g i) → sumN f n ≤ sumN g n
  | 0, _ => Int.le_refl _
  | n + 1, h => by
    unfold sumN
    have h1 := sumN_le (n := n) fun i hi => h i (by omega)
    have h2 := h n (by omega)
    omega
theorem sumN_lt {f g : Nat → Int} {j : Nat} : ∀ {n : Nat}, (∀ i, i < n → f i ≤ g i) → j < n → f j < g j → sumN f n < sumN g n
  | 0, _, hj, _ => absurd hj (Nat.not_lt_zero _)
  | n + 1, h, hj, hlt => by
    unfold sumN
    have h2 := h n (by omega)
    by_cases e : j = n
    · subst e
      have h1 := sumN_le (n := j) fun i hi => h i (by omega)
      omega
    · have h1 := sumN_lt (n := n) (fun i hi => h i (by omega)) (by omega) hlt
      omega
theorem sumN_add (f g : Nat → Int) : ∀ n : Nat, sumN (fun i => f i + g i) n = sumN f n + sumN g n
  | 0 => rfl
  | n + 1 => by
    unfold sumN
    rw [sumN_add f g n]
    omega
theorem sumN_zero : ∀ n : Nat, sumN (fun _ => 0) n = 0
  | 0 => rfl
  | n + 1 => by unfold sumN; rw [sumN_zero n]; rfl
def bump (g : Nat → Int) (j : Nat) : Nat → Int := fun i => if i = j then g i + 1 else g i
theorem sumN_bump (g : Nat → Int) (j : Nat) : ∀ n : Nat, sumN (bump g j) n = sumN g n + if j < n then 1 else 0
  | 0 => by simp [sumN]
  | n + 1 => by
    unfold sumN
    rw [sumN_bump g j n]
    show sumN g n + (if j < n then 1 else 0) + (if n = j then g n + 1 else g n) = _
    by_cases e : n = j
    · subst e
      rw [if_pos rfl, if_neg (by omega), if_pos (by omega)]; omega
    · rw [if_neg e]
      by_cases h : j < n
      · rw [if_pos h, if_pos (by omega)]; omega
      · rw [if_neg h, if_neg (by omega)]; omega

/-- The window of a tick begins here. -/
def rel (F W t : Int) : Int := F + (t - F) / W * W
theorem div_uniq {x q W : Int} (hW : 1 ≤ W) (h1 : q * W ≤ x) (h2 : x < q * W + W) : x / W = q := by
  have e : x = (x - q * W) + q * W := by omega
  rw [e, Int.add_mul_ediv_right _ _ (by omega), Int.ediv_eq_zero_of_lt (by omega) (by omega)]
  omega
theorem rel_bd {F W : Int} (t : Int) (hW : 1 ≤ W) : rel F W t ≤ t ∧ t < rel F W t + W := by
  have h1 := Int.emod_def (t - F) W
  have h2 := Int.emod_nonneg (t - F) (show W ≠ 0 by omega)
  have h3 := Int.emod_lt_of_pos (t - F) (show 0 < W by omega)
  rw [Int.mul_comm] at h1
  unfold rel
  omega
theorem rel_succ {F W t : Int} (hW : 1 ≤ W) (h : t + 1 < rel F W t + W) : rel F W (t + 1) = rel F W t := by
  have hb := rel_bd (F := F) t hW
  have e : (t + 1 - F) / W = (t - F) / W := by
    refine div_uniq hW ?_ ?_
    · unfold rel at hb; omega
    · unfold rel at h; omega
  unfold rel
  rw [e]
theorem rel_next {F W t : Int} (hW : 1 ≤ W) (h : rel F W t + W = t + 1) : rel F W (t + 1) = t + 1 := by
  have e : (t + 1 - F) / W = (t - F) / W + 1 := by
    refine div_uniq hW ?_ ?_
    · unfold rel at h; rw [Int.add_mul]; omega
    · unfold rel at h; rw [Int.add_mul]; omega
  unfold rel at h ⊢
  rw [e, Int.add_mul]
  omega
theorem rel_first {F W : Int} : rel F W F = F := by unfold rel; simp
theorem rel_ge {F W t : Int} (hW : 1 ≤ W) (h : F ≤ t) : F ≤ rel F W t := by
  have h1 : 0 ≤ (t - F) / W := Int.ediv_nonneg (by omega) (by omega)
  have h2 : 0 ≤ (t - F) / W * W := Int.mul_nonneg h1 (by omega)
  unfold rel
  omega

section
variable (F W B : Nat → Int) (n : Nat)

/-- The end of a tick's window, 0 if there is none yet. -/
def wto (t : Int) (i : Nat) : Int := if t < F i then 0 else rel (F i) (W i) t + W i
/-- Who is served first among the first k, and the end of its window (0 if nobody). -/
def nx (g : Nat → Int) (t : Int) : Nat → Nat × Int
  | 0 => (0, 0)
  | k + 1 => if 0 < wto F W t k ∧ g k < B k ∧ ((nx g t k).2 = 0 ∨ wto F W t k < (nx g t k).2) then (k, wto F W t k) else nx g t k
theorem nx_spec (g : Nat → Int) (t : Int) : ∀ k : Nat, ((nx F W B g t k).2 = 0 ∧ ∀ i, i < k → ¬ (0 < wto F W t i ∧ g i < B i)) ∨
    ((nx F W B g t k).1 < k ∧ 0 < (nx F W B g t k).2 ∧ g (nx F W B g t k).1 < B (nx F W B g t k).1 ∧ (nx F W B g t k).2 = wto F W t (nx F W B g t k).1 ∧ ∀ i, i < k → 0 < wto F W t i → g i < B i → (nx F W B g t k).2 ≤ wto F W t i)
  | 0 => .inl ⟨rfl, fun i hi => absurd hi (Nat.not_lt_zero _)⟩
  | k + 1 => by
    have ih := nx_spec g t k
    unfold nx
    by_cases c : 0 < wto F W t k ∧ g k < B k ∧ ((nx F W B g t k).2 = 0 ∨ wto F W t k < (nx F W B g t k).2)
    · rw [if_pos c]
      refine .inr ⟨Nat.lt_succ_self k, c.1, c.2.1, rfl, fun i hi h1 h2 => ?_⟩
      show wto F W t k ≤ _
      by_cases e : i = k
      · subst e; exact Int.le_refl _
      · rcases ih with ⟨_, h⟩ | ⟨_, h0, _, _, h⟩
        · exact absurd ⟨h1, h2⟩ (h i (by omega))
        · have := h i (by omega) h1 h2
          rcases c.2.2 with h3 | h3 <;> omega
    · rw [if_neg c]
      rcases ih with ⟨h0, h⟩ | ⟨h0, h1, h2, h3, h⟩
      · refine .inl ⟨h0, fun i hi hh => ?_⟩
        by_cases e : i = k
        · subst e; exact c ⟨hh.1, hh.2, .inl h0⟩
        · exact h i (by omega) hh
      · refine .inr ⟨by omega, h1, h2, h3, fun i hi h4 h5 => ?_⟩
        by_cases e : i = k
        · subst e
          by_cases h6 : wto F W t i < (nx F W B g t i).2
          · exact absurd ⟨h4, h5, .inr h6⟩ c
          · omega
        · exact h i (by omega) h4 h5

/-- What has been given behind k blocks of a tick. -/
def gs (g : Nat → Int) (t : Int) : Nat → Nat → Int
  | 0 => g
  | k + 1 => if (nx F W B (gs g t k) t n).2 = 0 then gs g t k else bump (gs g t k) (nx F W B (gs g t k) t n).1
/-- .. and who got them. -/
def ls (g : Nat → Int) (t : Int) : Nat → List Nat
  | 0 => []
  | k + 1 => if (nx F W B (gs F W B n g t k) t n).2 = 0 then ls g t k else ls g t k ++ [(nx F W B (gs F W B n g t k) t n).1]
theorem gs_mono (g : Nat → Int) (t : Int) (i : Nat) : ∀ (k m : Nat), gs F W B n g t k i ≤ gs F W B n g t (k + m) i
  | k, 0 => Int.le_refl _
  | k, m + 1 => by
    refine Int.le_trans (gs_mono g t i k m) ?_
    rw [← Nat.add_assoc]
    show _ ≤ (if (nx F W B (gs F W B n g t (k + m)) t n).2 = 0 then gs F W B n g t (k + m) else bump (gs F W B n g t (k + m)) (nx F W B (gs F W B n g t (k + m)) t n).1) i
    split
    · exact Int.le_refl _
    · unfold bump; split <;> omega
theorem gs_bd {g : Nat → Int} {t : Int} (h : ∀ i, i < n → 0 ≤ g i ∧ g i ≤ B i) : ∀ (k i : Nat), i < n → 0 ≤ gs F W B n g t k i ∧ gs F W B n g t k i ≤ B i
  | 0, i, hi => h i hi
  | k + 1, i, hi => by
    have ih := gs_bd h (t := t) k i hi
    show 0 ≤ (if (nx F W B (gs F W B n g t k) t n).2 = 0 then gs F W B n g t k else bump (gs F W B n g t k) (nx F W B (gs F W B n g t k) t n).1) i ∧ (if (nx F W B (gs F W B n g t k) t n).2 = 0 then gs F W B n g t k else bump (gs F W B n g t k) (nx F W B (gs F W B n g t k) t n).1) i ≤ B i
    split
    · exact ih
    · rename_i h0
      unfold bump
      split
      · rename_i e
        rcases nx_spec F W B (gs F W B n g t k) t n with ⟨h1, _⟩ | ⟨_, _, h2, _, _⟩
        · exact absurd h1 h0
        · rw [← e] at h2; omega
      · exact ih
theorem gs_sum_le (g : Nat → Int) (t : Int) : ∀ k : Nat, sumN (gs F W B n g t k) n ≤ sumN g n + k
  | 0 => by show sumN g n ≤ sumN g n + ((0 : Nat) : Int); omega
  | k + 1 => by
    have ih := gs_sum_le g t k
    show sumN (if (nx F W B (gs F W B n g t k) t n).2 = 0 then gs F W B n g t k else bump (gs F W B n g t k) (nx F W B (gs F W B n g t k) t n).1) n ≤ _
    split
    · omega
    · rw [sumN_bump]; split <;> omega
theorem gs_sum_eq (g : Nat → Int) (t : Int) : ∀ k : Nat, (∀ j, j < k → (nx F W B (gs F W B n g t j) t n).2 ≠ 0) → sumN (gs F W B n g t k) n = sumN g n + k
  | 0, _ => by show sumN g n = sumN g n + ((0 : Nat) : Int); omega
  | k + 1, h => by
    have ih := gs_sum_eq g t k fun j hj => h j (by omega)
    have h0 := h k (Nat.lt_succ_self k)
    show sumN (if (nx F W B (gs F W B n g t k) t n).2 = 0 then gs F W B n g t k else bump (gs F W B n g t k) (nx F W B (gs F W B n g t k) t n).1) n = _
    rw [if_neg h0, sumN_bump]
    rcases nx_spec F W B (gs F W B n g t k) t n with ⟨h1, _⟩ | ⟨h2, _⟩
    · exact absurd h1 h0
    · rw [if_pos h2]; omega
theorem gs_quiet (g : Nat → Int) (t : Int) (i : Nat) : ∀ k : Nat, (∀ j, j < k → (nx F W B (gs F W B n g t j) t n).2 ≠ 0 → (nx F W B (gs F W B n g t j) t n).1 ≠ i) → gs F W B n g t k i = g i
  | 0, _ => rfl
  | k + 1, h => by
    have ih := gs_quiet g t i k fun j hj => h j (by omega)
    have h0 := h k (Nat.lt_succ_self k)
    show (if (nx F W B (gs F W B n g t k) t n).2 = 0 then gs F W B n g t k else bump (gs F W B n g t k) (nx F W B (gs F W B n g t k) t n).1) i = _
    split
    · exact ih
    · rename_i h1
      unfold bump
      rw [if_neg (fun e => h0 h1 e.symm)]
      exact ih

/-- At the beginning of a tick: a new window begins with nothing. -/
def rst (g : Nat → Int) (t : Int) : Nat → Int := fun i => if F i ≤ t ∧ rel (F i) (W i) t = t then 0 else g i
/-- What each one has of its window at the beginning of tick t. -/
def got (r : Nat) : Nat → Nat → Int
  | 0 => fun _ => 0
  | t + 1 => gs F W B n (rst F W (got r t) t) t r
/-- How many windows lie between two ticks. -/
def cntR (F W : Int) (a : Nat) : Nat → Int
  | 0 => 0
  | b + 1 => cntR F W a b + if F ≤ b ∧ rel F W b + W = b + 1 ∧ (a : Int) ≤ rel F W b then 1 else 0
def dem (a b : Nat) : Int := sumN (fun i => cntR (F i) (W i) a b * B i) n
/-- Somebody's window ends at tick t's end, and not all has been given. -/
def missed (r t : Nat) : Prop := ∃ i, i < n ∧ F i ≤ t ∧ rel (F i) (W i) t + W i = t + 1 ∧ got F W B n r (t + 1) i < B i

variable (hF : ∀ i, i < n → 0 ≤ F i) (hW : ∀ i, i < n → 1 ≤ W i) (hB : ∀ i, i < n → 0 ≤ B i)
include hB in
theorem rst_bd {g : Nat → Int} {t : Int} (h : ∀ i, i < n → 0 ≤ g i ∧ g i ≤ B i) : ∀ i, i < n → 0 ≤ rst F W g t i ∧ rst F W g t i ≤ B i := fun i hi => by
  unfold rst
  split
  · exact ⟨Int.le_refl _, hB i hi⟩
  · exact h i hi
include hB in
theorem got_bd (r : Nat) : ∀ (t i : Nat), i < n → 0 ≤ got F W B n r t i ∧ got F W B n r t i ≤ B i
  | 0, i, hi => ⟨Int.le_refl _, hB i hi⟩
  | t + 1, i, hi => gs_bd F W B n (rst_bd F W B n hB (got_bd r t)) r i hi
/-- What is given in tick t. -/
def gv (r t i : Nat) : Int := got F W B n r (t + 1) i - rst F W (got F W B n r t) t i
theorem gv_nonneg (r t i : Nat) : 0 ≤ gv F W B n r t i := by
  have := gs_mono F W B n (rst F W (got F W B n r t) t) t i 0 r
  rw [Nat.zero_add] at this
  show 0 ≤ gs F W B n (rst F W (got F W B n r t) t) t r i - rst F W (got F W B n r t) t i
  have h : gs F W B n (rst F W (got F W B n r t) t) t 0 i = rst F W (got F W B n r t) t i := rfl
  omega
theorem gv_sum (r t : Nat) : sumN (gv F W B n r t) n ≤ r := by
  have h := gs_sum_le F W B n (rst F W (got F W B n r t) t) t r
  have e : sumN (got F W B n r (t + 1)) n = sumN (fun i => gv F W B n r t i + rst F W (got F W B n r t) t i) n := sumN_congr fun i _ => by unfold gv; omega
  rw [sumN_add] at e
  have e2 : sumN (got F W B n r (t + 1)) n = sumN (gs F W B n (rst F W (got F W B n r t) t) t r) n := rfl
  omega
/-- What has been given from tick a on. -/
def giv (r a i : Nat) : Nat → Int
  | 0 => 0
  | k + 1 => giv r a i k + gv F W B n r (a + k) i
theorem giv_sum (r a : Nat) : ∀ k : Nat, sumN (fun i => giv F W B n r a i k) n ≤ r * k
  | 0 => by rw [show (fun i => giv F W B n r a i 0) = fun _ => 0 from rfl, sumN_zero]; simp
  | k + 1 => by
    have h1 := giv_sum r a k
    have h2 := gv_sum F W B n r (a + k)
    have e : sumN (fun i => giv F W B n r a i (k + 1)) n = sumN (fun i => giv F W B n r a i k + gv F W B n r (a + k) i) n := rfl
    rw [e, sumN_add]
    have e3 : (r : Int) * ((k + 1 : Nat) : Int) = r * k + r := by rw [Int.natCast_succ, Int.mul_add, Int.mul_one]
    rw [e3]
    have e4 : sumN (fun i => gv F W B n r (a + k) i) n = sumN (gv F W B n r (a + k)) n := rfl
    omega

/-- In the midst of a window that began at tick a or later. -/
def mid (a : Nat) (i : Nat) (t : Nat) : Prop := F i ≤ t ∧ rel (F i) (W i) t < t ∧ (a : Int) ≤ rel (F i) (W i) t
include hF hW hB in
theorem kept_low {r a i : Nat} (hi : i < n) : ∀ k : Nat, (∀ t, t < a + k → ¬ missed F W B n r t) →
    cntR (F i) (W i) a (a + k) * B i ≤ giv F W B n r a i k ∧ (mid F W a i (a + k) → cntR (F i) (W i) a (a + k) * B i + got F W B n r (a + k) i ≤ giv F W B n r a i k)
  | 0, _ => by
    have h0 : ∀ b : Nat, b ≤ a → cntR (F i) (W i) a b = 0 := fun b => by
      induction b with
      | zero => intro _; rfl
      | succ b ih =>
        intro hb
        unfold cntR
        rw [ih (by omega)]
        have := rel_bd (F := F i) (b : Int) (hW i hi)
        rw [if_neg (by omega)]
        rfl
    rw [Nat.add_zero, h0 a (Nat.le_refl _), Int.zero_mul]
    refine ⟨Int.le_refl _, fun hm => ?_⟩
    have := hm.2
    omega
  | k + 1, hk => by
    obtain ⟨ih1, ih2⟩ := kept_low (r := r) (a := a) hi k fun t ht => hk t (by omega)
    have hm := hk (a + k) (by omega)
    have hg := gv_nonneg F W B n r (a + k) i
    have hgb := got_bd F W B n hB r (a + k) i hi
    have hw := hW i hi
    have hb := rel_bd (F := F i) ((a + k : Nat) : Int) hw
    rw [show a + (k + 1) = a + k + 1 from rfl]
    have eg : giv F W B n r a i (k + 1) = giv F W B n r a i k + gv F W B n r (a + k) i := rfl
    have ec : cntR (F i) (W i) a (a + k + 1) = cntR (F i) (W i) a (a + k) + if F i ≤ ((a + k : Nat) : Int) ∧ rel (F i) (W i) ((a + k : Nat) : Int) + W i = ((a + k : Nat) : Int) + 1 ∧ (a : Int) ≤ rel (F i) (W i) ((a + k : Nat) : Int) then 1 else 0 := rfl
    rw [eg, ec]
    generalize a + k = t at *
    have es : gv F W B n r t i = got F W B n r (t + 1) i - rst F W (got F W B n r t) t i := rfl
    by_cases c1 : F i ≤ (t : Int)
    · by_cases c2 : (a : Int) ≤ rel (F i) (W i) t
      · have hlow : cntR (F i) (W i) a t * B i + got F W B n r (t + 1) i ≤ giv F W B n r a i k + gv F W B n r t i := by
          rw [es]
          by_cases c3 : rel (F i) (W i) t = t
          · have er : rst F W (got F W B n r t) t i = 0 := by unfold rst; rw [if_pos ⟨c1, c3⟩]
            rw [er]; omega
          · have er : rst F W (got F W B n r t) t i = got F W B n r t i := by unfold rst; rw [if_neg (fun h => c3 h.2)]
            rw [er]
            have := ih2 ⟨c1, by omega, c2⟩
            omega
        by_cases c4 : rel (F i) (W i) t + W i = (t : Int) + 1
        · rw [if_pos ⟨c1, c4, c2⟩, Int.add_mul, Int.one_mul]
          have hk2 : B i ≤ got F W B n r (t + 1) i := Int.not_lt.1 fun hlt => hm ⟨i, hi, c1, c4, hlt⟩
          refine ⟨by omega, fun hmid => ?_⟩
          have := rel_next hw c4
          have h3 := hmid.2.1
          rw [Int.natCast_succ, this] at h3
          omega
        · rw [if_neg (fun h => c4 h.2.1), Int.add_zero]
          have := (got_bd F W B n hB r (t + 1) i hi).1
          exact ⟨by omega, fun _ => hlow⟩
      · rw [if_neg (fun h => c2 h.2.2), Int.add_zero]
        refine ⟨by omega, fun hmid => ?_⟩
        exfalso
        have h3 := hmid.2
        rw [Int.natCast_succ] at h3
        by_cases c4 : rel (F i) (W i) t + W i = (t : Int) + 1
        · rw [rel_next hw c4] at h3; omega
        · rw [rel_succ hw (by omega)] at h3; omega
    · rw [if_neg (fun h => c1 h.1), Int.add_zero]
      refine ⟨by omega, fun hmid => ?_⟩
      exfalso
      have h3 := hmid
      unfold mid at h3
      rw [Int.natCast_succ] at h3
      have : F i = (t : Int) + 1 := by omega
      rw [← this, rel_first] at h3
      omega
include hF hW hB in
/-- What is kept asks for no more than there is. -/
theorem edf_only {r h : Nat} (hk : ∀ t, t < h → ¬ missed F W B n r t) {a b : Nat} (hab : a ≤ b) (hb : b ≤ h) : dem F W B n a b ≤ r * ((b : Int) - a) := by
  obtain ⟨k, rfl⟩ : ∃ k, b = a + k := ⟨b - a, by omega⟩
  have h1 : dem F W B n a (a + k) ≤ sumN (fun i => giv F W B n r a i k) n := sumN_le fun i hi => (kept_low F W B n hF hW hB (r := r) (a := a) hi k (fun t ht => hk t (by omega))).1
  have h2 := giv_sum F W B n r a k
  rw [show ((a + k : Nat) : Int) - a = k by omega]
  omega

/-- Who is served next in tick t behind j blocks, and the end of its window. -/
def st (r t j : Nat) : Nat × Int := nx F W B (gs F W B n (rst F W (got F W B n r t) t) t j) t n
/-- All blocks of a tick go to windows that end at d or earlier. -/
def busy (r d t : Nat) : Prop := ∀ j, j < r → (st F W B n r t j).2 ≠ 0 ∧ (st F W B n r t j).2 ≤ d
theorem first_of {P : Nat → Prop} : ∀ t0 : Nat, P t0 → ∃ a, a ≤ t0 ∧ (∀ t, a ≤ t → t ≤ t0 → P t) ∧ (a = 0 ∨ ∃ b, a = b + 1 ∧ ¬ P b)
  | 0, h => ⟨0, Nat.le_refl _, fun t h1 h2 => (show t = 0 by omega) ▸ h, .inl rfl⟩
  | t0 + 1, h => by
    by_cases c : P t0
    · obtain ⟨a, h1, h2, h3⟩ := first_of t0 c
      refine ⟨a, by omega, fun t h4 h5 => ?_, h3⟩
      by_cases e : t = t0 + 1
      · rw [e]; exact h
      · exact h2 t h4 (by omega)
    · exact ⟨t0 + 1, Nat.le_refl _, fun t h1 h2 => (show t = t0 + 1 by omega) ▸ h, .inr ⟨t0, rfl, c⟩⟩
theorem busy_last {r t0 i : Nat} (hi : i < n) (h1 : F i ≤ t0) (h2 : rel (F i) (W i) t0 + W i = t0 + 1) (h3 : got F W B n r (t0 + 1) i < B i) : busy F W B n r (t0 + 1) t0 := fun j hj => by
  have hm := gs_mono F W B n (rst F W (got F W B n r t0) t0) t0 i j (r - j)
  rw [show j + (r - j) = r by omega] at hm
  have hg : gs F W B n (rst F W (got F W B n r t0) t0) t0 r i = got F W B n r (t0 + 1) i := rfl
  have hw : wto F W t0 i = t0 + 1 := by unfold wto; rw [if_neg (by omega)]; exact h2
  unfold st
  rcases nx_spec F W B (gs F W B n (rst F W (got F W B n r t0) t0) t0 j) t0 n with ⟨_, h⟩ | ⟨_, h4, _, _, h⟩
  · exact absurd ⟨by omega, by omega⟩ (h i hi)
  · have := h i hi (by omega) (by omega)
    omega
include hF hW in
/-- Where the run of busy ticks begins, all that had begun earlier is complete. -/
theorem full_at {r d a : Nat} (ha : a = 0 ∨ ∃ b, a = b + 1 ∧ ¬ busy F W B n r d b) {i : Nat} (hi : i < n) (h1 : F i ≤ a) (h2 : rel (F i) (W i) a < a) (h3 : rel (F i) (W i) a + W i ≤ d) : B i ≤ got F W B n r a i := by
  have hw := hW i hi
  have hf := hF i hi
  have hge := rel_ge hw h1
  rcases ha with rfl | ⟨b, rfl, hb⟩
  · omega
  · have hbd := rel_bd (F := F i) (b : Int) hw
    have er : rel (F i) (W i) ((b + 1 : Nat) : Int) = rel (F i) (W i) b := by
      rw [Int.natCast_succ] at h2 ⊢
      by_cases c : rel (F i) (W i) b + W i = (b : Int) + 1
      · rw [rel_next hw c] at h2; omega
      · exact rel_succ hw (by omega)
    rw [er] at h2 h3 hge
    have hfb : F i ≤ (b : Int) := by omega
    have hwt : wto F W b i = rel (F i) (W i) b + W i := by unfold wto; rw [if_neg (by omega)]
    have hx : ∃ j, j < r ∧ ¬ ((st F W B n r b j).2 ≠ 0 ∧ (st F W B n r b j).2 ≤ d) := by
      refine Classical.byContradiction fun hn => hb fun j hj => Classical.byContradiction fun hc => hn ⟨j, hj, hc⟩
    obtain ⟨j, hj, hc⟩ := hx
    have hm := gs_mono F W B n (rst F W (got F W B n r b) b) b i j (r - j)
    rw [show j + (r - j) = r by omega] at hm
    have hg : gs F W B n (rst F W (got F W B n r b) b) b r i = got F W B n r (b + 1) i := rfl
    refine Int.not_lt.1 fun hlt => hc ?_
    unfold st
    rcases nx_spec F W B (gs F W B n (rst F W (got F W B n r b) b) b j) b n with ⟨_, h⟩ | ⟨_, h4, _, _, h⟩
    · exact absurd ⟨by omega, by omega⟩ (h i hi)
    · have := h i hi (by omega) (by omega)
      exact ⟨by omega, by omega⟩
include hF hW in
theorem full_on {r d a : Nat} (ha : a = 0 ∨ ∃ b, a = b + 1 ∧ ¬ busy F W B n r d b) {i : Nat} (hi : i < n) : ∀ k : Nat, F i ≤ ((a + k : Nat) : Int) → rel (F i) (W i) ((a + k : Nat) : Int) < a → rel (F i) (W i) ((a + k : Nat) : Int) + W i ≤ d → B i ≤ got F W B n r (a + k) i
  | 0, h1, h2, h3 => full_at F W B n hF hW ha hi h1 h2 h3
  | k + 1, h1, h2, h3 => by
    have hw := hW i hi
    have hge := rel_ge hw h1
    have hbd := rel_bd (F := F i) ((a + k : Nat) : Int) hw
    rw [show a + (k + 1) = a + k + 1 from rfl] at h1 h2 h3 hge ⊢
    rw [Int.natCast_succ] at h1 h2 h3 hge
    have er : rel (F i) (W i) (((a + k : Nat) : Int) + 1) = rel (F i) (W i) ((a + k : Nat) : Int) := by
      by_cases c : rel (F i) (W i) ((a + k : Nat) : Int) + W i = ((a + k : Nat) : Int) + 1
      · rw [rel_next hw c] at h2; omega
      · exact rel_succ hw (by omega)
    rw [er] at h2 h3 hge
    have ih := full_on ha hi k (by omega) h2 h3
    have hm := gs_mono F W B n (rst F W (got F W B n r (a + k)) ((a + k : Nat) : Int)) ((a + k : Nat) : Int) i 0 r
    rw [Nat.zero_add] at hm
    have e0 : gs F W B n (rst F W (got F W B n r (a + k)) ((a + k : Nat) : Int)) ((a + k : Nat) : Int) 0 i = got F W B n r (a + k) i := by
      show rst F W (got F W B n r (a + k)) ((a + k : Nat) : Int) i = _
      unfold rst
      rw [if_neg (fun h => by have := h.2; omega)]
    have e1 : gs F W B n (rst F W (got F W B n r (a + k)) ((a + k : Nat) : Int)) ((a + k : Nat) : Int) r i = got F W B n r (a + k + 1) i := rfl
    omega
include hF hW in
/-- In the run of busy ticks only windows within it get anything. -/
theorem gv_zero {r d a : Nat} (ha : a = 0 ∨ ∃ b, a = b + 1 ∧ ¬ busy F W B n r d b) {k : Nat} (hb : busy F W B n r d (a + k)) {i : Nat} (hi : i < n)
    (hc : ¬ (F i ≤ ((a + k : Nat) : Int) ∧ (a : Int) ≤ rel (F i) (W i) ((a + k : Nat) : Int) ∧ rel (F i) (W i) ((a + k : Nat) : Int) + W i ≤ d)) : gv F W B n r (a + k) i = 0 := by
  have hq := gs_quiet F W B n (rst F W (got F W B n r (a + k)) ((a + k : Nat) : Int)) ((a + k : Nat) : Int) i r fun j hj h0 he => by
    obtain ⟨h1, h2⟩ := hb j hj
    unfold st at h1 h2
    rcases nx_spec F W B (gs F W B n (rst F W (got F W B n r (a + k)) ((a + k : Nat) : Int)) ((a + k : Nat) : Int) j) ((a + k : Nat) : Int) n with ⟨h, _⟩ | ⟨_, h4, h5, h6, _⟩
    · exact h0 h
    · rw [he] at h5 h6
      rw [h6] at h2 h4
      have hf : F i ≤ ((a + k : Nat) : Int) := by
        refine Int.not_lt.1 fun hlt => ?_
        unfold wto at h4
        rw [if_pos hlt] at h4
        omega
      unfold wto at h2
      rw [if_neg (by omega)] at h2
      by_cases c : (a : Int) ≤ rel (F i) (W i) ((a + k : Nat) : Int)
      · exact hc ⟨hf, c, h2⟩
      · have hfull := full_on F W B n hF hW ha hi k hf (by omega) h2
        have hm := gs_mono F W B n (rst F W (got F W B n r (a + k)) ((a + k : Nat) : Int)) ((a + k : Nat) : Int) i 0 j
        rw [Nat.zero_add] at hm
        have e0 : gs F W B n (rst F W (got F W B n r (a + k)) ((a + k : Nat) : Int)) ((a + k : Nat) : Int) 0 i = got F W B n r (a + k) i := by
          show rst F W (got F W B n r (a + k)) ((a + k : Nat) : Int) i = _
          unfold rst
          rw [if_neg (fun h => by have := h.2; omega)]
        omega
  show gs F W B n (rst F W (got F W B n r (a + k)) ((a + k : Nat) : Int)) ((a + k : Nat) : Int) r i - rst F W (got F W B n r (a + k)) ((a + k : Nat) : Int) i = 0
  omega
theorem gv_all {r d t : Nat} (hb : busy F W B n r d t) : sumN (gv F W B n r t) n = r := by
  have h := gs_sum_eq F W B n (rst F W (got F W B n r t) t) t r fun j hj => (hb j hj).1
  have e : sumN (got F W B n r (t + 1)) n = sumN (fun i => gv F W B n r t i + rst F W (got F W B n r t) t i) n := sumN_congr fun i _ => by unfold gv; omega
  rw [sumN_add] at e
  have e2 : sumN (got F W B n r (t + 1)) n = sumN (gs F W B n (rst F W (got F W B n r t) t) t r) n := rfl
  have e3 : sumN (fun i => gv F W B n r t i) n = sumN (gv F W B n r t) n := rfl
  omega
theorem giv_all {r d a : Nat} : ∀ k : Nat, (∀ u, u < k → busy F W B n r d (a + u)) → sumN (fun i => giv F W B n r a i k) n = r * k
  | 0, _ => by rw [show (fun i => giv F W B n r a i 0) = fun _ => 0 from rfl, sumN_zero]; simp
  | k + 1, h => by
    have h1 := giv_all k fun u hu => h u (by omega)
    have h2 := gv_all F W B n (h k (Nat.lt_succ_self k))
    have e : sumN (fun i => giv F W B n r a i (k + 1)) n = sumN (fun i => giv F W B n r a i k + gv F W B n r (a + k) i) n := rfl
    rw [e, sumN_add]
    have e3 : (r : Int) * ((k + 1 : Nat) : Int) = r * k + r := by rw [Int.natCast_succ, Int.mul_add, Int.mul_one]
    rw [e3]
    have e4 : sumN (fun i => gv F W B n r (a + k) i) n = sumN (gv F W B n r (a + k)) n := rfl
    omega
/-- .. and that ends at d or earlier. -/
def midTo (a d : Nat) (i : Nat) (t : Nat) : Prop := F i ≤ t ∧ rel (F i) (W i) t < t ∧ (a : Int) ≤ rel (F i) (W i) t ∧ rel (F i) (W i) t + W i ≤ d
theorem cntR_zero {F W : Int} (hW : 1 ≤ W) (a : Nat) : ∀ b : Nat, b ≤ a → cntR F W a b = 0
  | 0, _ => rfl
  | b + 1, h => by
    unfold cntR
    rw [cntR_zero hW a b (by omega)]
    have := rel_bd (F := F) (b : Int) hW
    rw [if_neg (by omega)]
    rfl
include hF hW hB in
theorem giv_up {r d a i : Nat} (ha : a = 0 ∨ ∃ b, a = b + 1 ∧ ¬ busy F W B n r d b) (hi : i < n) : ∀ k : Nat, a + k ≤ d → (∀ u, u < k → busy F W B n r d (a + u)) →
    (midTo F W a d i (a + k) → giv F W B n r a i k ≤ cntR (F i) (W i) a (a + k) * B i + got F W B n r (a + k) i) ∧ (¬ midTo F W a d i (a + k) → giv F W B n r a i k ≤ cntR (F i) (W i) a (a + k) * B i)
  | 0, _, _ => by
    rw [Nat.add_zero, cntR_zero (hW i hi) a a (Nat.le_refl _), Int.zero_mul]
    have := (got_bd F W B n hB r a i hi).1
    exact ⟨fun _ => by show (0 : Int) ≤ _; omega, fun _ => Int.le_refl _⟩
  | k + 1, hd, hk => by
    obtain ⟨ih1, ih2⟩ := giv_up ha hi k (by omega) fun u hu => hk u (by omega)
    have hz := gv_zero F W B n hF hW ha (hk k (Nat.lt_succ_self k)) hi
    have hgb := got_bd F W B n hB r (a + k) i hi
    have hgb2 := got_bd F W B n hB r (a + k + 1) i hi
    have hw := hW i hi
    have hb := rel_bd (F := F i) ((a + k : Nat) : Int) hw
    have eg : giv F W B n r a i (k + 1) = giv F W B n r a i k + gv F W B n r (a + k) i := rfl
    have ec : cntR (F i) (W i) a (a + k + 1) = cntR (F i) (W i) a (a + k) + if F i ≤ ((a + k : Nat) : Int) ∧ rel (F i) (W i) ((a + k : Nat) : Int) + W i = ((a + k : Nat) : Int) + 1 ∧ (a : Int) ≤ rel (F i) (W i) ((a + k : Nat) : Int) then 1 else 0 := rfl
    have hd' : ((a + k : Nat) : Int) + 1 ≤ d := by omega
    rw [show a + (k + 1) = a + k + 1 from rfl, eg, ec]
    clear hd hk eg ec
    generalize a + k = t at *
    have es : gv F W B n r t i = got F W B n r (t + 1) i - rst F W (got F W B n r t) t i := rfl
    by_cases c : F i ≤ (t : Int) ∧ (a : Int) ≤ rel (F i) (W i) t ∧ rel (F i) (W i) t + W i ≤ d
    · obtain ⟨c1, c2, c5⟩ := c
      have hlow : giv F W B n r a i k + gv F W B n r t i ≤ cntR (F i) (W i) a t * B i + got F W B n r (t + 1) i := by
        rw [es]
        by_cases c3 : rel (F i) (W i) t = t
        · have er : rst F W (got F W B n r t) t i = 0 := by unfold rst; rw [if_pos ⟨c1, c3⟩]
          have := ih2 fun hm => by have := hm.2.1; omega
          rw [er]; omega
        · have er : rst F W (got F W B n r t) t i = got F W B n r t i := by unfold rst; rw [if_neg (fun h => c3 h.2)]
          rw [er]
          have := ih1 ⟨c1, by omega, c2, c5⟩
          omega
      by_cases c4 : rel (F i) (W i) t + W i = (t : Int) + 1
      · rw [if_pos ⟨c1, c4, c2⟩, Int.add_mul, Int.one_mul]
        exact ⟨fun _ => by omega, fun _ => by omega⟩
      · rw [if_neg (fun h => c4 h.2.1), Int.add_zero]
        refine ⟨fun _ => hlow, fun hm => ?_⟩
        exfalso
        refine hm ?_
        unfold midTo
        rw [Int.natCast_succ, rel_succ hw (by omega)]
        exact ⟨by omega, by omega, c2, c5⟩
    · rw [if_neg (fun h => c ⟨h.1, h.2.2, by omega⟩), Int.add_zero, hz c]
      have := ih2 fun hm => c ⟨hm.1, hm.2.2.1, hm.2.2.2⟩
      exact ⟨fun _ => by omega, fun _ => by omega⟩
include hF hW hB in
/-- If no interval asks for more than there is, all is kept. -/
theorem edf_if {r h : Nat} (hd : ∀ a b : Nat, a < b → b ≤ h → dem F W B n a b ≤ r * ((b : Int) - a)) : ∀ t, t < h → ¬ missed F W B n r t := by
  intro t0 ht0 hm
  obtain ⟨i, hi, h1, h2, h3⟩ := hm
  have hb0 := busy_last F W B n hi h1 h2 h3
  obtain ⟨a, ha0, hbusy, ha⟩ := first_of t0 hb0
  obtain ⟨k, rfl⟩ : ∃ k, t0 = a + k := ⟨t0 - a, by omega⟩
  have hbk : ∀ u, u < k + 1 → busy F W B n r (a + k + 1) (a + u) := fun u hu => hbusy (a + u) (by omega) (by omega)
  have hall := giv_all F W B n (a := a) (k + 1) hbk
  have hle : ∀ j, j < n → giv F W B n r a j (k + 1) ≤ cntR (F j) (W j) a (a + k + 1) * B j := fun j hj => by
    refine (giv_up F W B n hF hW hB ha hj (k + 1) (by omega) hbk).2 fun hm => ?_
    have h5 := hm.2.2.2
    have := (rel_bd (F := F j) ((a + (k + 1) : Nat) : Int) (hW j hj)).2
    omega
  have hw := hW i hi
  have hlt : giv F W B n r a i (k + 1) < cntR (F i) (W i) a (a + k + 1) * B i := by
    have ec : cntR (F i) (W i) a (a + k + 1) = cntR (F i) (W i) a (a + k) + if F i ≤ ((a + k : Nat) : Int) ∧ rel (F i) (W i) ((a + k : Nat) : Int) + W i = ((a + k : Nat) : Int) + 1 ∧ (a : Int) ≤ rel (F i) (W i) ((a + k : Nat) : Int) then 1 else 0 := rfl
    have es : gv F W B n r (a + k) i = got F W B n r (a + k + 1) i - rst F W (got F W B n r (a + k)) ((a + k : Nat) : Int) i := rfl
    have eg : giv F W B n r a i (k + 1) = giv F W B n r a i k + gv F W B n r (a + k) i := rfl
    by_cases c2 : (a : Int) ≤ rel (F i) (W i) ((a + k : Nat) : Int)
    · obtain ⟨u1, u2⟩ := giv_up F W B n hF hW hB ha hi k (by omega) fun u hu => hbk u (by omega)
      rw [ec, if_pos ⟨h1, h2, c2⟩, Int.add_mul, Int.one_mul, eg, es]
      by_cases c3 : rel (F i) (W i) ((a + k : Nat) : Int) = ((a + k : Nat) : Int)
      · have er : rst F W (got F W B n r (a + k)) ((a + k : Nat) : Int) i = 0 := by unfold rst; rw [if_pos ⟨h1, c3⟩]
        have := u2 fun hm => by have := hm.2.1; omega
        rw [er]; omega
      · have er : rst F W (got F W B n r (a + k)) ((a + k : Nat) : Int) i = got F W B n r (a + k) i := by unfold rst; rw [if_neg (fun h => c3 h.2)]
        rw [er]
        have := (rel_bd (F := F i) ((a + k : Nat) : Int) hw).1
        have := u1 ⟨h1, by omega, c2, by omega⟩
        omega
    · exfalso
      have hfull := full_on F W B n hF hW ha hi k h1 (by omega) (by omega)
      have hmo := gs_mono F W B n (rst F W (got F W B n r (a + k)) ((a + k : Nat) : Int)) ((a + k : Nat) : Int) i 0 r
      rw [Nat.zero_add] at hmo
      have e0 : gs F W B n (rst F W (got F W B n r (a + k)) ((a + k : Nat) : Int)) ((a + k : Nat) : Int) 0 i = got F W B n r (a + k) i := by
        show rst F W (got F W B n r (a + k)) ((a + k : Nat) : Int) i = _
        unfold rst
        rw [if_neg (fun h => by have := h.2; omega)]
      have e1 : gs F W B n (rst F W (got F W B n r (a + k)) ((a + k : Nat) : Int)) ((a + k : Nat) : Int) r i = got F W B n r (a + k + 1) i := rfl
      omega
  have hsum := sumN_lt hle hi hlt
  have hdem := hd a (a + k + 1) (by omega) (by omega)
  have e : dem F W B n a (a + k + 1) = sumN (fun i => cntR (F i) (W i) a (a + k + 1) * B i) n := rfl
  rw [show (((a + k + 1 : Nat) : Int) - a) = ((k + 1 : Nat) : Int) by omega] at hdem
  omega
end
end Go.Proofs.Yteokhadpenalaaa
