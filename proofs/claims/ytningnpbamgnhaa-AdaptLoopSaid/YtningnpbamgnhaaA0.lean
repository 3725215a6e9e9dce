/- The plain laws of layer 30. -/
namespace Go.Proofs.Ytningnpbamgnhaa

def sz (q n : Int) : Int := min (max (96 * n * q / 32 - 18) 0 / 8) 256
def bytes (q n : Int) : Int := if 0 ≤ q ∧ q ≤ 15 ∧ 0 ≤ n ∧ n ≤ 12 then sz q n else 0
def needGo (q b : Int) : Nat → Nat → Int
  | 0, n => n
  | f + 1, n => if b ≤ bytes q n then n else needGo q b f (n + 1)
def need (q b : Int) : Int := if b ≤ 0 then 0 else needGo q b 13 0
def qual (g n : Int) : Int := if g ≤ 0 ∨ n < 0 then 0 else min (16 * min g 1048576 / (min g 1048576 + min n 1048576)) 15
def clampO (n : Int) : Int := max (-256) (min n 256)
def stepO (n : Int) : Int := if n < 0 ∨ 256 < n then 0 else n
def effective (o q : Int) : Int := if q < 1 ∨ 15 < q then 0 else min (max (q + clampO o / 16) 1) 15
def learnO (o u d : Int) (right : Bool) : Int := if right then clampO (clampO o + stepO u) else clampO (clampO o - stepO d)

theorem prod_bd (q n : Int) (h : 0 ≤ q) (h2 : q ≤ 15) (h3 : 0 ≤ n) (h4 : n ≤ 12) : 0 ≤ 96 * n * q ∧ 96 * n * q ≤ 17280 := by
  have h5 : 0 ≤ 96 * n * q := Int.mul_nonneg (by omega) h
  have h6 : 96 * n * q ≤ 1152 * 15 := Int.mul_le_mul (by omega) h2 h (by omega)
  omega
theorem sz_bd (q n : Int) : 0 ≤ sz q n ∧ sz q n ≤ 256 := by unfold sz; omega
theorem bytes_bd (q n : Int) : 0 ≤ bytes q n ∧ bytes q n ≤ 256 := by unfold bytes; split; exact sz_bd q n; omega
theorem needGo_bd (q b : Int) (f n : Nat) : n ≤ needGo q b f n ∧ needGo q b f n ≤ f + n := by
  induction f generalizing n with
  | zero => unfold needGo; omega
  | succ f ih => unfold needGo; split; omega; have := ih (n + 1); omega
theorem need_bd (q b : Int) : 0 ≤ need q b ∧ need q b ≤ 13 := by
  unfold need; split; omega; have := needGo_bd q b 13 0; omega
theorem qual_bd (g n : Int) : 0 ≤ qual g n ∧ qual g n ≤ 15 := by
  unfold qual; split; omega
  have : 0 ≤ 16 * min g 1048576 / (min g 1048576 + min n 1048576) := Int.ediv_nonneg (by omega) (by omega)
  omega
theorem clamp_bd (n : Int) : -256 ≤ clampO n ∧ clampO n ≤ 256 := by unfold clampO; omega

/-! ### AdaptGrows, AdaptNeeds: by looking at all of them -/
def growsB (q r : Nat) : Bool :=
  decide (12 ≤ r ∨ bytes q r ≤ bytes q (r + 1)) && decide (15 ≤ q ∨ bytes q r ≤ bytes (q + 1) r) && decide (need q (bytes q r) ≤ r) && decide (need q (bytes q r) < need q (bytes q r + 1))
theorem grows_all : (List.range 16).all (fun q => (List.range 13).all fun r => growsB q r) = true := by decide +kernel
theorem grows (q r : Nat) (hq : q < 16) (hr : r < 13) : (r < 12 → bytes q r ≤ bytes q (r + 1)) ∧ (q < 15 → bytes q r ≤ bytes (q + 1) r) ∧ need q (bytes q r) ≤ r ∧ need q (bytes q r) < need q (bytes q r + 1) := by
  have h := List.all_eq_true.1 (List.all_eq_true.1 grows_all q (List.mem_range.2 hq)) r (List.mem_range.2 hr)
  simp only [growsB, Bool.and_eq_true, decide_eq_true_eq] at h
  obtain ⟨⟨⟨h1, h2⟩, h3⟩, h4⟩ := h
  exact ⟨fun h => h1.resolve_left (by omega), fun h => h2.resolve_left (by omega), h3, h4⟩

def needsB (q n : Nat) : Bool :=
  let k := need q n
  if n = 0 then decide (k = 0) else if k = 13 then decide (bytes q 12 < n) else decide (1 ≤ k ∧ k ≤ 12 ∧ n ≤ bytes q k ∧ bytes q (k - 1) < n)
theorem needs_all : (List.range 16).all (fun q => (List.range 300).all fun n => needsB q n) = true := by decide +kernel
theorem needs (q n : Nat) (hq : q < 16) (hn : n < 300) : needsB q n = true :=
  List.all_eq_true.1 (List.all_eq_true.1 needs_all q (List.mem_range.2 hq)) n (List.mem_range.2 hn)

/-! ### The quality of a channel -/
theorem div_grow (g m k : Int) (hg : 0 < g) (hm : 0 ≤ m) (hk : 0 ≤ k) : 16 * g / (g + m) ≤ 16 * (g + k) / (g + k + m) := by
  rw [Int.le_ediv_iff_mul_le (by omega)]
  have h1 : 16 * g / (g + m) * (g + m) ≤ 16 * g := Int.ediv_mul_le _ (by omega)
  have h2 : 16 * g / (g + m) ≤ 16 := by
    rw [Int.ediv_le_iff_le_mul (by omega)]; omega
  have h3 : 0 ≤ 16 * g / (g + m) := Int.ediv_nonneg (by omega) (by omega)
  have h4 : 16 * g / (g + m) * k ≤ 16 * k := Int.mul_le_mul_of_nonneg_right h2 hk
  have e : 16 * g / (g + m) * (g + k + m) = 16 * g / (g + m) * (g + m) + 16 * g / (g + m) * k := by rw [← Int.mul_add]; congr 1; omega
  omega
theorem div_less (g m k : Int) (hg : 0 < g) (hm : 0 ≤ m) (hk : 0 ≤ k) : 16 * g / (g + (m + k)) ≤ 16 * g / (g + m) := by
  rw [Int.le_ediv_iff_mul_le (by omega)]
  have h1 : 16 * g / (g + (m + k)) * (g + (m + k)) ≤ 16 * g := Int.ediv_mul_le _ (by omega)
  have h3 : 0 ≤ 16 * g / (g + (m + k)) := Int.ediv_nonneg (by omega) (by omega)
  have h4 : 0 ≤ 16 * g / (g + (m + k)) * k := Int.mul_nonneg h3 hk
  have e : 16 * g / (g + (m + k)) * (g + (m + k)) = 16 * g / (g + (m + k)) * (g + m) + 16 * g / (g + (m + k)) * k := by rw [← Int.mul_add]; congr 1; omega
  omega
theorem qual_gain (g m k : Int) (hg : 0 ≤ g) (hm : 0 ≤ m) (hk : 0 ≤ k) (h1 : g ≤ 255) (h2 : m ≤ 255) (h3 : k ≤ 255) : qual g m ≤ qual (g + k) m := by
  by_cases h : g = 0
  · have : qual g m = 0 := by unfold qual; rw [if_pos (by omega)]
    have := qual_bd (g + k) m
    omega
  · unfold qual
    rw [if_neg (by omega), if_neg (by omega), show min g 1048576 = g by omega, show min m 1048576 = m by omega, show min (g + k) 1048576 = g + k by omega]
    have := div_grow g m k (by omega) hm hk
    omega
theorem qual_noise (g m k : Int) (hg : 0 ≤ g) (hm : 0 ≤ m) (hk : 0 ≤ k) (h1 : g ≤ 255) (h2 : m ≤ 255) (h3 : k ≤ 255) : qual g (m + k) ≤ qual g m := by
  by_cases h : g = 0
  · have : qual g (m + k) = 0 := by unfold qual; rw [if_pos (by omega)]
    have := qual_bd g m
    omega
  · unfold qual
    rw [if_neg (by omega), if_neg (by omega), show min g 1048576 = g by omega, show min m 1048576 = m by omega, show min (m + k) 1048576 = m + k by omega]
    have := div_less g m k (by omega) hm hk
    omega
end Go.Proofs.Ytningnpbamgnhaa
