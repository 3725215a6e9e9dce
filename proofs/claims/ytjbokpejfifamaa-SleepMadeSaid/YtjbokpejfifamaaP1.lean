/- The plain law of SleepCosts. -/
import Derived.Test.YtjbokpejfifamaaL2
import Derived.Test.YtjbokpejfifamaaS7
namespace Go.Proofs.Ytjbokpejfifamaa

/-- The sum of f over k places from x on. -/
def acc (f : Nat → Int) (x : Nat) : Nat → Int
  | 0 => 0
  | k + 1 => acc f x k + f (x + k)
theorem acc_front (f : Nat → Int) (x : Nat) : ∀ k, acc f x (k + 1) = f x + acc f (x + 1) k
  | 0 => by simp [acc]
  | k + 1 => by
    have ih := acc_front f x k
    show acc f x (k + 1) + f (x + (k + 1)) = f x + (acc f (x + 1) k + f (x + 1 + k))
    rw [ih, show x + (k + 1) = x + 1 + k by omega]; omega
theorem acc_period {f : Nat → Int} {c : Nat} (hp : ∀ x, f (x + c) = f x) (x : Nat) : acc f x c = acc f 0 c := by
  induction x with
  | zero => rfl
  | succ x ih =>
    have h1 := acc_front f x c
    have h2 : acc f x (c + 1) = acc f x c + f (x + c) := rfl
    have h3 := hp x
    omega
theorem acc_add (f : Nat → Int) (x a : Nat) : ∀ b, acc f x (a + b) = acc f x a + acc f (x + a) b
  | 0 => by simp [acc]
  | b + 1 => by
    have ih := acc_add f x a b
    show acc f x (a + b) + f (x + (a + b)) = acc f x a + (acc f (x + a) b + f (x + a + b))
    rw [ih, show x + (a + b) = x + a + b by omega]; omega
theorem acc_cycles {f : Nat → Int} {c : Nat} (hp : ∀ x, f (x + c) = f x) (x : Nat) : ∀ n, acc f x (n * c) = n * acc f 0 c
  | 0 => by simp [acc]
  | n + 1 => by
    rw [Nat.succ_mul, acc_add, acc_cycles hp x n, acc_period hp (x + n * c)]
    rw [show ((n + 1 : Nat) : Int) = n + 1 by omega, Int.add_mul, Int.one_mul]

/-- What a tick costs, by its place in the cycle. -/
def tickCost (c m : Nat) (x : Nat) : Int := if x % c < m then 10 else 1
theorem tickCost_period (c m x : Nat) : tickCost c m (x + c) = tickCost c m x := by unfold tickCost; rw [Nat.add_mod_right]
theorem acc_first (c m : Nat) : ∀ k, k ≤ c → acc (tickCost c m) 0 k = if k ≤ m then 10 * (k : Int) else 10 * m + (k - m)
  | 0, _ => by simp [acc]
  | k + 1, h => by
    have ih := acc_first c m k (by omega)
    show acc (tickCost c m) 0 k + tickCost c m (0 + k) = _
    rw [ih]
    have hk : (0 + k) % c = k := by rw [Nat.zero_add]; exact Nat.mod_eq_of_lt (by omega)
    unfold tickCost
    rw [hk]
    by_cases h1 : k < m
    · rw [if_pos h1, if_pos (by omega), if_pos (by omega)]; omega
    · rw [if_neg h1, if_neg (by omega : ¬ k + 1 ≤ m)]
      by_cases h2 : k ≤ m
      · rw [if_pos h2]; omega
      · rw [if_neg h2]; omega
theorem acc_total (c m n x : Nat) (hm : m ≤ c) : acc (tickCost c m) x (n * c) = n * ((m : Int) * 10 + (c - m)) := by
  rw [acc_cycles (tickCost_period c m), acc_first c m c (Nat.le_refl _)]
  congr 1
  split <;> omega
theorem acc_bd (c m x : Nat) : ∀ k : Nat, 0 ≤ acc (tickCost c m) x k ∧ acc (tickCost c m) x k ≤ 10 * (k : Int)
  | 0 => by simp [acc]
  | k + 1 => by
    have ih := acc_bd c m x k
    have h : 1 ≤ tickCost c m (x + k) ∧ tickCost c m (x + k) ≤ 10 := by unfold tickCost; split <;> omega
    show 0 ≤ acc (tickCost c m) x k + tickCost c m (x + k) ∧ acc (tickCost c m) x k + tickCost c m (x + k) ≤ 10 * ((k + 1 : Nat) : Int)
    omega

theorem cyc_tick {c o m : Nat} {l s h : Int} (t : Nat) (ho : o ≤ c) : cyc ⟨c, o, m, l, s, h⟩ t = decide (tickCost c m (t + c - o) = 10) := by
  unfold cyc tickCost
  have e : ((t : Int) + c - o) = ((t + c - o : Nat) : Int) := by omega
  dsimp only
  rw [e, ← Int.natCast_emod]
  rw [Bool.eq_iff_iff]
  simp only [decide_eq_true_eq]
  by_cases h : (t + c - o) % c < m
  · rw [if_pos h]; omega
  · rw [if_neg h]; omega

/-- Both batteries behind k ticks: one without receptions, one with some. -/
structure Bats (c o m : Nat) (from_ k : Nat) (ba last bb : Int) : Prop where
  a : ba = 524288 - acc (tickCost c m) (from_ + c - o) k
  b : bb ≤ ba
  bl : 524288 - 10 * (k : Int) ≤ bb
  l1 : -1 ≤ last
  l2 : k = 0 → last = -1
  l3 : last < from_ + k
theorem Bats.start (c o m from_ : Nat) : Bats c o m from_ 0 524288 (-1) 524288 := ⟨by simp [acc], by omega, by omega, by omega, fun _ => rfl, by omega⟩
theorem Bats.next {c o m from_ k : Nat} {l s h ba last bb : Int} {got : Bool} (B : Bats c o m from_ k ba last bb) (ho : o < c) (hok : okR ⟨c, o, m, l, s, h⟩ = true) (hk : k < 200) (hf : from_ ≤ 65535) :
    (stepS ⟨c, o, m, l, s, h⟩ (-1) ba (from_ + k) false).1 = -1 ∧ Bats c o m from_ (k + 1) (stepS ⟨c, o, m, l, s, h⟩ (-1) ba (from_ + k) false).2 (stepS ⟨c, o, m, l, s, h⟩ last bb (from_ + k) got).1 (stepS ⟨c, o, m, l, s, h⟩ last bb (from_ + k) got).2 := by
  have ha := B.a; have hb := B.b; have hbl := B.bl; have h1 := B.l1; have h2 := B.l2; have h3 := B.l3
  have hbd := acc_bd c m (from_ + c - o) k
  have la : lookB ⟨c, o, m, l, s, h⟩ (-1) (from_ + k) 1048576 = true := lookB_of hok (by omega) (by omega) (by omega) (by omega)
  have lb : lookB ⟨c, o, m, l, s, h⟩ last (from_ + k) 1048576 = true := lookB_of hok (by omega) (by omega) (by omega) (by omega)
  have aw := awk_none la
  have hmore := awk_more lb
  have ec : cyc ⟨c, o, m, l, s, h⟩ ((from_ : Int) + k) = decide (tickCost c m (from_ + c - o + k) = 10) := by
    have := cyc_tick (c := c) (o := o) (m := m) (l := l) (s := s) (h := h) (from_ + k) (by omega)
    rw [show ((from_ + k : Nat) : Int) = (from_ : Int) + k by omega, show from_ + k + c - o = from_ + c - o + k by omega] at this
    exact this
  have hacc : acc (tickCost c m) (from_ + c - o) (k + 1) = acc (tickCost c m) (from_ + c - o) k + tickCost c m (from_ + c - o + k) := rfl
  have htc : tickCost c m (from_ + c - o + k) = 10 ∨ tickCost c m (from_ + c - o + k) = 1 := by unfold tickCost; split <;> simp
  generalize tickCost c m (from_ + c - o + k) = tc at *
  cases hcy : cyc ⟨c, o, m, l, s, h⟩ ((from_ : Int) + k)
  · rw [hcy] at ec aw
    have ht1 : tc = 1 := by
      rcases htc with h | h
      · simp [h] at ec
      · exact h
    rw [stepS_c la (by omega) aw]
    refine ⟨rfl, ?_⟩
    cases hy : awk ⟨c, o, m, l, s, h⟩ last ((from_ : Int) + k)
    · rw [stepS_c lb (by omega) hy]
      exact ⟨by dsimp only; omega, by dsimp only; omega, by dsimp only; omega, by dsimp only; omega, fun h => by omega, by dsimp only; omega⟩
    · cases got
      · rw [stepS_d lb (by omega) hy]
        exact ⟨by dsimp only; omega, by dsimp only; omega, by dsimp only; omega, by dsimp only; omega, fun h => by omega, by dsimp only; omega⟩
      · rw [stepS_e lb (by omega) hy]
        exact ⟨by dsimp only; omega, by dsimp only; omega, by dsimp only; omega, by dsimp only; omega, fun h => by omega, by dsimp only; omega⟩
  · rw [hcy] at ec aw
    have ht1 : tc = 10 := by simpa using ec.symm
    have hy := hmore hcy
    rw [stepS_d la (by omega) aw]
    refine ⟨rfl, ?_⟩
    cases got
    · rw [stepS_d lb (by omega) hy]
      exact ⟨by dsimp only; omega, by dsimp only; omega, by dsimp only; omega, by dsimp only; omega, fun h => by omega, by dsimp only; omega⟩
    · rw [stepS_e lb (by omega) hy]
      exact ⟨by dsimp only; omega, by dsimp only; omega, by dsimp only; omega, by dsimp only; omega, fun h => by omega, by dsimp only; omega⟩
theorem Bats.done {c o m from_ n : Nat} {l s h ba last bb : Int} (B : Bats c o m from_ (n * c) ba last bb) (hm : m ≤ c) (hok : okR ⟨c, o, m, l, s, h⟩ = true) (hn : n < 6) : 524288 - ba = cost ⟨c, o, m, l, s, h⟩ n := by
  rw [cost_yes hok (by omega) (by omega), B.a, acc_total c m n _ hm]
  dsimp only
  rw [show (m : Int) * 10 + (c - m) * 1 = m * 10 + (c - m) by omega]
  omega
end Go.Proofs.Ytjbokpejfifamaa
