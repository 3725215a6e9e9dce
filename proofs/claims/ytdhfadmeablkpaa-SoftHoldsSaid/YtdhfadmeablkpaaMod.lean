/- Dice that give out the numbers of a list (radiolinkroll): contracts of Mod, Light, Roll, Next. -/
import Derived.Test.YtdhfadmeablkpaaRows
import Derived.Test.YtdhfadmeablkpaaKit
namespace Go.Proofs.Ytdhfadmeablkpaa
open Go.RowKit Go.Sort
attribute [local go_sem] gcell
set_option linter.unusedVariables false

/-- A number from 0 to n - 1. -/
def modp (x n : Int) : Int := if n < 1 then 0 else x % n
theorem modp_bd (x n : Int) (h : 1 ≤ n) : 0 ≤ modp x n ∧ modp x n < n := by
  unfold modp; rw [if_neg (by omega)]
  exact ⟨Int.emod_nonneg _ (by omega), Int.emod_lt_of_pos _ (by omega)⟩
theorem modp_nonneg (x n : Int) : 0 ≤ modp x n := by
  by_cases h : n < 1
  · unfold modp; rw [if_pos h]; omega
  · exact (modp_bd x n (by omega)).1
theorem tmod_bd (x n : Int) (h : 1 ≤ n) : -n < x.tmod n ∧ x.tmod n < n := by
  have h1 := Int.tmod_lt_of_pos x (show 0 < n by omega)
  have h2 : -n < x.tmod n := by
    have := Int.neg_tmod (a := x) (b := n)
    have h3 := Int.tmod_lt_of_pos (-x) (show 0 < n by omega)
    omega
  exact ⟨h2, h1⟩
theorem tmod_emod (x n : Int) (h : 1 ≤ n) : (x.tmod n + n) % n = x % n := by
  rw [Int.add_emod_right]
  have := Int.mul_tdiv_add_tmod x n
  have e : x % n = (n * x.tdiv n + x.tmod n) % n := by rw [this]
  rw [e, Int.add_comm, Int.add_mul_emod_self_left]

set_option maxHeartbeats 1000000 in
theorem mod_any (x n : Int) (hn : n ≤ 1000000000) (w : World) : Calls Try.prog 16 #[.int .i64 x, .int .i64 n] w fun e w' => e = .returned (.int .i64 (modp x n)) ∧ w' = w := by
  by_cases h : n < 1
  · have hm : modp x n = 0 := by unfold modp; rw [if_pos h]
    rw [hm]
    clear hm
    go_enter Try.func16, Try.ntmps16
    go_wp2
    go_ret
    exact ⟨rfl, rfl⟩
  · have hm : modp x n = (x.tmod n + n) % n := by unfold modp; rw [if_neg h, tmod_emod x n (by omega)]
    rw [hm]
    obtain ⟨t1, t2⟩ := tmod_bd x n (by omega)
    have nz : (n == 0) = false := beq_eq_false_iff_ne.2 (by omega)
    have n1 : (n == -1) = false := beq_eq_false_iff_ne.2 (by omega)
    by_cases hx : 0 ≤ x
    · have ht : x.tmod n = x % n := Int.tmod_eq_emod_of_nonneg hx
      rw [ht] at t1 t2
      rw [ht]
      clear ht hm
      go_enter Try.func16, Try.ntmps16
      go_wp2
      go_ret
      exact ⟨rfl, rfl⟩
    · clear hm
      go_enter Try.func16, Try.ntmps16
      go_wp2
      go_ret
      exact ⟨rfl, rfl⟩
end Go.Proofs.Ytdhfadmeablkpaa
