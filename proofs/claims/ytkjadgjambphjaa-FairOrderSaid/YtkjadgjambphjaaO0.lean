/- FairOrder: the plain law, and the walk of prefer. -/
import Derived.Test.YtkjadgjambphjaaW6
namespace Go.Proofs.Ytkjadgjambphjaa
open Go.RowKit Go.Sort
set_option linter.unusedVariables false
set_option linter.unusedSimpArgs false
attribute [local go_sem] gcell

theorem prefer_irrefl (r m : Int) : prefer r m r m = false := decide_eq_false (Int.lt_irrefl _)
theorem prefer_asymm {r m q n : Int} (h : prefer r m q n = true) : prefer q n r m = false := decide_eq_false (by have := of_decide_eq_true h; omega)
theorem prefer_trans {r m q n s p : Int} (h : prefer r m q n = true) (k : prefer q n s p = true) : prefer r m s p = true := by
  have h1 := of_decide_eq_true h
  have h2 := of_decide_eq_true k
  refine decide_eq_true ?_
  have a1 : 0 ≤ mean m := within_nonneg m 67108864
  have a2 : 0 ≤ mean n := within_nonneg n 67108864
  have a3 : 0 ≤ mean p := within_nonneg p 67108864
  generalize within q 1048576 = Q at *
  generalize within r 1048576 = R at *
  generalize within s 1048576 = S at *
  obtain ⟨A, hA⟩ : ∃ A, 64 + mean m = A := ⟨_, rfl⟩
  obtain ⟨B, hB⟩ : ∃ B, 64 + mean n = B := ⟨_, rfl⟩
  obtain ⟨C, hC⟩ : ∃ C, 64 + mean p = C := ⟨_, rfl⟩
  rw [hA, hB] at h1
  rw [hB, hC] at h2
  rw [hA, hC]
  have hA0 : 0 < A := by omega
  have hB0 : 0 < B := by omega
  have hC0 : 0 < C := by omega
  have e1 : (Q * A) * C < (R * B) * C := Int.mul_lt_mul_of_pos_right h1 hC0
  have e2 : (S * B) * A < (Q * C) * A := Int.mul_lt_mul_of_pos_right h2 hA0
  have e3 : (Q * A) * C = (Q * C) * A := by rw [Int.mul_assoc, Int.mul_comm A C, ← Int.mul_assoc]
  have e4 : (S * B) * A = (S * A) * B := by rw [Int.mul_assoc, Int.mul_comm B A, ← Int.mul_assoc]
  have e5 : (R * B) * C = (R * C) * B := by rw [Int.mul_assoc, Int.mul_comm B C, ← Int.mul_assoc]
  have e6 : (S * A) * B < (R * C) * B := by omega
  exact Int.lt_of_mul_lt_mul_right e6 (by omega)
theorem bestTo_spec (rs ms : Nat → Int) : ∀ k : Nat, (∀ i, i < k → 0 < rs i → 0 ≤ bestTo rs ms k ∧ prefer (rs i) (ms i) (rs (bestTo rs ms k).toNat) (ms (bestTo rs ms k).toNat) = false) ∧ (0 ≤ bestTo rs ms k → 0 < rs (bestTo rs ms k).toNat ∧ bestTo rs ms k < k)
  | 0 => ⟨fun i hi => absurd hi (Nat.not_lt_zero _), fun h => by simp [bestTo] at h⟩
  | k + 1 => by
    obtain ⟨h1, h2⟩ := bestTo_spec rs ms k
    have e : bestTo rs ms (k + 1) = pick rs ms (bestTo rs ms k) k := rfl
    rw [e]
    generalize bestTo rs ms k = b at *
    unfold pick
    split
    · rename_i hc
      refine ⟨fun i hi hr => ⟨by omega, ?_⟩, fun _ => ⟨by simpa using hc.1, by omega⟩⟩
      simp only [Int.toNat_natCast]
      by_cases hik : i = k
      · subst hik; exact prefer_irrefl _ _
      · obtain ⟨g1, g2⟩ := h1 i (by omega) hr
        cases hp : prefer (rs i) (ms i) (rs k) (ms k)
        · rfl
        · rcases hc.2 with h | h
          · omega
          · rw [prefer_trans hp h] at g2; cases g2
    · rename_i hc
      refine ⟨fun i hi hr => ?_, fun h => ⟨(h2 h).1, by have := (h2 h).2; omega⟩⟩
      by_cases hik : i = k
      · subst hik
        have hb : 0 ≤ b := by
          rcases Int.lt_or_le b 0 with h | h
          · exact absurd ⟨hr, .inl h⟩ hc
          · exact h
        refine ⟨hb, ?_⟩
        cases hp : prefer (rs i) (ms i) (rs b.toNat) (ms b.toNat)
        · rfl
        · exact absurd ⟨hr, .inr hp⟩ hc
      · exact h1 i (by omega) hr

set_option maxHeartbeats 1000000 in
theorem prefer14 (ar am : Option Addr) (cr cm : Nat) (rs ms : Nat → Int) (i k : Nat) (w : World) (R : Row w ar 3 rs) (M : Row w am 3 ms) (hi : i < 3) (hk : k < 3) :
    Calls Try.prog 14 #[.slice ar 3 cr, .slice am 3 cm, .int .i64 i, .int .i64 k] w fun e w' => e = .returned (.bool (prefer (rs i) (ms i) (rs k) (ms k))) ∧ Below w.heap.size w w' := by
  obtain ⟨br, mr, har, hrs⟩ := R
  obtain ⟨bm, mm, ham, hms⟩ := M
  obtain rfl := har (by omega)
  obtain rfl := ham (by omega)
  have a1 := hrs i hi
  have a2 := hrs k hk
  have a3 := hms i hi
  have a4 := hms k hk
  have l1 := lt_of_cell a1
  have l2 := lt_of_cell a3
  have i1 : (0 : Int) ≤ (i : Int) := by omega
  have i2 : (i : Int) < 3 := by omega
  have k1 : (0 : Int) ≤ (k : Int) := by omega
  have k2 : (k : Int) < 3 := by omega
  clear hrs hms har ham
  go_enter Try.func14, Try.ntmps14
  go_wp2_with fail
  refine wp_region_quiet_below (by kernel_rfl) (by kernel_rfl) ?_
  repeat (go_big_quiet_step (first | (go_at_call 12; exact Calls.regrown_of (prefer12 _ _ _ _ _))))
  refine wpQuiet_nil ?_
  rintro _ ⟨p, rfl⟩
  go_wp2
  go_ret
  exact ⟨rfl, below_regrown _ _ _⟩
end Go.Proofs.Ytkjadgjambphjaa
