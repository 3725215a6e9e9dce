/- Layer 31: the reference's At. -/
import Derived.Test.YtfkbcjpiijcbfaaC6
namespace Go.Proofs.Ytfkbcjpiijcbfaa
set_option linter.unusedVariables false
set_option linter.unusedSimpArgs false
open Go.RowKit Go.Sort
attribute [local go_sem] gcell
set_option maxRecDepth 100000 in
set_option maxHeartbeats 4000000 in
theorem at22 (a : Option Addr) (n cp : Nat) (X : Nat → Fd) (t c f : Int) (w : World) (H : R5 w a n X) (hn : n ≤ maxLen) :
    Calls Try.prog 22 #[.slice a n cp, .int .i64 t, .int .i64 c, .int .i64 f] w fun e w' => e = .returned (.tuple #[.int .i64 (atF t c f X n).1, .int .i64 (atF t c f X n).2]) ∧ Below w.heap.size w w' := by
  have HH := Lib.hid H
  clear H
  have hn2 := hn
  unfold maxLen at hn2
  go_enter Try.func22, Try.ntmps22
  go_wp2
  go_loopw [10, 11, 12] (fun g z i wr => ∃ k : Nat, k ≤ n ∧ i = .int .i64 k ∧ g = .int .i64 (atF t c f X k).1 ∧ z = .int .i64 (atF t c f X k).2 ∧ Below w.heap.size w wr) (fun _ _ i _ => n - (intOf i).toNat)
  case atStart => exact ⟨0, Nat.zero_le _, rfl, rfl, rfl, Below.refl _ _⟩
  case round =>
    obtain ⟨k, hk, rfl, rfl, rfl, hB⟩ := hrel
    have HB := Lib.hid hB
    by_cases hlt : k < n
    · obtain ⟨b, m, h1, h2⟩ := HH.out.mono hB
      obtain rfl := h1 (by omega)
      obtain ⟨c0, c1, c2, c3, c4⟩ := h2 k hlt
      clear h1 h2 hB
      have i1 : (0 : Int) ≤ (k : Int) := by omega
      have i2 : (k : Int) < (n : Int) := by omega
      obtain ⟨q1, e1⟩ : ∃ q, ((X k).t == t) = q := ⟨_, rfl⟩
      obtain ⟨q2, e2⟩ : ∃ q, ((X k).c == c) = q := ⟨_, rfl⟩
      obtain ⟨q3, e3⟩ : ∃ q, decide ((X k).f ≤ f) = q := ⟨_, rfl⟩
      have HQ := Lib.hid (show hits t c f (X k) = (q1 && q2 && q3) by unfold hits; rw [e1, e2, e3])
      generalize (X k).t = x0 at *
      generalize (X k).c = x1 at *
      generalize (X k).f = x2 at *
      cases q1 <;> cases q2 <;> cases q3
      all_goals
        go_wp2
        first
        | exact ⟨⟨k + 1, by omega, by go_num, by rw [atF_no HQ.out], by rw [atF_no HQ.out], HB.out⟩, by simp only [intOf]; omega⟩
        | (go_quiet (fail)
           go_wp2
           exact ⟨⟨k + 1, by omega, by go_num, by rw [atF_yes HQ.out], by rw [atF_yes HQ.out], below_drewN HB.out nq⟩, by simp only [intOf]; omega⟩)
    · obtain rfl : k = n := by omega
      clear hB
      go_wp2
      go_ret2
      exact ⟨rfl, HB.out⟩
end Go.Proofs.Ytfkbcjpiijcbfaa
