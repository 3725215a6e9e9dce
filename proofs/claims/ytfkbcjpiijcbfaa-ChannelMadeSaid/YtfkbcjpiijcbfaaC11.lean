/- Layer 31: the reference's quality. -/
import Derived.Test.YtfkbcjpiijcbfaaC8
namespace Go.Proofs.Ytfkbcjpiijcbfaa
set_option linter.unusedVariables false
set_option linter.unusedSimpArgs false
open Go.RowKit Go.Sort
attribute [local go_sem] gcell
set_option maxHeartbeats 400000 in
theorem quality32 (g n : Int) (w : World) : Calls Try.prog 32 #[.int .i64 g, .int .i64 n] w fun e w' => e = .returned (.int .i64 (qual g n)) ∧ w' = w := by
  have hc : g ≤ 0 ∨ (¬ g ≤ 0 ∧ n < 0) ∨ (¬ g ≤ 0 ∧ ¬ n < 0) := by omega
  rcases hc with h | ⟨h, h2⟩ | ⟨h, h2⟩
  · rw [qual_no _ _ (.inl h)]
    go_enter Try.func32, Try.ntmps32
    go_wp2
    go_ret
    exact ⟨rfl, rfl⟩
  · rw [qual_no _ _ (.inr h2)]
    go_enter Try.func32, Try.ntmps32
    go_wp2
    go_ret
    exact ⟨rfl, rfl⟩
  · have hg : (g ≤ 1048576 ∧ min g 1048576 = g) ∨ (1048576 < g ∧ min g 1048576 = 1048576) := by omega
    have hn : (n ≤ 1048576 ∧ min n 1048576 = n) ∨ (1048576 < n ∧ min n 1048576 = 1048576) := by omega
    rcases hg with ⟨g1, g2⟩ | ⟨g1, g2⟩ <;> rcases hn with ⟨n1, n2⟩ | ⟨n1, n2⟩
    all_goals
      rw [qual_yes _ _ h h2, g2, n2]
      clear g2 n2
      go_enter Try.func32, Try.ntmps32
      go_wp2
      all_goals
        go_ret
        exact ⟨ret_int (by omega), rfl⟩
theorem qual27 (a : Option Addr) (n cp : Nat) (X : Nat → Fd) (t c f : Int) (w : World) (H : R5 w a n X) (hn : n ≤ maxLen) :
    Calls Try.prog 27 #[.slice a n cp, .int .i64 t, .int .i64 c, .int .i64 f] w fun e w' => e = .returned (.int .i64 (qual (atF t c f X n).1 (atF t c f X n).2)) ∧ Below w.heap.size w w' := by
  have K := Lib.hid (at22 a n cp X t c f w H hn)
  clear H
  go_enter Try.func27, Try.ntmps27
  go_wp2_with fail
  refine K.out.mono ?_
  rintro e w1 ⟨rfl, hB⟩
  have HB := Lib.hid hB
  clear hB
  go_wp2_with (go_at_call 32; refine (quality32 _ _ _).mono ?_; rintro e w2 ⟨rfl, rfl⟩)
  go_ret
  exact ⟨rfl, HB.out⟩
end Go.Proofs.Ytfkbcjpiijcbfaa
