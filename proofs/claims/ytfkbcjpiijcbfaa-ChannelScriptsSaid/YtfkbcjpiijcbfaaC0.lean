/- Layer 31: small functions. -/
import Derived.Test.YtfkbcjpiijcbfaaRows
import Derived.Test.YtfkbcjpiijcbfaaRow
import Derived.Test.YtfkbcjpiijcbfaaAny
import Derived.Test.YtfkbcjpiijcbfaaRowK
import Derived.RangeFuncRecord
import Derived.TacticsIn
import Derived.BigFrameIn
namespace Go.Proofs.Ytfkbcjpiijcbfaa
set_option linter.unusedVariables false
set_option linter.unusedSimpArgs false
open Go.RowKit Go.Sort
attribute [local go_sem] gcell

def btw (n l h : Int) : Bool := decide (l ≤ n ∧ n ≤ h)
theorem between18 (n l h : Int) (w : World) : Calls Try.prog 18 #[.int .i64 n, .int .i64 l, .int .i64 h] w fun e w' => e = .returned (.bool (btw n l h)) ∧ w' = w := by
  unfold btw
  by_cases h1 : l ≤ n
  · by_cases h2 : n ≤ h
    · rw [decide_eq_true ⟨h1, h2⟩]
      go_enter Try.func18, Try.ntmps18
      go_wp2
      go_ret
      exact ⟨rfl, rfl⟩
    · rw [decide_eq_false (by omega)]
      go_enter Try.func18, Try.ntmps18
      go_wp2
      go_ret
      exact ⟨rfl, rfl⟩
  · rw [decide_eq_false (by omega)]
    go_enter Try.func18, Try.ntmps18
    go_wp2
    go_ret
    exact ⟨rfl, rfl⟩
theorem numbers19 (x : Int) (w : World) : Calls Try.prog 19 #[.int .u32 x] w fun e w' => e = .returned (.func (.func 29) #[] #[.pointer (some ⟨w.heap.size, 0, none⟩)]) ∧ w' = w.alloc (.cells #[.int .u32 x] 50) := by
  go_enter Try.func19, Try.ntmps19
  go_wp2
  go_ret
  exact ⟨rfl, rfl⟩
end Go.Proofs.Ytfkbcjpiijcbfaa
