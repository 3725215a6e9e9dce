/- Layer 31: the reference's Noise, out of range. -/
import Derived.Test.YtfkbcjpiijcbfaaC4
namespace Go.Proofs.Ytfkbcjpiijcbfaa
set_option linter.unusedVariables false
set_option linter.unusedSimpArgs false
open Go.RowKit Go.Sort
attribute [local go_sem] gcell
set_option maxRecDepth 100000 in
set_option maxHeartbeats 8000000 in
theorem noise23_err (s te ce ti n m : Int) (w : World) (h : nzOk s te ce ti n m = false) : Calls Try.prog 23 #[.int .i64 s, .int .i64 te, .int .i64 ce, .int .i64 ti, .int .i64 n, .int .i64 m] w (NoiseR s te ce ti n m w) := by
  have FIN := Lib.hid (show NoiseR s te ce ti n m w (.returned (.tuple #[.slice none 0 0, .int .i64 3])) w from ⟨none, 0, 0, by rw [h]; rfl, by rw [h]; rfl, Nat.le_refl _, by omega, fun _ => rfl, Row.zero _ _ _, Below.refl _ _⟩)
  have H := Lib.hid (show ¬ (0 ≤ s ∧ s ≤ 1048576 ∧ 0 ≤ te ∧ te ≤ 65536 ∧ 0 ≤ ce ∧ ce ≤ 65536 ∧ 0 ≤ ti ∧ ti ≤ 1048576 ∧ 0 ≤ n ∧ n ≤ 1152 ∧ 0 ≤ m ∧ m ≤ 1000) from fun hh => by
    unfold nzOk btw at h
    rw [← Bool.not_eq_true] at h
    apply h
    simp only [Bool.and_eq_true, decide_eq_true_eq]
    omega)
  clear h
  rcases (show s < 0 ∨ 0 ≤ s by omega) with ds0 | ds0
  · go_enter Try.func23, Try.ntmps23
    go_wp2
    go_ret2
    exact FIN.out
  rcases (show 1048576 < s ∨ s ≤ 1048576 by omega) with ds1 | ds1
  · go_enter Try.func23, Try.ntmps23
    go_wp2
    go_ret2
    exact FIN.out
  rcases (show te < 0 ∨ 0 ≤ te by omega) with dte0 | dte0
  · go_enter Try.func23, Try.ntmps23
    go_wp2
    go_ret2
    exact FIN.out
  rcases (show 65536 < te ∨ te ≤ 65536 by omega) with dte1 | dte1
  · go_enter Try.func23, Try.ntmps23
    go_wp2
    go_ret2
    exact FIN.out
  rcases (show ce < 0 ∨ 0 ≤ ce by omega) with dce0 | dce0
  · go_enter Try.func23, Try.ntmps23
    go_wp2
    go_ret2
    exact FIN.out
  rcases (show 65536 < ce ∨ ce ≤ 65536 by omega) with dce1 | dce1
  · go_enter Try.func23, Try.ntmps23
    go_wp2
    go_ret2
    exact FIN.out
  rcases (show ti < 0 ∨ 0 ≤ ti by omega) with dti0 | dti0
  · go_enter Try.func23, Try.ntmps23
    go_wp2
    go_ret2
    exact FIN.out
  rcases (show 1048576 < ti ∨ ti ≤ 1048576 by omega) with dti1 | dti1
  · go_enter Try.func23, Try.ntmps23
    go_wp2
    go_ret2
    exact FIN.out
  rcases (show n < 0 ∨ 0 ≤ n by omega) with dn0 | dn0
  · go_enter Try.func23, Try.ntmps23
    go_wp2
    go_ret2
    exact FIN.out
  rcases (show 1152 < n ∨ n ≤ 1152 by omega) with dn1 | dn1
  · go_enter Try.func23, Try.ntmps23
    go_wp2
    go_ret2
    exact FIN.out
  rcases (show m < 0 ∨ 0 ≤ m by omega) with dm0 | dm0
  · go_enter Try.func23, Try.ntmps23
    go_wp2
    go_ret2
    exact FIN.out
  rcases (show 1000 < m ∨ m ≤ 1000 by omega) with dm1 | dm1
  · go_enter Try.func23, Try.ntmps23
    go_wp2
    go_ret2
    exact FIN.out
  exact absurd ⟨ds0, ds1, dte0, dte1, dce0, dce1, dti0, dti1, dn0, dn1, dm0, dm1⟩ H.out
end Go.Proofs.Ytfkbcjpiijcbfaa
