/- Layer 31: the program's Noise. -/
import Derived.Test.YtfkbcjpiijcbfaaC1
namespace Go.Proofs.Ytfkbcjpiijcbfaa
set_option linter.unusedVariables false
set_option linter.unusedSimpArgs false
open Go.RowKit Go.Sort
attribute [local go_sem] gcell Oper.semAt_some

theorem intInfo : (Try.prog.info? 3).map (fun i => (i.zero, i.size, i.bytes)) = some (some (.int .i64 0), 1, 8) := by kernel_rfl
/-- Are all numbers of a transmission in their ranges? -/
def nzOk (s te ce ti n m : Int) : Bool := btw s 0 1048576 && btw te 0 65536 && btw ce 0 65536 && btw ti 0 1048576 && btw n 0 1152 && btw m 0 1000
def nz0 (s te ce ti : Int) : Int := max ((s + 7919 * te + 104729 * ce + 15485863 * ti) % 4294967296) 1
def nzV (x m : Int) (k : Nat) : Int := nxs x (k + 1) % (2 * m + 1) - m
def NoiseR (s te ce ti n m : Int) (w : World) (e : Ending) (w' : World) : Prop :=
  ∃ (a : Option Addr) (l c : Nat), e = .returned (.tuple #[.slice a l c, .int .i64 (if nzOk s te ce ti n m = true then 0 else 3)]) ∧ l = (if nzOk s te ce ti n m = true then n.toNat else 0) ∧ l ≤ c ∧ c ≤ 9223372036854775807 ∧ (a = none → l = 0) ∧ Row w' a l (nzV (nz0 s te ce ti) m) ∧ Below w.heap.size w w'
theorem blk (w : World) (o : Obj) : Below w.heap.size w (w.alloc o) := (Below.refl _ _).alloc (Nat.le_refl _) _
theorem btw_or (n l h : Int) : btw n l h = false ∨ btw n l h = true := by cases btw n l h <;> simp
set_option maxRecDepth 100000 in
set_option maxHeartbeats 4000000 in
theorem noise8_err (s te ce ti n m : Int) (w : World) (h : nzOk s te ce ti n m = false) : Calls Try.prog 8 #[.int .i64 s, .int .i64 te, .int .i64 ce, .int .i64 ti, .int .i64 n, .int .i64 m] w (NoiseR s te ce ti n m w) := by
  have fin : ∀ W, Below w.heap.size w W → NoiseR s te ce ti n m w (.returned (.tuple #[.slice none 0 0, .int .i64 3])) W := fun W hb => ⟨none, 0, 0, by rw [h]; rfl, by rw [h]; rfl, Nat.le_refl _, by omega, fun _ => rfl, Row.zero _ _ _, hb⟩
  have FIN := Lib.hid fin
  have H := Lib.hid h
  have HB := Lib.hid (bthen' (blk w (.cells #[.int .i64 n] 3)) (blk _ (.cells #[.int .i64 m] 3)))
  clear fin h
  rcases btw_or s 0 1048576 with b0 | b0
  · go_enter Try.func8, Try.ntmps8
    go_wp2_with (go_at_call 18; refine (between18 _ _ _ _).mono ?_; rintro e w' ⟨rfl, rfl⟩)
    go_ret2
    exact FIN.out _ HB.out
  rcases btw_or te 0 65536 with b1 | b1
  · go_enter Try.func8, Try.ntmps8
    go_wp2_with (go_at_call 18; refine (between18 _ _ _ _).mono ?_; rintro e w' ⟨rfl, rfl⟩)
    go_ret2
    exact FIN.out _ HB.out
  rcases btw_or ce 0 65536 with b2 | b2
  · go_enter Try.func8, Try.ntmps8
    go_wp2_with (go_at_call 18; refine (between18 _ _ _ _).mono ?_; rintro e w' ⟨rfl, rfl⟩)
    go_ret2
    exact FIN.out _ HB.out
  rcases btw_or ti 0 1048576 with b3 | b3
  · go_enter Try.func8, Try.ntmps8
    go_wp2_with (go_at_call 18; refine (between18 _ _ _ _).mono ?_; rintro e w' ⟨rfl, rfl⟩)
    go_ret2
    exact FIN.out _ HB.out
  rcases btw_or n 0 1152 with b4 | b4
  · go_enter Try.func8, Try.ntmps8
    go_wp2_with (go_at_call 18; refine (between18 _ _ _ _).mono ?_; rintro e w' ⟨rfl, rfl⟩)
    go_ret2
    exact FIN.out _ HB.out
  rcases btw_or m 0 1000 with b5 | b5
  · go_enter Try.func8, Try.ntmps8
    go_wp2_with (go_at_call 18; refine (between18 _ _ _ _).mono ?_; rintro e w' ⟨rfl, rfl⟩)
    go_ret2
    exact FIN.out _ HB.out
  have := H.out
  unfold nzOk at this
  rw [b0, b1, b2, b3, b4, b5] at this
  cases this
end Go.Proofs.Ytfkbcjpiijcbfaa
