/- Layer 31: soft.Clip, soft.outside, the function that soft.Of hands to each. -/
import Derived.Test.YtfkbcjpiijcbfaaRows
import Derived.Test.YtfkbcjpiijcbfaaRow
import Derived.Test.YtfkbcjpiijcbfaaC5
namespace Go.Proofs.Ytfkbcjpiijcbfaa
set_option linter.unusedVariables false
set_option linter.unusedSimpArgs false
open Go.RowKit Go.Sort
attribute [local go_sem] gcell

def clip (n : Int) : Int := max (-127) (min n 127)
theorem clip_bd (n : Int) : -127 ≤ clip n ∧ clip n ≤ 127 := by unfold clip; omega

theorem clip36 (n : Int) (w : World) : Calls Try.prog 36 #[.int .i64 n] w fun e w' => e = .returned (.int .i64 (clip n)) ∧ w' = w := by
  go_enter Try.func36, Try.ntmps36
  go_wp2
  all_goals
    go_ret
    exact ⟨ret_int (by simp only [clip]; omega), rfl⟩
theorem clip37 (n : Int) (w : World) : Calls Try.prog 37 #[.int .i64 n] w fun e w' => e = .returned (.int .i64 (clip n)) ∧ w' = w := by
  go_enter Try.func37, Try.ntmps37
  go_wp2
  all_goals
    go_ret
    exact ⟨ret_int (by simp only [clip]; omega), rfl⟩

def out (xs : Nat → Int) (m : Int) (k : Nat) : Bool := decide (xs k < -m) || decide (m < xs k)

theorem outside33 (a : Option Addr) (n c : Nat) (xs : Nat → Int) (m : Int) (w : World) (R : Row w a n xs) (hn : n ≤ maxLen) (hm : 0 ≤ m) (hm2 : m ≤ 100000) :
    Calls Try.prog 33 #[.slice a n c, .int .i64 m] w fun e w' => e = .returned (.bool (anyB (out xs m) n)) ∧ Below w.heap.size w w' := by
  obtain ⟨b, o, ha, hx⟩ := R
  have HA := Lib.hid ha
  have HX := Lib.hid hx
  clear ha hx
  have hn2 := hn
  unfold maxLen at hn2
  go_enter Try.func33, Try.ntmps33
  go_wp2
  go_loopw [9] (fun i wr => ∃ k : Nat, k ≤ n ∧ i = .int .i64 k ∧ anyB (out xs m) k = false ∧ Below w.heap.size w wr) (fun i _ => n - (intOf i).toNat)
  case atStart => exact ⟨0, Nat.zero_le _, rfl, rfl, Below.refl _ _⟩
  case round =>
    obtain ⟨k, hk, rfl, hf, hB⟩ := hrel
    have HB := Lib.hid hB
    have HF := Lib.hid hf
    clear hf
    by_cases hlt : k < n
    · have hxk := HX.out k hlt
      have hxw := up hB hxk
      have hak := HA.out (by omega)
      subst hak
      by_cases h1 : xs k < -m
      · go_wp2
        go_ret
        refine ⟨ret_bool ?_, HB.out⟩
        rw [anyB_true hlt (by unfold out; simp [h1])]
      · by_cases h2 : m < xs k
        · go_wp2
          go_ret
          refine ⟨ret_bool ?_, HB.out⟩
          rw [anyB_true hlt (by unfold out; simp [h2])]
        · go_wp2
          go_roundw
          case rel => exact ⟨k + 1, by omega, by go_num, by unfold anyB; rw [HF.out]; unfold out; simp; omega, HB.out⟩
          case measure => simp [intOf]; omega
    · have : k = n := by omega
      subst this
      go_wp2
      go_ret
      refine ⟨ret_bool ?_, HB.out⟩
      rw [HF.out]

/-- A variable that holds a row. -/
structure Rvar (w : World) (p b o n c : Nat) (a : Option Addr) (xs : Nat → Int) : Prop where
  v : w.cell? ⟨p, 0, none⟩ = some (.slice a n c)
  h : 0 < n → a = some ⟨b, o, none⟩
  x : ∀ k, k < n → w.cell? ⟨b, o + k, none⟩ = some (.int .i64 (xs k))
theorem Rvar.mono {w w' : World} {p b o n c : Nat} {a : Option Addr} {xs : Nat → Int} (R : Rvar w p b o n c a xs) (hb : Below w.heap.size w w') : Rvar w' p b o n c a xs :=
  ⟨up hb R.v, R.h, fun k hk => up hb (R.x k hk)⟩

theorem of35 (p b o n c q d l m e' g : Nat) (gain : Int) (a a' : Option Addr) (xs ys : Nat → Int) (k : Nat) (hk : k < n) (hn : n ≤ maxLen) (hm : m ≤ maxLen) (w : World) (R : Rvar w p b o n c a xs) (S : Rvar w q d l m e' a' ys)
    (G : w.cell? ⟨g, 0, none⟩ = some (.int .i64 gain)) (hg : 0 ≤ gain ∧ gain ≤ 127) (hx : xs k = 0 ∨ xs k = 1) (hy : k < m → -1000 ≤ ys k ∧ ys k ≤ 1000) :
    Calls Try.prog 35 #[.int .i64 k, .pointer (some ⟨g, 0, none⟩), .pointer (some ⟨p, 0, none⟩), .pointer (some ⟨q, 0, none⟩)] w fun e w' => e = .returned (.int .i64 (clip (gain * (1 - 2 * xs k) + (if k < m then ys k else 0)))) ∧ Below w.heap.size w w' := by
  have h0 := R.v
  have h1 := R.x k hk
  have h2 := R.h (by omega)
  have g0 := S.v
  subst h2
  have hp := lt_of_cell h0
  have hb := lt_of_cell h1
  have hq := lt_of_cell g0
  have hgl := lt_of_cell G
  have hn2 := hn
  unfold maxLen at hn2
  have hm2 := hm
  unfold maxLen at hm2
  have hv : gain * (1 - 2 * xs k) = gain ∨ gain * (1 - 2 * xs k) = -gain := by
    rcases hx with h | h <;> rw [h] <;> omega
  have e1 : IntKind.i64.wrap (2 * xs k) = 2 * xs k := IntWalk.i64_in _ (by omega)
  have e2 : IntKind.i64.wrap (1 - 2 * xs k) = 1 - 2 * xs k := IntWalk.i64_in _ (by omega)
  have e3 : IntKind.i64.wrap (gain * (1 - 2 * xs k)) = gain * (1 - 2 * xs k) := IntWalk.i64_in _ (by omega)
  by_cases hkm : k < m
  · have g1 := S.x k hkm
    have g2 := S.h (by omega)
    subst g2
    have hd := lt_of_cell g1
    have hyk := hy hkm
    rw [if_pos hkm]
    clear R S hy
    generalize hgen : gain * (1 - 2 * xs k) = V at *
    go_enter Try.func35, Try.ntmps35
    go_wp2_with fail
    refine wp_region_quiet_below (by kernel_rfl) (by kernel_rfl) ?_
    repeat (go_big_quiet_step (fail))
    refine wpQuiet_nil ?_
    intro w2 hw2
    have hB := below_of_regrown hw2
    have c1 := up hB g0
    have c2 := up hB g1
    go_wp2_with (go_at_call 36; refine (clip36 _ _).mono ?_; rintro e w1 ⟨rfl, rfl⟩)
    go_ret
    exact ⟨rfl, hB⟩
  · rw [if_neg hkm]
    clear R S hy
    go_enter Try.func35, Try.ntmps35
    go_wp2_with fail
    refine wp_region_quiet_below (by kernel_rfl) (by kernel_rfl) ?_
    repeat (go_big_quiet_step (fail))
    refine wpQuiet_nil ?_
    intro w2 hw2
    have hB := below_of_regrown hw2
    have c1 := up hB g0
    go_wp2_with (go_at_call 36; refine (clip36 _ _).mono ?_; rintro e w1 ⟨rfl, rfl⟩)
    go_ret
    exact ⟨ret_int (by simp), hB⟩
end Go.Proofs.Ytfkbcjpiijcbfaa
