/- Layer 27: what is made for each place: the three functions in place. -/
import Derived.Test.YtdhfadmeablkpaaC0
namespace Go.Proofs.Ytdhfadmeablkpaa
open Go.RowKit Go.Sort
attribute [local go_sem] gcell
set_option linter.unusedVariables false

theorem intInfo : (Try.prog.info? 3).map (fun i => (i.zero, i.size, i.bytes)) = some (some (.int .i64 0), 1, 8) := by kernel_rfl

/-- A variable that holds a row. -/
structure Rvar (w : World) (p b o n c : Nat) (a : Option Addr) (xs : Nat → Int) : Prop where
  v : w.cell? ⟨p, 0, none⟩ = some (.slice a n c)
  h : 0 < n → a = some ⟨b, o, none⟩
  x : ∀ k, k < n → w.cell? ⟨b, o + k, none⟩ = some (.int .i64 (xs k))
theorem Rvar.mono {w w' : World} {p b o n c : Nat} {a : Option Addr} {xs : Nat → Int} (R : Rvar w p b o n c a xs) (hb : Below w.heap.size w w') : Rvar w' p b o n c a xs :=
  ⟨up hb R.v, R.h, fun k hk => up hb (R.x k hk)⟩

def hard1 (x : Int) : Int := if x < 0 then 1 else 0

theorem hard22 (p b o n c : Nat) (a : Option Addr) (xs : Nat → Int) (k : Nat) (hk : k < n) (hn : n ≤ maxLen) (w : World) (R : Rvar w p b o n c a xs) :
    Calls Try.prog 22 #[.int .i64 k, .pointer (some ⟨p, 0, none⟩)] w fun e w' => e = .returned (.int .i64 (hard1 (xs k))) ∧ Below w.heap.size w w' := by
  have h0 := R.v
  have h1 := R.x k hk
  have h2 := R.h (by omega)
  subst h2
  clear R
  have hn2 := hn
  unfold maxLen at hn2
  go_enter Try.func22, Try.ntmps22
  go_wp2
  all_goals
    go_ret
    exact ⟨ret_int (by unfold hard1; split <;> omega), Below.refl _ _⟩

theorem add20 (p b o n c q d l m e' : Nat) (a a' : Option Addr) (xs ys : Nat → Int) (k : Nat) (hk : k < n) (hk2 : k < m) (hn : n ≤ maxLen) (hm : m ≤ maxLen) (w : World) (R : Rvar w p b o n c a xs) (S : Rvar w q d l m e' a' ys)
    (hx : -127 ≤ xs k ∧ xs k ≤ 127) (hy : -127 ≤ ys k ∧ ys k ≤ 127) :
    Calls Try.prog 20 #[.int .i64 k, .pointer (some ⟨p, 0, none⟩), .pointer (some ⟨q, 0, none⟩)] w fun e w' => e = .returned (.int .i64 (clip (xs k + ys k))) ∧ Below w.heap.size w w' := by
  have h0 := R.v
  have h1 := R.x k hk
  have h2 := R.h (by omega)
  have g0 := S.v
  have g1 := S.x k hk2
  have g2 := S.h (by omega)
  subst h2 g2
  clear R S
  have hp := lt_of_cell h0
  have hb := lt_of_cell h1
  have hq := lt_of_cell g0
  have hd := lt_of_cell g1
  have hn2 := hn
  unfold maxLen at hn2
  have hm2 := hm
  unfold maxLen at hm2
  have e1 : IntKind.i64.wrap (xs k + ys k) = xs k + ys k := IntWalk.i64_in _ (by omega)
  go_enter Try.func20, Try.ntmps20
  go_wp2_with fail
  refine wp_region_quiet_below (by kernel_rfl) (by kernel_rfl) ?_
  repeat (go_big_quiet_step (first | (go_at_call 14; exact regrown_same (clip14 _ _))))
  refine wpQuiet_nil ?_
  intro w2 hw2
  have hB := below_of_regrown hw2
  go_wp2
  go_ret
  exact ⟨rfl, hB⟩

theorem of19 (p b o n c q d l m e' g : Nat) (gain : Int) (a a' : Option Addr) (xs ys : Nat → Int) (k : Nat) (hk : k < n) (hn : n ≤ maxLen) (hm : m ≤ maxLen) (w : World) (R : Rvar w p b o n c a xs) (S : Rvar w q d l m e' a' ys)
    (G : w.cell? ⟨g, 0, none⟩ = some (.int .i64 gain)) (hg : 0 ≤ gain ∧ gain ≤ 127) (hx : xs k = 0 ∨ xs k = 1) (hy : k < m → -1000 ≤ ys k ∧ ys k ≤ 1000) :
    Calls Try.prog 19 #[.int .i64 k, .pointer (some ⟨g, 0, none⟩), .pointer (some ⟨p, 0, none⟩), .pointer (some ⟨q, 0, none⟩)] w fun e w' => e = .returned (.int .i64 (clip (gain * (1 - 2 * xs k) + (if k < m then ys k else 0)))) ∧ Below w.heap.size w w' := by
  have h0 := R.v
  have h1 := R.x k hk
  have h2 := R.h (by omega)
  have g0 := S.v
  subst h2
  have hp := lt_of_cell h0
  have hb := lt_of_cell h1
  have hq := lt_of_cell g0
  have hgl := lt_of_cell G
  have hn2 := hn
  unfold maxLen at hn2
  have hm2 := hm
  unfold maxLen at hm2
  have hv : gain * (1 - 2 * xs k) = gain ∨ gain * (1 - 2 * xs k) = -gain := by
    rcases hx with h | h <;> rw [h] <;> omega
  have e1 : IntKind.i64.wrap (2 * xs k) = 2 * xs k := IntWalk.i64_in _ (by omega)
  have e2 : IntKind.i64.wrap (1 - 2 * xs k) = 1 - 2 * xs k := IntWalk.i64_in _ (by omega)
  have e3 : IntKind.i64.wrap (gain * (1 - 2 * xs k)) = gain * (1 - 2 * xs k) := IntWalk.i64_in _ (by omega)
  by_cases hkm : k < m
  · have g1 := S.x k hkm
    have g2 := S.h (by omega)
    subst g2
    have hd := lt_of_cell g1
    have hyk := hy hkm
    rw [if_pos hkm]
    clear R S hy
    generalize hgen : gain * (1 - 2 * xs k) = V at *
    go_enter Try.func19, Try.ntmps19
    go_wp2_with fail
    refine wp_region_quiet_below (by kernel_rfl) (by kernel_rfl) ?_
    repeat (go_big_quiet_step (fail))
    refine wpQuiet_nil ?_
    intro w2 hw2
    have hB := below_of_regrown hw2
    have c1 := up hB g0
    have c2 := up hB g1
    go_wp2_with (go_at_call 14; refine (clip14 _ _).mono ?_; rintro e w1 ⟨rfl, rfl⟩)
    go_ret
    exact ⟨rfl, hB⟩
  · rw [if_neg hkm]
    clear R S hy
    go_enter Try.func19, Try.ntmps19
    go_wp2_with fail
    refine wp_region_quiet_below (by kernel_rfl) (by kernel_rfl) ?_
    repeat (go_big_quiet_step (fail))
    refine wpQuiet_nil ?_
    intro w2 hw2
    have hB := below_of_regrown hw2
    have c1 := up hB g0
    go_wp2_with (go_at_call 14; refine (clip14 _ _).mono ?_; rintro e w1 ⟨rfl, rfl⟩)
    go_ret
    exact ⟨ret_int (by simp), hB⟩
end Go.Proofs.Ytdhfadmeablkpaa
