/- Layer 35: Awake. -/
import Derived.Test.YtjbokpejfifamaaS2
namespace Go.Proofs.Ytjbokpejfifamaa
open Go.RowKit Go.Sort
attribute [local go_sem] gcell
set_option linter.unusedVariables false

theorem awk_look {r : Rh} {last t : Int} (h : lookB r last t 1048576 = false) : awk r last t = false := by unfold awk; rw [h]; rfl
theorem awk_lis {r : Rh} {last t : Int} (h : lookB r last t 1048576 = true) : awk r last t = lis r last t := by unfold awk; rw [h]; rfl

def fnV (f : Nat) (c o n l s h last tick : Int) : Value := .func (.func f) #[mv c o n l s h last tick] #[]
/-- The three ways, in memory. -/
structure Ways (w wr : World) (B : Nat) (c o n l s h last tick : Int) : Prop where
  w0 : wr.cell? ⟨B, 0, none⟩ = some (.func (.func 20) #[mv c o n l s h last tick] #[])
  w1 : wr.cell? ⟨B, 1, none⟩ = some (.func (.func 21) #[mv c o n l s h last tick] #[])
  w2 : wr.cell? ⟨B, 2, none⟩ = some (.func (.func 22) #[mv c o n l s h last tick] #[])
  bb : Below w.heap.size w wr
theorem Ways.mono {w wr w' : World} {B : Nat} {c o n l s h last tick : Int} (W : Ways w wr B c o n l s h last tick) (hb : Below wr.heap.size wr w') : Ways w w' B c o n l s h last tick :=
  ⟨up hb W.w0, up hb W.w1, up hb W.w2, bthen W.bb hb W.bb.size⟩

set_option maxHeartbeats 4000000 in
theorem awake13 (c o n l s h last tick : Int) (w : World) : Calls Try.prog 13 #[rv c o n l s h, .int .i64 last, .int .i64 tick] w fun e w' => e = .returned (.bool (awk ⟨c, o, n, l, s, h⟩ last tick)) ∧ Below w.heap.size w w' := by
  have HC := Lib.hid (fun w => looked19 c o n l s h last tick 1048576 w)
  cases hl : lookB ⟨c, o, n, l, s, h⟩ last tick 1048576
  · rw [hl] at HC
    rw [awk_look hl]
    clear hl
    go_enter Try.func13, Try.ntmps13
    go_wp2_with (go_at_call 19; refine (HC.out _).mono ?_; rintro e w' ⟨rfl, hb⟩)
    go_ret
    exact ⟨rfl, bthen ((Below.refl _ _).alloc (Nat.le_refl _) _) hb (by simp)⟩
  · rw [hl] at HC
    rw [awk_lis hl]
    have HL := Lib.hid hl
    clear hl
    go_enter Try.func13, Try.ntmps13
    go_wp2_with fail
    refine (HC.out _).mono ?_
    rintro e w1 ⟨rfl, hb⟩
    have c0 : ∀ i v, (#[Value.int .i64 c, .int .i64 o, .int .i64 n, .int .i64 l, .int .i64 s, .int .i64 h] : Array Value)[i]? = some v → w1.cell? ⟨w.heap.size, i, none⟩ = some v := fun i v hi => (hb.cell (by simp)).trans (by simpa using hi)
    have d0 := c0 0 _ rfl
    have d1 := c0 1 _ rfl
    have d2 := c0 2 _ rfl
    have d3 := c0 3 _ rfl
    have d4 := c0 4 _ rfl
    have d5 := c0 5 _ rfl
    have HB := Lib.hid (bthen ((Below.refl w.heap.size w).alloc (Nat.le_refl _) _) hb (by simp))
    clear c0 hb
    go_wp2_with fail
    have hW : Ways w ((w1.alloc (.cells #[.int .i64 c, .int .i64 o, .int .i64 n, .int .i64 l, .int .i64 s, .int .i64 h, .int .i64 last, .int .i64 tick] 48)).alloc
        (.cells #[.func (.func 20) #[mv c o n l s h last tick] #[], .func (.func 21) #[mv c o n l s h last tick] #[], .func (.func 22) #[mv c o n l s h last tick] #[]] 25)) (w1.heap.size + 1) c o n l s h last tick :=
      ⟨by simp [go_sem], by simp [go_sem], by simp [go_sem], (HB.out.alloc HB.out.size _).alloc (by have := HB.out.size; simp; omega) _⟩
    have HW := Lib.hid hW
    clear hW d0 d1 d2 d3 d4 d5
    go_loopw [27] (fun i wr => ∃ k : Nat, k ≤ 3 ∧ i = .int .i64 k ∧ (0 < k → cyc ⟨c, o, n, l, s, h⟩ tick = false) ∧ (1 < k → ling ⟨c, o, n, l, s, h⟩ last tick = false) ∧ (2 < k → shrt ⟨c, o, n, l, s, h⟩ last tick = false) ∧ Ways w wr (w1.heap.size + 1) c o n l s h last tick) (fun i _ => 3 - (intOf i).toNat)
    case atStart => exact ⟨0, by omega, rfl, by omega, by omega, by omega, HW.out⟩
    case round =>
      clear HW HB
      obtain ⟨k, hk, rfl, h1, h2, h3, hW⟩ := hrel
      have HH := Lib.hid (And.intro h1 (And.intro h2 h3))
      have HW := Lib.hid hW
      clear h1 h2 h3 hW
      have hc : k = 0 ∨ k = 1 ∨ k = 2 ∨ k = 3 := by omega
      rcases hc with rfl | rfl | rfl | rfl
      · have e0 := HW.out.w0
        cases hy : cyc ⟨c, o, n, l, s, h⟩ tick
        all_goals
          have HY := Lib.hid hy
          clear hy
          go_wp2_with (go_at_call 20; refine (cycle20 c o n l s h last tick HL.out _).mono ?_; rw [HY.out]; rintro e w' ⟨rfl, hb⟩)
          first
            | (go_ret; exact ⟨ret_bool (by unfold lis; rw [HY.out]; rfl), bthen HW.out.bb hb HW.out.bb.size⟩)
            | (go_roundw
               case rel => exact ⟨1, by omega, rfl, (by intros; first | exact HY.out | trivial), by omega, by omega, HW.out.mono hb⟩
               case measure => simp [intOf] <;> omega)
      · have e0 := HW.out.w1
        cases hy : ling ⟨c, o, n, l, s, h⟩ last tick
        all_goals
          have HY := Lib.hid hy
          clear hy
          go_wp2_with (go_at_call 21; refine (linger21 c o n l s h last tick HL.out _).mono ?_; rw [HY.out]; rintro e w' ⟨rfl, hb⟩)
          first
            | (go_ret; exact ⟨ret_bool (by unfold lis; rw [HY.out, HH.out.1 (by omega)]; rfl), bthen HW.out.bb hb HW.out.bb.size⟩)
            | (go_roundw
               case rel => exact ⟨2, by omega, rfl, (by intros; first | exact HH.out.1 (by omega) | trivial), (by intros; first | exact HY.out | trivial), by omega, HW.out.mono hb⟩
               case measure => simp [intOf] <;> omega)
      · have e0 := HW.out.w2
        cases hy : shrt ⟨c, o, n, l, s, h⟩ last tick
        all_goals
          have HY := Lib.hid hy
          clear hy
          go_wp2_with (go_at_call 22; refine (short22 c o n l s h last tick HL.out _).mono ?_; rw [HY.out]; rintro e w' ⟨rfl, hb⟩)
          first
            | (go_ret; exact ⟨ret_bool (by unfold lis; rw [HY.out, HH.out.1 (by omega), HH.out.2.1 (by omega)]; rfl), bthen HW.out.bb hb HW.out.bb.size⟩)
            | (go_roundw
               case rel => exact ⟨3, by omega, rfl, (by intros; first | exact HH.out.1 (by omega) | trivial), (by intros; first | exact HH.out.2.1 (by omega) | trivial), (by intros; first | exact HY.out | trivial), HW.out.mono hb⟩
               case measure => simp [intOf] <;> omega)
      · go_wp2
        go_ret
        exact ⟨ret_bool (by unfold lis; rw [HH.out.1 (by omega), HH.out.2.1 (by omega), HH.out.2.2 (by omega)]; rfl), HW.out.bb⟩
end Go.Proofs.Ytjbokpejfifamaa
