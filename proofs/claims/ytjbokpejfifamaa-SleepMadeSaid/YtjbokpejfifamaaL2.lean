/- Layer 35: the walk of SleepShorts. -/
import Derived.Test.YtjbokpejfifamaaL1
namespace Go.Proofs.Ytjbokpejfifamaa
open Go.RowKit Go.Sort
attribute [local go_sem] gcell
set_option linter.unusedVariables false

theorem awk_none {r : Rh} {t : Int} (h : lookB r (-1) t 1048576 = true) : awk r (-1) t = cyc r t := by
  have h1 : ling r (-1) t = false := by unfold ling; simp
  have h2 : shrt r (-1) t = false := by unfold shrt; simp
  unfold awk lis
  rw [h, h1, h2]
  simp
theorem awk_more {r : Rh} {last t : Int} (h : lookB r last t 1048576 = true) (hc : cyc r t = true) : awk r last t = true := by
  unfold awk lis
  rw [h, hc]
  rfl
theorem awk_late {r : Rh} {last t : Int} (h : lookB r last t 1048576 = true) (hs : 0 ≤ r.s) (hh : 0 ≤ r.h) (ht : last + r.l + r.h * r.s < t) : awk r last t = cyc r t := by
  have hp : 0 ≤ r.h * r.s := Int.mul_nonneg hh hs
  have h1 : ling r last t = false := by unfold ling; rw [decide_eq_false_iff_not]; omega
  have h2 : shrt r last t = false := by
    unfold shrt; rw [decide_eq_false_iff_not]
    rintro ⟨_, a2, _, a4, _⟩
    have := (Int.ediv_lt_iff_lt_mul a2).1 a4
    omega
  unfold awk lis
  rw [h, h1, h2]
  simp

set_option maxRecDepth 100000 in
set_option maxHeartbeats 4000000 in
theorem shorts4 (a : Option Addr) (b m n c : Nat) (xs : Nat → Int) (last more : Int) (w : World) (L : ListIn w a b m n c xs) (hn64 : n ≤ 140737488351232) (l0 : 0 ≤ last ∧ last ≤ 65535) (m0 : 0 ≤ more ∧ more ≤ 65535) :
    Calls Try.prog 4 #[.slice a n c, .int .u16 last, .int .u16 more] w fun e w' => e = .returned (.bool true) ∧ Below w.heap.size w w' := by
  have HL := Lib.hid L
  clear L
  by_cases h300 : n ≤ 300
  · have hd : decide (n ≤ 300) = true := by simpa using h300
    go_enter Try.func4, Try.ntmps4
    go_wp2_with fail
    refine (light_any a n c _).mono ?_
    rw [hd]
    rintro e w' ⟨rfl, rfl⟩
    go_wp2_with fail
    refine (roll_any _ a b m n c xs h300 HL.out.hc HL.out.h0 HL.out.ha HL.out.hx).mono ?_
    rintro e w1 ⟨p, g, aa, cap, rfl, hD, hp, hB⟩
    have HB := Lib.hid hB
    go_wp2_with fail
    refine (rhythm10 p g aa cap n xs 0 _ h300 hD).mono ?_
    rintro e w2 ⟨c', o, m', l, s, h, k, rfl, hr, hD2, hO⟩
    replace HB := Lib.hid (HB.out.trans (only_below hO hp (HB.out.size)))
    clear hD hD2 hO hB
    have q0 : 0 ≤ more % 1000 ∧ more % 1000 < 1000 := by omega
    have hok := ok_of hr
    have hlk1 : lookB ⟨c', o, m', l, s, h⟩ (-1) (last + more % 1000) 1048576 = true := lookB_of hok (by omega) (by omega) (by omega) (by omega)
    have hlk2 : lookB ⟨c', o, m', l, s, h⟩ last (last + more % 1000) 1048576 = true := lookB_of hok (by omega) (by omega) (by omega) (by omega)
    have A1 := Lib.hid (awk_none hlk1)
    have hmore : cyc ⟨c', o, m', l, s, h⟩ (last + more % 1000) = true → awk ⟨c', o, m', l, s, h⟩ last (last + more % 1000) = true := awk_more hlk2
    have hlate : last + l + h * s < last + more % 1000 → awk ⟨c', o, m', l, s, h⟩ last (last + more % 1000) = cyc ⟨c', o, m', l, s, h⟩ (last + more % 1000) := fun hx => awk_late hlk2 (by dsimp only; omega) (by dsimp only; omega) hx
    have p1 : 0 ≤ h * s := Int.mul_nonneg (by omega) (by omega)
    have p2 : h * s ≤ 4 * 40 := Int.mul_le_mul (by omega) (by omega) (by omega) (by omega)
    clear hok hlk1 hlk2
    have HB2 := Lib.hid (HB.out.alloc HB.out.size (.cells #[.int .i64 c', .int .i64 o, .int .i64 m', .int .i64 l, .int .i64 s, .int .i64 h] 27))
    have hR0 : Rbox (w2.alloc (.cells #[.int .i64 c', .int .i64 o, .int .i64 m', .int .i64 l, .int .i64 s, .int .i64 h] 27)) w2.heap.size c' o m' l s h := Rbox.new _ _ _ _ _ _ _ _
    have HR := Lib.hid hR0
    clear hR0
    have HM := Lib.hid hmore
    have HT := Lib.hid hlate
    clear hmore hlate
    have d0 := HR.out.r0
    have d1 := HR.out.r1
    have d2 := HR.out.r2
    have d3 := HR.out.r3
    have d4 := HR.out.r4
    have d5 := HR.out.r5
    go_wp2_with fail
    refine wp_region_quiet_below (by kernel_rfl) (by kernel_rfl) ?_
    repeat (go_big_quiet_step ((go_at_call 13; exact Calls.regrown_of (awake13 _ _ _ _ _ _ _ _ _))))
    refine wpQuiet_nil ?_
    intro w3 hw3
    replace HR := Lib.hid (HR.out.mono (below_of_regrown hw3))
    replace HB2 := Lib.hid (bthen HB2.out (below_of_regrown hw3) HB2.out.size)
    clear hw3 d0 d1 d2 d3 d4 d5
    rw [A1.out]
    have HM := HM.out
    have HT := HT.out
    generalize cyc ⟨c', o, m', l, s, h⟩ (last + more % 1000) = cv at *
    generalize awk ⟨c', o, m', l, s, h⟩ last (last + more % 1000) = av at *
    have d3 := HR.out.r3
    have d4 := HR.out.r4
    have d5 := HR.out.r5
    by_cases hend : last + more % 1000 ≤ last + l + h * s
    · clear HT
      cases cv
      · cases av
        all_goals
          clear HM
          go_wp2_with (go_at_call 9; refine (awake9 _).mono ?_; rintro e w6 ⟨rfl, hb6⟩)
          go_ret
          exact ⟨rfl, bthen HB2.out hb6 HB2.out.size⟩
      · obtain rfl : av = true := HM rfl
        clear HM
        go_wp2_with (go_at_call 9; refine (awake9 _).mono ?_; rintro e w6 ⟨rfl, hb6⟩)
        go_ret
        exact ⟨rfl, bthen HB2.out hb6 HB2.out.size⟩
    · obtain rfl : av = cv := HT (by omega)
      clear HM HT
      cases av
      all_goals
        go_wp2_with (go_at_call 9; refine (awake9 _).mono ?_; rintro e w6 ⟨rfl, hb6⟩)
        go_ret
        exact ⟨rfl, bthen HB2.out hb6 HB2.out.size⟩
  · have hd : decide (n ≤ 300) = false := by simpa using h300
    go_enter Try.func4, Try.ntmps4
    go_wp2_with (first
      | (go_at_call 8; refine (light_any a n c _).mono ?_; rw [hd]; rintro e w' ⟨rfl, rfl⟩)
      | (go_at_call 9; refine (awake9 _).mono ?_; rintro e w' ⟨rfl, hb⟩))
    go_ret
    exact ⟨rfl, hb⟩
end Go.Proofs.Ytjbokpejfifamaa
