/- Layer 35: Cost, Step, the sanity check. -/
import Derived.Test.YtjbokpejfifamaaS5
namespace Go.Proofs.Ytjbokpejfifamaa
open Go.RowKit Go.Sort
attribute [local go_sem] gcell
set_option linter.unusedVariables false

set_option maxHeartbeats 4000000 in
theorem cost18 (c o n l s h k : Int) (w : World) : Calls Try.prog 18 #[rv c o n l s h, .int .i64 k] w fun e w' => e = .returned (.int .i64 (cost ⟨c, o, n, l, s, h⟩ k)) ∧ Below w.heap.size w w' := by
  have HC := Lib.hid (fun w => check24 c o n l s h w)
  cases hl : okR ⟨c, o, n, l, s, h⟩
  · rw [check_bad hl] at HC
    rw [cost_no hl]
    clear hl
    go_enter Try.func18, Try.ntmps18
    go_wp2_with (go_at_call 24; refine (HC.out _).mono ?_; rintro e w' ⟨rfl, hb⟩)
    go_ret
    exact ⟨rfl, bthen ((Below.refl _ _).alloc (Nat.le_refl _) _) hb (by simp)⟩
  · rw [check_ok hl] at HC
    have hc := (okR_iff _).1 hl
    dsimp only at hc
    have hk : (k < 0) ∨ (¬ k < 0 ∧ 256 < k) ∨ (¬ k < 0 ∧ ¬ 256 < k) := by omega
    rcases hk with k1 | ⟨k1, k2⟩ | ⟨k1, k2⟩
    · rw [cost_no2 (.inl k1)]
      clear hl hc
      go_enter Try.func18, Try.ntmps18
      go_wp2_with (go_at_call 24; refine (HC.out _).mono ?_; rintro e w' ⟨rfl, hb⟩)
      go_ret
      exact ⟨rfl, bthen ((Below.refl _ _).alloc (Nat.le_refl _) _) hb (by simp)⟩
    · rw [cost_no2 (.inr k2)]
      clear hl hc
      go_enter Try.func18, Try.ntmps18
      go_wp2_with (go_at_call 24; refine (HC.out _).mono ?_; rintro e w' ⟨rfl, hb⟩)
      go_ret
      exact ⟨rfl, bthen ((Below.refl _ _).alloc (Nat.le_refl _) _) hb (by simp)⟩
    · rw [cost_yes hl (by omega) (by omega)]
      dsimp only
      obtain ⟨c1, c2, o1, o2, n1, n2, _⟩ := hc
      have hcb := cost_bd k (n * 10 + (c - n)) (by omega) (by omega) (by omega) (by omega)
      have e1 : n * 10 + (c - n) * 1 = n * 10 + (c - n) := by omega
      rw [e1]
      clear hl e1
      go_enter Try.func18, Try.ntmps18
      go_wp2_with fail
      refine (HC.out _).mono ?_
      rintro e w1 ⟨rfl, hb⟩
      have hR := (Rbox.new w c o n l s h 27).mono hb
      have d0 := hR.r0
      have d2 := hR.r2
      have HB := Lib.hid (bthen ((Below.refl w.heap.size w).alloc (Nat.le_refl _) _) hb (by simp))
      clear hb hR
      go_wp2
      go_ret
      exact ⟨rfl, HB.out⟩

set_option maxHeartbeats 4000000 in
theorem cost27 (c o n l s h k : Int) (w : World) : Calls Try.prog 27 #[rv c o n l s h, .int .i64 k] w fun e w' => e = .returned (.int .i64 (cost ⟨c, o, n, l, s, h⟩ k)) ∧ Below w.heap.size w w' := by
  have HC := Lib.hid (fun w => check25 c o n l s h w)
  cases hl : okR ⟨c, o, n, l, s, h⟩
  · rw [check_bad hl] at HC
    rw [cost_no hl]
    clear hl
    go_enter Try.func27, Try.ntmps27
    go_wp2_with (go_at_call 25; refine (HC.out _).mono ?_; rintro e w' ⟨rfl, hb⟩)
    go_ret
    exact ⟨rfl, bthen ((Below.refl _ _).alloc (Nat.le_refl _) _) hb (by simp)⟩
  · rw [check_ok hl] at HC
    have hc := (okR_iff _).1 hl
    dsimp only at hc
    have hk : (k < 0) ∨ (¬ k < 0 ∧ 256 < k) ∨ (¬ k < 0 ∧ ¬ 256 < k) := by omega
    rcases hk with k1 | ⟨k1, k2⟩ | ⟨k1, k2⟩
    · rw [cost_no2 (.inl k1)]
      clear hl hc
      go_enter Try.func27, Try.ntmps27
      go_wp2_with (go_at_call 25; refine (HC.out _).mono ?_; rintro e w' ⟨rfl, hb⟩)
      go_ret
      exact ⟨rfl, bthen ((Below.refl _ _).alloc (Nat.le_refl _) _) hb (by simp)⟩
    · rw [cost_no2 (.inr k2)]
      clear hl hc
      go_enter Try.func27, Try.ntmps27
      go_wp2_with (go_at_call 25; refine (HC.out _).mono ?_; rintro e w' ⟨rfl, hb⟩)
      go_ret
      exact ⟨rfl, bthen ((Below.refl _ _).alloc (Nat.le_refl _) _) hb (by simp)⟩
    · rw [cost_yes hl (by omega) (by omega)]
      dsimp only
      obtain ⟨c1, c2, o1, o2, n1, n2, _⟩ := hc
      have hcb := cost_bd k (n * 10 + (c - n)) (by omega) (by omega) (by omega) (by omega)
      have e1 : n * 10 + (c - n) * 1 = n * 10 + (c - n) := by omega
      rw [e1]
      clear hl e1
      go_enter Try.func27, Try.ntmps27
      go_wp2_with fail
      refine (HC.out _).mono ?_
      rintro e w1 ⟨rfl, hb⟩
      have hR := (Rbox.new w c o n l s h 27).mono hb
      have d0 := hR.r0
      have d2 := hR.r2
      have HB := Lib.hid (bthen ((Below.refl w.heap.size w).alloc (Nat.le_refl _) _) hb (by simp))
      clear hb hR
      go_wp2
      go_ret
      exact ⟨rfl, HB.out⟩

theorem aw1 : nextV ⟨10, 3, 2, 0, 0, 0⟩ (-1) 5 = (13, true) := by decide +kernel
theorem aw2 : awk ⟨10, 3, 2, 0, 0, 0⟩ (-1) 4 = true := by decide +kernel
theorem aw3 : awk ⟨10, 3, 2, 0, 0, 0⟩ (-1) 5 = false := by decide +kernel
theorem aw4 : cost ⟨10, 3, 2, 0, 0, 0⟩ 1 = 28 := by decide +kernel

set_option maxHeartbeats 4000000 in
theorem awake9 (w : World) : Calls Try.prog 9 #[] w fun e w' => e = .returned (.bool true) ∧ Below w.heap.size w w' := by
  go_enter Try.func9, Try.ntmps9
  go_wp2_with fail
  refine (next12 10 3 2 0 0 0 (-1) 5 _).mono ?_
  rw [aw1]
  rintro e w1 ⟨rfl, hb⟩
  have HR := Lib.hid ((Rbox.new w 10 3 2 0 0 0 27).mono hb)
  have HB := Lib.hid (bthen ((Below.refl w.heap.size w).alloc (Nat.le_refl _) _) hb (by simp))
  have d0 := HR.out.r0
  have d1 := HR.out.r1
  have d2 := HR.out.r2
  have d3 := HR.out.r3
  have d4 := HR.out.r4
  have d5 := HR.out.r5
  clear hb
  go_wp2_with fail
  refine (awake13 10 3 2 0 0 0 (-1) 4 _).mono ?_
  rw [aw2]
  rintro e w2 ⟨rfl, hb⟩
  replace HR := Lib.hid (HR.out.mono hb)
  replace HB := Lib.hid (bthen HB.out hb HB.out.size)
  replace d0 := HR.out.r0
  replace d1 := HR.out.r1
  replace d2 := HR.out.r2
  replace d3 := HR.out.r3
  replace d4 := HR.out.r4
  replace d5 := HR.out.r5
  clear hb
  go_wp2_with fail
  refine (awake13 10 3 2 0 0 0 (-1) 5 _).mono ?_
  rw [aw3]
  rintro e w3 ⟨rfl, hb⟩
  replace HR := Lib.hid (HR.out.mono hb)
  replace HB := Lib.hid (bthen HB.out hb HB.out.size)
  replace d0 := HR.out.r0
  replace d1 := HR.out.r1
  replace d2 := HR.out.r2
  replace d3 := HR.out.r3
  replace d4 := HR.out.r4
  replace d5 := HR.out.r5
  clear hb
  go_wp2_with fail
  refine (cost18 10 3 2 0 0 0 1 _).mono ?_
  rw [aw4]
  rintro e w4 ⟨rfl, hb⟩
  replace HB := Lib.hid (bthen HB.out hb HB.out.size)
  clear hb
  go_wp2
  go_ret
  exact ⟨rfl, HB.out⟩
end Go.Proofs.Ytjbokpejfifamaa
