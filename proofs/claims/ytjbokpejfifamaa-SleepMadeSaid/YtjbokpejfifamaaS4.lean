/- Layer 35: the reference's Awake. -/
import Derived.Test.YtjbokpejfifamaaS2
namespace Go.Proofs.Ytjbokpejfifamaa
open Go.RowKit Go.Sort
attribute [local go_sem] gcell
set_option linter.unusedVariables false

theorem awk_look' {r : Rh} {last t : Int} (h : lookB r last t 1048576 = false) : awk r last t = false := by unfold awk; rw [h]; rfl
theorem awk_lis' {r : Rh} {last t : Int} (h : lookB r last t 1048576 = true) : awk r last t = lis r last t := by unfold awk; rw [h]; rfl

/-- The reference's way: in the order of its tests. -/
theorem lis_cyc {r : Rh} {last t : Int} (h : (t + r.c - r.o) % r.c < r.n) : lis r last t = true := by
  unfold lis cyc; simp [h]
theorem lis_none {r : Rh} {last t : Int} (h : ¬ (t + r.c - r.o) % r.c < r.n) (h2 : last < 0) : lis r last t = false := by
  unfold lis cyc ling shrt; simp; omega
theorem lis_ling {r : Rh} {last t : Int} (h2 : 0 ≤ last) (h3 : t - last - r.l - 1 < 0) : lis r last t = true := by
  unfold lis ling; simp; omega
theorem lis_no {r : Rh} {last t : Int} (h : ¬ (t + r.c - r.o) % r.c < r.n) (h3 : ¬ t - last - r.l - 1 < 0) (h4 : ¬ 0 < r.s ∨ ¬ (t - last - r.l - 1) / r.s < r.h) : lis r last t = false := by
  unfold lis cyc ling shrt; simp; omega
theorem lis_short {r : Rh} {last t : Int} (h : ¬ (t + r.c - r.o) % r.c < r.n) (h2 : 0 ≤ last) (h3 : ¬ t - last - r.l - 1 < 0) (h4 : 0 < r.s) (h5 : (t - last - r.l - 1) / r.s < r.h) : lis r last t = decide ((t - last - r.l - 1) % r.s < r.n) := by
  unfold lis cyc ling shrt; rw [Bool.eq_iff_iff]; simp; omega

set_option maxHeartbeats 4000000 in
theorem awake26 (c o n l s h last tick : Int) (w : World) : Calls Try.prog 26 #[rv c o n l s h, .int .i64 last, .int .i64 tick] w fun e w' => e = .returned (.bool (awk ⟨c, o, n, l, s, h⟩ last tick)) ∧ Below w.heap.size w w' := by
  have HC := Lib.hid (fun w => looks29 c o n l s h last tick w)
  cases hl : lookB ⟨c, o, n, l, s, h⟩ last tick 1048576
  case false =>
    rw [hl] at HC
    rw [awk_look' hl]
    clear hl
    go_enter Try.func26, Try.ntmps26
    go_wp2_with (go_at_call 29; refine (HC.out _).mono ?_; rintro e w' ⟨rfl, hb⟩)
    go_ret
    exact ⟨rfl, bthen ((Below.refl _ _).alloc (Nat.le_refl _) _) hb (by simp)⟩
  rw [hl] at HC
  rw [awk_lis' hl]
  obtain ⟨b1, b2, b3, b4, b5, b6, b7, b8⟩ := look_bounds hl
  have s0 : 0 ≤ s ∧ s ≤ 256 := by omega
  have hcz : (c == 0) = false := beq_eq_false_iff_ne.2 (by omega)
  have hm : 0 ≤ tick + c - o := by omega
  clear hl b5
  by_cases g1 : (tick + c - o) % c < n
  case pos =>
    rw [lis_cyc (r := ⟨c, o, n, l, s, h⟩) g1]
    have q1 : decide ((tick + c - o) % c < n) = true := by simpa using g1
    go_enter Try.func26, Try.ntmps26
    go_wp2_with fail
    refine (HC.out _).mono ?_
    rintro e w1 ⟨rfl, hb⟩
    have HB := Lib.hid (bthen ((Below.refl w.heap.size w).alloc (Nat.le_refl _) _) hb (by simp))
    have d0 : w1.cell? ⟨w.heap.size, 0, none⟩ = some (.int .i64 c) := (hb.cell (by simp)).trans (by simp)
    have d1 : w1.cell? ⟨w.heap.size, 1, none⟩ = some (.int .i64 o) := (hb.cell (by simp)).trans (by simp)
    have d2 : w1.cell? ⟨w.heap.size, 2, none⟩ = some (.int .i64 n) := (hb.cell (by simp)).trans (by simp)
    have d3 : w1.cell? ⟨w.heap.size, 3, none⟩ = some (.int .i64 l) := (hb.cell (by simp)).trans (by simp)
    have d4 : w1.cell? ⟨w.heap.size, 4, none⟩ = some (.int .i64 s) := (hb.cell (by simp)).trans (by simp)
    have d5 : w1.cell? ⟨w.heap.size, 5, none⟩ = some (.int .i64 h) := (hb.cell (by simp)).trans (by simp)
    have lt := lt_of_cell d0
    clear hb
    go_wp2_with fail
    refine wp_region_quiet_below (by kernel_rfl) (by kernel_rfl) ?_
    repeat (go_big_quiet_step (fail))
    refine wpQuiet_nil ?_
    intro w2 hw2
    have hb2 := below_of_regrown hw2
    replace HB := Lib.hid (bthen HB.out hb2 HB.out.size)
    replace d0 := up hb2 d0
    replace d1 := up hb2 d1
    replace d2 := up hb2 d2
    replace d3 := up hb2 d3
    replace d4 := up hb2 d4
    replace d5 := up hb2 d5
    replace lt := lt_of_cell d0
    clear hb2 hw2
    go_wp2
    go_ret
    exact ⟨rfl, HB.out⟩
  have q1 : decide ((tick + c - o) % c < n) = false := by simpa using g1
  by_cases g2 : last < 0
  case pos =>
    rw [lis_none (r := ⟨c, o, n, l, s, h⟩) g1 g2]
    have q2 : (last == -1) = true := beq_iff_eq.2 (by omega)
    go_enter Try.func26, Try.ntmps26
    go_wp2_with fail
    refine (HC.out _).mono ?_
    rintro e w1 ⟨rfl, hb⟩
    have HB := Lib.hid (bthen ((Below.refl w.heap.size w).alloc (Nat.le_refl _) _) hb (by simp))
    have d0 : w1.cell? ⟨w.heap.size, 0, none⟩ = some (.int .i64 c) := (hb.cell (by simp)).trans (by simp)
    have d1 : w1.cell? ⟨w.heap.size, 1, none⟩ = some (.int .i64 o) := (hb.cell (by simp)).trans (by simp)
    have d2 : w1.cell? ⟨w.heap.size, 2, none⟩ = some (.int .i64 n) := (hb.cell (by simp)).trans (by simp)
    have d3 : w1.cell? ⟨w.heap.size, 3, none⟩ = some (.int .i64 l) := (hb.cell (by simp)).trans (by simp)
    have d4 : w1.cell? ⟨w.heap.size, 4, none⟩ = some (.int .i64 s) := (hb.cell (by simp)).trans (by simp)
    have d5 : w1.cell? ⟨w.heap.size, 5, none⟩ = some (.int .i64 h) := (hb.cell (by simp)).trans (by simp)
    have lt := lt_of_cell d0
    clear hb
    go_wp2_with fail
    refine wp_region_quiet_below (by kernel_rfl) (by kernel_rfl) ?_
    repeat (go_big_quiet_step (fail))
    refine wpQuiet_nil ?_
    intro w2 hw2
    have hb2 := below_of_regrown hw2
    replace HB := Lib.hid (bthen HB.out hb2 HB.out.size)
    replace d0 := up hb2 d0
    replace d1 := up hb2 d1
    replace d2 := up hb2 d2
    replace d3 := up hb2 d3
    replace d4 := up hb2 d4
    replace d5 := up hb2 d5
    replace lt := lt_of_cell d0
    clear hb2 hw2
    go_wp2
    go_ret
    exact ⟨rfl, HB.out⟩
  have q2 : (last == -1) = false := beq_eq_false_iff_ne.2 (by omega)
  by_cases g3 : tick - last - l - 1 < 0
  case pos =>
    rw [lis_ling (r := ⟨c, o, n, l, s, h⟩) (by omega) g3]
    have q3 : decide (tick - last - l - 1 < 0) = true := by simpa using g3
    go_enter Try.func26, Try.ntmps26
    go_wp2_with fail
    refine (HC.out _).mono ?_
    rintro e w1 ⟨rfl, hb⟩
    have HB := Lib.hid (bthen ((Below.refl w.heap.size w).alloc (Nat.le_refl _) _) hb (by simp))
    have d0 : w1.cell? ⟨w.heap.size, 0, none⟩ = some (.int .i64 c) := (hb.cell (by simp)).trans (by simp)
    have d1 : w1.cell? ⟨w.heap.size, 1, none⟩ = some (.int .i64 o) := (hb.cell (by simp)).trans (by simp)
    have d2 : w1.cell? ⟨w.heap.size, 2, none⟩ = some (.int .i64 n) := (hb.cell (by simp)).trans (by simp)
    have d3 : w1.cell? ⟨w.heap.size, 3, none⟩ = some (.int .i64 l) := (hb.cell (by simp)).trans (by simp)
    have d4 : w1.cell? ⟨w.heap.size, 4, none⟩ = some (.int .i64 s) := (hb.cell (by simp)).trans (by simp)
    have d5 : w1.cell? ⟨w.heap.size, 5, none⟩ = some (.int .i64 h) := (hb.cell (by simp)).trans (by simp)
    have lt := lt_of_cell d0
    clear hb
    go_wp2_with fail
    refine wp_region_quiet_below (by kernel_rfl) (by kernel_rfl) ?_
    repeat (go_big_quiet_step (fail))
    refine wpQuiet_nil ?_
    intro w2 hw2
    have hb2 := below_of_regrown hw2
    replace HB := Lib.hid (bthen HB.out hb2 HB.out.size)
    replace d0 := up hb2 d0
    replace d1 := up hb2 d1
    replace d2 := up hb2 d2
    replace d3 := up hb2 d3
    replace d4 := up hb2 d4
    replace d5 := up hb2 d5
    replace lt := lt_of_cell d0
    clear hb2 hw2
    go_wp2_with fail
    refine wp_region_quiet_below (by kernel_rfl) (by kernel_rfl) ?_
    repeat (go_big_quiet_step (fail))
    refine wpQuiet_nil ?_
    intro w3 hw3
    replace HB := Lib.hid (bthen HB.out (below_of_regrown hw3) HB.out.size)
    clear hw3
    go_wp2
    go_ret
    exact ⟨rfl, HB.out⟩
  have q3 : decide (tick - last - l - 1 < 0) = false := by simpa using g3
  have q3' : 0 ≤ tick - last - l - 1 := by omega
  by_cases g4 : 0 < s
  case neg =>
    rw [lis_no (r := ⟨c, o, n, l, s, h⟩) g1 g3 (.inl g4)]
    have q4 : decide (0 < s) = false := by simpa using g4
    go_enter Try.func26, Try.ntmps26
    go_wp2_with fail
    refine (HC.out _).mono ?_
    rintro e w1 ⟨rfl, hb⟩
    have HB := Lib.hid (bthen ((Below.refl w.heap.size w).alloc (Nat.le_refl _) _) hb (by simp))
    have d0 : w1.cell? ⟨w.heap.size, 0, none⟩ = some (.int .i64 c) := (hb.cell (by simp)).trans (by simp)
    have d1 : w1.cell? ⟨w.heap.size, 1, none⟩ = some (.int .i64 o) := (hb.cell (by simp)).trans (by simp)
    have d2 : w1.cell? ⟨w.heap.size, 2, none⟩ = some (.int .i64 n) := (hb.cell (by simp)).trans (by simp)
    have d3 : w1.cell? ⟨w.heap.size, 3, none⟩ = some (.int .i64 l) := (hb.cell (by simp)).trans (by simp)
    have d4 : w1.cell? ⟨w.heap.size, 4, none⟩ = some (.int .i64 s) := (hb.cell (by simp)).trans (by simp)
    have d5 : w1.cell? ⟨w.heap.size, 5, none⟩ = some (.int .i64 h) := (hb.cell (by simp)).trans (by simp)
    have lt := lt_of_cell d0
    clear hb
    go_wp2_with fail
    refine wp_region_quiet_below (by kernel_rfl) (by kernel_rfl) ?_
    repeat (go_big_quiet_step (fail))
    refine wpQuiet_nil ?_
    intro w2 hw2
    have hb2 := below_of_regrown hw2
    replace HB := Lib.hid (bthen HB.out hb2 HB.out.size)
    replace d0 := up hb2 d0
    replace d1 := up hb2 d1
    replace d2 := up hb2 d2
    replace d3 := up hb2 d3
    replace d4 := up hb2 d4
    replace d5 := up hb2 d5
    replace lt := lt_of_cell d0
    clear hb2 hw2
    go_wp2_with fail
    refine wp_region_quiet_below (by kernel_rfl) (by kernel_rfl) ?_
    repeat (go_big_quiet_step (fail))
    refine wpQuiet_nil ?_
    intro w3 hw3
    replace HB := Lib.hid (bthen HB.out (below_of_regrown hw3) HB.out.size)
    clear hw3
    go_wp2
    go_ret
    exact ⟨rfl, HB.out⟩
  have q4 : decide (0 < s) = true := by simpa using g4
  have sz : (s == 0) = false := beq_eq_false_iff_ne.2 (by omega)
  by_cases g5 : (tick - last - l - 1) / s < h
  case neg =>
    rw [lis_no (r := ⟨c, o, n, l, s, h⟩) g1 g3 (.inr g5)]
    have q5 : decide ((tick - last - l - 1) / s < h) = false := by simpa using g5
    go_enter Try.func26, Try.ntmps26
    go_wp2_with fail
    refine (HC.out _).mono ?_
    rintro e w1 ⟨rfl, hb⟩
    have HB := Lib.hid (bthen ((Below.refl w.heap.size w).alloc (Nat.le_refl _) _) hb (by simp))
    have d0 : w1.cell? ⟨w.heap.size, 0, none⟩ = some (.int .i64 c) := (hb.cell (by simp)).trans (by simp)
    have d1 : w1.cell? ⟨w.heap.size, 1, none⟩ = some (.int .i64 o) := (hb.cell (by simp)).trans (by simp)
    have d2 : w1.cell? ⟨w.heap.size, 2, none⟩ = some (.int .i64 n) := (hb.cell (by simp)).trans (by simp)
    have d3 : w1.cell? ⟨w.heap.size, 3, none⟩ = some (.int .i64 l) := (hb.cell (by simp)).trans (by simp)
    have d4 : w1.cell? ⟨w.heap.size, 4, none⟩ = some (.int .i64 s) := (hb.cell (by simp)).trans (by simp)
    have d5 : w1.cell? ⟨w.heap.size, 5, none⟩ = some (.int .i64 h) := (hb.cell (by simp)).trans (by simp)
    have lt := lt_of_cell d0
    clear hb
    go_wp2_with fail
    refine wp_region_quiet_below (by kernel_rfl) (by kernel_rfl) ?_
    repeat (go_big_quiet_step (fail))
    refine wpQuiet_nil ?_
    intro w2 hw2
    have hb2 := below_of_regrown hw2
    replace HB := Lib.hid (bthen HB.out hb2 HB.out.size)
    replace d0 := up hb2 d0
    replace d1 := up hb2 d1
    replace d2 := up hb2 d2
    replace d3 := up hb2 d3
    replace d4 := up hb2 d4
    replace d5 := up hb2 d5
    replace lt := lt_of_cell d0
    clear hb2 hw2
    go_wp2_with fail
    refine wp_region_quiet_below (by kernel_rfl) (by kernel_rfl) ?_
    repeat (go_big_quiet_step (fail))
    refine wpQuiet_nil ?_
    intro w3 hw3
    replace HB := Lib.hid (bthen HB.out (below_of_regrown hw3) HB.out.size)
    clear hw3
    go_wp2
    go_ret
    exact ⟨rfl, HB.out⟩
  case pos =>
    rw [lis_short (r := ⟨c, o, n, l, s, h⟩) g1 (by omega) g3 g4 g5]
    have q5 : decide ((tick - last - l - 1) / s < h) = true := by simpa using g5
    go_enter Try.func26, Try.ntmps26
    go_wp2_with fail
    refine (HC.out _).mono ?_
    rintro e w1 ⟨rfl, hb⟩
    have HB := Lib.hid (bthen ((Below.refl w.heap.size w).alloc (Nat.le_refl _) _) hb (by simp))
    have d0 : w1.cell? ⟨w.heap.size, 0, none⟩ = some (.int .i64 c) := (hb.cell (by simp)).trans (by simp)
    have d1 : w1.cell? ⟨w.heap.size, 1, none⟩ = some (.int .i64 o) := (hb.cell (by simp)).trans (by simp)
    have d2 : w1.cell? ⟨w.heap.size, 2, none⟩ = some (.int .i64 n) := (hb.cell (by simp)).trans (by simp)
    have d3 : w1.cell? ⟨w.heap.size, 3, none⟩ = some (.int .i64 l) := (hb.cell (by simp)).trans (by simp)
    have d4 : w1.cell? ⟨w.heap.size, 4, none⟩ = some (.int .i64 s) := (hb.cell (by simp)).trans (by simp)
    have d5 : w1.cell? ⟨w.heap.size, 5, none⟩ = some (.int .i64 h) := (hb.cell (by simp)).trans (by simp)
    have lt := lt_of_cell d0
    clear hb
    go_wp2_with fail
    refine wp_region_quiet_below (by kernel_rfl) (by kernel_rfl) ?_
    repeat (go_big_quiet_step (fail))
    refine wpQuiet_nil ?_
    intro w2 hw2
    have hb2 := below_of_regrown hw2
    replace HB := Lib.hid (bthen HB.out hb2 HB.out.size)
    replace d0 := up hb2 d0
    replace d1 := up hb2 d1
    replace d2 := up hb2 d2
    replace d3 := up hb2 d3
    replace d4 := up hb2 d4
    replace d5 := up hb2 d5
    replace lt := lt_of_cell d0
    clear hb2 hw2
    go_wp2_with fail
    refine wp_region_quiet_below (by kernel_rfl) (by kernel_rfl) ?_
    repeat (go_big_quiet_step (fail))
    refine wpQuiet_nil ?_
    intro w3 hw3
    replace HB := Lib.hid (bthen HB.out (below_of_regrown hw3) HB.out.size)
    clear hw3
    go_wp2
    go_ret
    exact ⟨rfl, HB.out⟩
end Go.Proofs.Ytjbokpejfifamaa
