/- Layer 33: the walk of GuaranteeWindows. -/
import Derived.Test.YteokhadpenalaaaG11
namespace Go.Proofs.Yteokhadpenalaaa
set_option linter.unusedVariables false
set_option linter.unusedSimpArgs false
open Go.RowKit Go.Sort
attribute [local go_sem] gcell beq_self_eq_true

theorem rel_plus {F W t : Int} (hW : 1 ≤ W) : rel F W (rel F W t + W) = rel F W t + W := by
  have e : (rel F W t + W - F) / W = (t - F) / W + 1 := by
    refine div_uniq hW ?_ ?_
    · unfold rel; rw [Int.add_mul]; omega
    · unfold rel; rw [Int.add_mul]; omega
  unfold rel at e ⊢
  rw [e, Int.add_mul]
  omega
theorem rel_dvd {F W t : Int} (hW : 1 ≤ W) : (rel F W t - F) % W = 0 := by
  have : rel F W t - F = (t - F) / W * W := by unfold rel; omega
  rw [this]
  exact Int.mul_emod_left _ _
set_option maxRecDepth 100000 in
set_option maxHeartbeats 4000000 in
theorem windows7 (x0 x1 x2 : Int) (b0 : 0 ≤ x0 ∧ x0 ≤ 255) (b1 : 0 ≤ x1 ∧ x1 ≤ 255) (b2 : 0 ≤ x2 ∧ x2 ≤ 65535) (w : World) :
    Calls Try.prog 7 #[.int .u8 x0, .int .u8 x1, .int .u16 x2] w fun e w' => e = .returned (.bool true) ∧ Below w.heap.size w w' := by
  have hm : 0 ≤ x1 % 64 ∧ x1 % 64 ≤ 63 := by omega
  have HB := Lib.hid (below_alloc w (.cells #[.int .i64 x0, .int .i64 (1 + x1 % 64), .int .i64 0] 39))
  have hv : vg x0 (1 + x1 % 64) 0 = true := decide_eq_true (by omega)
  have K := fun t => window17 x0 (1 + x1 % 64) 0 t
  have C0 := Lib.hid (show (w.alloc (.cells #[.int .i64 x0, .int .i64 (1 + x1 % 64), .int .i64 0] 39)).cell? ⟨w.heap.size, 0, none⟩ = some (.int .i64 x0) by simp [go_sem])
  have C1 := Lib.hid (show (w.alloc (.cells #[.int .i64 x0, .int .i64 (1 + x1 % 64), .int .i64 0] 39)).cell? ⟨w.heap.size, 1, none⟩ = some (.int .i64 (1 + x1 % 64)) by simp [go_sem])
  have C2 := Lib.hid (show (w.alloc (.cells #[.int .i64 x0, .int .i64 (1 + x1 % 64), .int .i64 0] 39)).cell? ⟨w.heap.size, 2, none⟩ = some (.int .i64 0) by simp [go_sem])
  unfold gvv at K
  by_cases h : x2 < x0
  · have hw : win x0 (1 + x1 % 64) 0 x2 = (0, 0) := if_neg (by omega)
    have k := K x2
    rw [hw] at k
    have HK := Lib.hid k
    clear K k hw hv
    go_enter Try.func7, Try.ntmps7
    go_wp2_with fail
    refine (HK.out _).mono ?_
    rintro e w1 ⟨rfl, hb⟩
    have HB1 := Lib.hid (bthen HB.out hb HB.out.size)
    have c0 := up hb C0.out
    clear hb
    go_wp2_with fail
    refine (awake10 _).mono ?_
    rintro e w2 ⟨rfl, hb⟩
    have HB2 := Lib.hid (bthen HB1.out hb HB1.out.size)
    clear hb
    go_wp2
    go_ret
    exact ⟨rfl, HB2.out⟩
  · have hbd := rel_bd (F := x0) x2 (show 1 ≤ 1 + x1 % 64 by omega)
    have hge := rel_ge (F := x0) (t := x2) (show 1 ≤ 1 + x1 % 64 by omega) (by omega)
    have hpl := rel_plus (F := x0) (t := x2) (show 1 ≤ 1 + x1 % 64 by omega)
    have hdv := rel_dvd (F := x0) (t := x2) (show 1 ≤ 1 + x1 % 64 by omega)
    have hw : win x0 (1 + x1 % 64) 0 x2 = (rel x0 (1 + x1 % 64) x2, rel x0 (1 + x1 % 64) x2 + (1 + x1 % 64)) := if_pos ⟨hv, by omega, by omega⟩
    have hw2 : win x0 (1 + x1 % 64) 0 (rel x0 (1 + x1 % 64) x2 + (1 + x1 % 64)) = (rel x0 (1 + x1 % 64) x2 + (1 + x1 % 64), rel x0 (1 + x1 % 64) x2 + (1 + x1 % 64) + (1 + x1 % 64)) := by
      unfold win
      rw [if_pos ⟨hv, by omega, by omega⟩, hpl]
    have k := K x2
    have k' := K (rel x0 (1 + x1 % 64) x2 + (1 + x1 % 64))
    rw [hw] at k
    rw [hw2] at k'
    have HK := Lib.hid k
    have HK' := Lib.hid k'
    clear K k k' hw hw2 hv hpl
    go_enter Try.func7, Try.ntmps7
    go_wp2_with fail
    refine (HK.out _).mono ?_
    rintro e w1 ⟨rfl, hb⟩
    have HB1 := Lib.hid (bthen HB.out hb HB.out.size)
    have c0 := up hb C0.out
    have c1 := up hb C1.out
    have c2 := up hb C2.out
    have C0' := Lib.hid c0
    have C1' := Lib.hid c1
    clear hb C0 C1 C2
    go_wp2_with fail
    refine (HK'.out _).mono ?_
    rintro e w2 ⟨rfl, hb⟩
    have HB2 := Lib.hid (bthen HB1.out hb HB1.out.size)
    clear c0 c1 c2
    have c0 := up hb C0'.out
    have c1 := up hb C1'.out
    clear hb HK HK' C0' C1' HB HB1
    have bu : 1 ≤ 1 + x1 % 64 ∧ 1 + x1 % 64 ≤ 64 := by omega
    generalize rel x0 (1 + x1 % 64) x2 = y at *
    generalize 1 + x1 % 64 = u at *
    have q1 : (y + u - y == u) = true := by rw [show y + u - y = u by omega]; exact beq_self_eq_true _
    have q2 : ((y - x0) % u == 0) = true := by rw [hdv]; rfl
    have nz : (u == 0) = false := beq_eq_false_iff_ne.2 (by omega)
    have n1 : (u == -1) = false := beq_eq_false_iff_ne.2 (by omega)
    clear hdv
    go_wp2_with fail
    refine (awake10 _).mono ?_
    rintro e w3 ⟨rfl, hb⟩
    have HB3 := Lib.hid (bthen HB2.out hb HB2.out.size)
    clear hb
    go_wp2
    go_ret
    exact ⟨rfl, HB3.out⟩
end Go.Proofs.Yteokhadpenalaaa
