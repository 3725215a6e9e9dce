/- Layer 33: the sanity check. -/
import Derived.Test.YteokhadpenalaaaG10
namespace Go.Proofs.Yteokhadpenalaaa
set_option linter.unusedVariables false
set_option linter.unusedSimpArgs false
open Go.RowKit Go.Sort
attribute [local go_sem] gcell

def k0 : Nat → Int := fun _ => 0
def k2 : Nat → Int := fun _ => 2
theorem aw1 : plB 2 k0 k2 k2 2 2 = true := by decide
theorem aw2 : keptB 2 k0 k2 k2 2 2 = true := by decide
theorem aw3 : (who 2 k0 k2 k2 2 0).length = 2 := by decide
theorem aw4 : dm 2 k0 k2 k2 0 2 = 4 := by decide
theorem aw5 : fsB 2 k0 k2 k2 1 2 = false := by decide
theorem aw6 : fsB 2 k0 k2 k2 2 2 = true := by decide

set_option maxHeartbeats 2000000 in
theorem awake10 (w : World) : Calls Try.prog 10 #[] w fun e w' => e = .returned (.bool true) ∧ Below w.heap.size w w' := by
  have hR : R3 (w.alloc (.cells #[.int .i64 0, .int .i64 2, .int .i64 2, .int .i64 0, .int .i64 2, .int .i64 2] 39)) (some ⟨w.heap.size, 0, none⟩) 2 k0 k2 k2 := by
    refine ⟨w.heap.size, 0, fun _ => rfl, fun k hk => ?_⟩
    match k, hk with
    | 0, _ => simp [go_sem, k0, k2]
    | 1, _ => simp [go_sem, k0, k2]
  have HR := Lib.hid hR
  have HB := Lib.hid (below_alloc w (.cells #[.int .i64 0, .int .i64 2, .int .i64 2, .int .i64 0, .int .i64 2, .int .i64 2] 39))
  have hml : (2 : Nat) ≤ maxLen := by decide
  clear hR
  go_enter Try.func10, Try.ntmps10
  go_wp2_with fail
  refine (plan15 _ 2 2 k0 k2 k2 2 2 _ HR.out hml).mono ?_
  rintro e w1 ⟨v, rfl, hrows, hb⟩
  rw [aw1, show ((2 : Int)).toNat = 2 from rfl, aw2, if_pos rfl] at *
  have HR1 := Lib.hid (HR.out.mono hb)
  have HB1 := Lib.hid (bthen HB.out hb HB.out.size)
  obtain ⟨a, c, b, o, A, C, rfl, h2, h3⟩ := hrows
  obtain rfl := h2 (by omega)
  have x0 := (h3 0 (by omega)).1
  rw [aw3, Nat.add_zero] at x0
  have X0 := Lib.hid x0
  have d4 := fun w R => demand18 (some ⟨w1.heap.size, 0, none⟩) 2 2 k0 k2 k2 0 2 w R hml
  clear h2 h3 hb HR HB d4 x0
  go_wp2_with fail
  refine (demand18 _ 2 2 k0 k2 k2 0 2 _ HR1.out hml).mono ?_
  rw [aw4]
  rintro e w2 ⟨rfl, hb⟩
  have HR2 := Lib.hid (HR1.out.mono hb)
  have HB2 := Lib.hid (bthen HB1.out hb HB1.out.size)
  have X2 := Lib.hid (up hb X0.out)
  clear hb HR1 HB1 X0
  go_wp2_with fail
  refine (feasible16 _ 2 2 k0 k2 k2 1 2 _ HR2.out hml).mono ?_
  rw [aw5]
  rintro e w3 ⟨rfl, hb⟩
  have HR3 := Lib.hid (HR2.out.mono hb)
  have HB3 := Lib.hid (bthen HB2.out hb HB2.out.size)
  have X3 := Lib.hid (up hb X2.out)
  clear hb HR2 HB2 X2
  go_wp2_with fail
  refine (feasible16 _ 2 2 k0 k2 k2 2 2 _ HR3.out hml).mono ?_
  rw [aw6]
  rintro e w4 ⟨rfl, hb⟩
  have HB4 := Lib.hid (bthen HB3.out hb HB3.out.size)
  have x4 := up hb X3.out
  clear hb HR3 HB3 X3
  go_wp2
  go_ret
  exact ⟨rfl, HB4.out⟩
end Go.Proofs.Yteokhadpenalaaa
