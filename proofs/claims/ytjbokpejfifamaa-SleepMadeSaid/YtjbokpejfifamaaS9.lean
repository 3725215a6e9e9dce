/- Layer 35: agree, and the walk of SleepRaw. -/
import Derived.Test.YtjbokpejfifamaaS8
namespace Go.Proofs.Ytjbokpejfifamaa
open Go.RowKit Go.Sort
set_option linter.unusedVariables false

theorem run_eq36 (x1 x2 : Int) (w : World) : (Go.binOp .eql 36 (.agg #[.int .i64 x1, .int .i64 x2]) (.agg #[.int .i64 x1, .int .i64 x2])).run Try.prog w = .ok (.bool true) w := by
  have u3 := Try.underlying3
  have hS : Try.prog.underlying 36 = some (.struct (Try.prog.fieldsOf 36)) := by kernel_rfl
  have hp : Try.prog.stoodInHeld 36 = false := by kernel_rfl
  rw [run_eql_struct, show (10000 : Nat) = 9999 + 1 from rfl, run_equalIn_agg w 9999 36 _ _ hS hp]
  simp only [Program.fieldsOf, Try.underlying36]
  go_simp
theorem guard36 : Try.prog.eqGuardType Try.prog.depth 36 = false := by kernel_rfl
attribute [local go_sem] gcell run_eq36 guard36 beq_self_eq_true

set_option maxRecDepth 100000 in
set_option maxHeartbeats 4000000 in
theorem agree14 (c o n l s h last bat tick k : Int) (got : Bool) (hbw : bat ≤ 9223372036854775807) (w : World) :
    Calls Try.prog 14 #[rv c o n l s h, .agg #[.int .i64 last, .int .i64 bat], .int .i64 tick, .int .i64 k, .bool got] w fun e w' => e = .returned (.bool true) ∧ Below w.heap.size w w' := by
  have HW := Lib.hid hbw
  clear hbw
  go_enter Try.func14, Try.ntmps14
  go_wp2_with fail
  refine (next12 c o n l s h last tick _).mono ?_
  rintro e w1 ⟨rfl, hb⟩
  have HB := Lib.hid (bthen (((Below.refl w.heap.size w).alloc (Nat.le_refl _) (.cells #[.int .i64 c, .int .i64 o, .int .i64 n, .int .i64 l, .int .i64 s, .int .i64 h] 27)).alloc (by simp) (.cells #[.int .i64 last, .int .i64 bat] 36)) hb (by simp; omega))
  have hR : Rbox w1 w.heap.size c o n l s h := ((Rbox.new w c o n l s h 27).mono ((Below.refl _ _).alloc (Nat.le_refl _) _)).mono hb
  have s0 : w1.cell? ⟨w.heap.size + 1, 0, none⟩ = some (.int .i64 last) := up hb (by simp [go_sem])
  have s1 : w1.cell? ⟨w.heap.size + 1, 1, none⟩ = some (.int .i64 bat) := up hb (by simp [go_sem])
  have HR := Lib.hid hR
  have d0 := hR.r0
  have d1 := hR.r1
  have d2 := hR.r2
  have d3 := hR.r3
  have d4 := hR.r4
  have d5 := hR.r5
  clear hR hb
  generalize hv : nextV ⟨c, o, n, l, s, h⟩ last tick = nv at *
  have HV := Lib.hid hv
  clear hv
  go_wp2_with fail
  refine (next23 c o n l s h last tick _).mono ?_
  rw [HV.out]
  rintro e w2 ⟨rfl, hb⟩
  replace HB := Lib.hid (bthen HB.out hb HB.out.size)
  replace HR := Lib.hid (HR.out.mono hb)
  replace s0 := up hb s0
  replace s1 := up hb s1
  replace d0 := HR.out.r0
  replace d1 := HR.out.r1
  replace d2 := HR.out.r2
  replace d3 := HR.out.r3
  replace d4 := HR.out.r4
  replace d5 := HR.out.r5
  have lt0 := lt_of_cell d0
  have lt1 := lt_of_cell s0
  clear hb
  go_wp2_with fail
  refine wp_region_quiet_below (by kernel_rfl) (by kernel_rfl) ?_
  repeat (go_big_quiet_step (first
    | (go_at_call 24; exact Calls.regrown_of (check24 _ _ _ _ _ _ _)) | (go_at_call 25; exact Calls.regrown_of (check25 _ _ _ _ _ _ _))
    | (go_at_call 13; exact Calls.regrown_of (awake13 _ _ _ _ _ _ _ _ _)) | (go_at_call 26; exact Calls.regrown_of (awake26 _ _ _ _ _ _ _ _ _))
    | (go_at_call 17; exact Calls.regrown_of (step17 _ _ _ _ _ _ _ _ _ _ _ HW.out)) | (go_at_call 16; exact Calls.regrown_of (step16 _ _ _ _ _ _ _ _ _ _ _ HW.out))
    | (go_at_call 18; exact Calls.regrown_of (cost18 _ _ _ _ _ _ _ _)) | (go_at_call 27; exact Calls.regrown_of (cost27 _ _ _ _ _ _ _ _))))
  refine wpQuiet_nil ?_
  intro w3 hw3
  replace HB := Lib.hid (bthen HB.out (below_of_regrown hw3) HB.out.size)
  clear hw3
  go_wp2
  go_ret
  exact ⟨rfl, HB.out⟩

set_option maxHeartbeats 4000000 in
theorem raw5 (c o n l s h last bat tick k : Int) (got : Bool) (hbw : bat ≤ 9223372036854775807) (w : World) :
    Calls Try.prog 5 #[rv c o n l s h, .agg #[.int .i64 last, .int .i64 bat], .int .i64 tick, .int .i64 k, .bool got] w fun e w' => e = .returned (.bool true) ∧ Below w.heap.size w w' := by
  have HW := Lib.hid hbw
  clear hbw
  go_enter Try.func5, Try.ntmps5
  go_wp2_with fail
  refine (agree14 c o n l s h last bat tick k got HW.out _).mono ?_
  rintro e w1 ⟨rfl, hb⟩
  have HB := Lib.hid (bthen (((Below.refl w.heap.size w).alloc (Nat.le_refl _) (.cells #[.int .i64 c, .int .i64 o, .int .i64 n, .int .i64 l, .int .i64 s, .int .i64 h] 27)).alloc (by simp) (.cells #[.int .i64 last, .int .i64 bat] 36)) hb (by simp; omega))
  clear hb
  go_wp2_with fail
  refine (awake9 _).mono ?_
  rintro e w2 ⟨rfl, hb⟩
  go_wp2
  go_ret
  exact ⟨rfl, bthen HB.out hb HB.out.size⟩
end Go.Proofs.Ytjbokpejfifamaa
