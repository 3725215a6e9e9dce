/- awake and the laws. -/
import Derived.Test.YtkjadgjambphjaaW5
namespace Go.Proofs.Ytkjadgjambphjaa
open Go.RowKit Go.Sort
attribute [local go_sem] gcell
set_option linter.unusedVariables false

theorem run_field23 (x : Int) (w : World) : (Instr.field 23 (.agg #[.int .i64 x]) 0).run Try.prog w = .ok (.int .i64 x) w := by kernel_rfl
attribute [local go_sem] run_field23

def aR : Nat → Int := fun k => if k = 0 then 5 else if k = 1 then 5 else 0
def aM : Nat → Int := fun k => if k = 0 then 100 else if k = 1 then 50 else 0
theorem aBest1 : (theBest aR aM 3).1 = 1 := by decide
theorem aBest2 : (theBest aR aM 3).2 = true := by decide
theorem aLearn : learn 0 10 = 40 := by decide
theorem aLearn2 : learn 40 0 = 38 := by decide

set_option maxHeartbeats 1000000 in
theorem awake7 (w : World) :
    Calls Try.prog 7 #[] w fun e w' => e = .returned (.bool true) ∧ Below w.heap.size w w' := by
  go_enter Try.func7, Try.ntmps7
  go_wp2_with fail
  refine (learn10 _ _ _).mono ?_
  rw [aLearn]
  rintro e w1 ⟨rfl, hb⟩
  obtain ⟨hc, hf⟩ := bcell hb
  go_wp2_with fail
  refine (best8 _ _ _ 3 _ _ aR aM (by decide) ⟨w1.heap.size + 1, 0, fun _ => rfl, fun k hk => ?_⟩ ⟨w1.heap.size + 2, 0, fun _ => rfl, fun k hk => ?_⟩).mono ?_
  · match k, hk with
    | 0, _ => simp [go_sem, aR]
    | 1, _ => simp [go_sem, aR]
    | 2, _ => simp [go_sem, aR]
  · match k, hk with
    | 0, _ => simp [go_sem, aM]
    | 1, _ => simp [go_sem, aM]
    | 2, _ => simp [go_sem, aM]
  rw [aBest1, aBest2]
  rintro e w2 ⟨rfl, hb2⟩
  obtain ⟨hc2, hf2⟩ := bcell hb2
  have c1 : w2.cell? ⟨w1.heap.size, 0, none⟩ = some (.int .i64 40) := by rw [hc2 _ _ (by simp; omega)]; simp [go_sem]
  have l1 := lt_of_cell c1
  have hB : Below w.heap.size w w2 := ((((hb.alloc hb.size _).alloc (by have := hb.size; simp; omega) _).alloc (by have := hb.size; simp; omega) _)).trans (hb2.mono (by have := hb.size; simp; omega))
  have HB := Lib.hid hB
  clear hc2 hf2 hb2 hB hc hf hb
  go_wp2_with fail
  refine (learn10 _ _ _).mono ?_
  rw [aLearn2]
  rintro e w3 ⟨rfl, hb3⟩
  go_wp2
  go_ret
  exact ⟨rfl, HB.out.trans (hb3.mono HB.out.size)⟩

theorem Row.of_below {w w' : World} {a : Option Addr} {n : Nat} {xs : Nat → Int} (h : Row w a n xs) (hb : Below w.heap.size w w') : Row w' a n xs :=
  let ⟨b, m, h1, h2⟩ := h
  ⟨b, m, h1, fun k hk => by rw [hb.cell (lt_of_cell (h2 k hk))]; exact h2 k hk⟩

theorem run_eq23 (x y : Int) (w : World) : (Go.binOp .eql 23 (.agg #[.int .i64 x]) (.agg #[.int .i64 y])).run Try.prog w = .ok (.bool (x == y)) w := by
  have u3 := Try.underlying3
  have hS : Try.prog.underlying 23 = some (.struct (Try.prog.fieldsOf 23)) := by kernel_rfl
  have hp : Try.prog.stoodInHeld 23 = false := by kernel_rfl
  rw [run_eql_struct, show (10000 : Nat) = 9999 + 1 from rfl, run_equalIn_agg w 9999 23 _ _ hS hp]
  simp only [Program.fieldsOf, Try.underlying23]
  go_simp
  by_cases h1 : x = y <;> simp [h1]
theorem guard23 : Try.prog.eqGuardType Try.prog.depth 23 = false := by kernel_rfl

def theB (rs ms : Nat → Int) (n m : Nat) : Int × Bool := if n = m then theBest rs ms n else (0, false)

theorem best8_any (w : World) (ar am : Option Addr) (n m cr cm : Nat) (rs ms : Nat → Int) (hn : n ≤ maxLen) (R : Row w ar n rs) (M : Row w am m ms) :
    Calls Try.prog 8 #[.slice ar n cr, .slice am m cm] w fun e w' => e = .returned (.tuple #[.int .i64 (theB rs ms n m).1, .bool (theB rs ms n m).2]) ∧ Below w.heap.size w w' := by
  by_cases h : n = m
  · subst h; unfold theB; rw [if_pos rfl]; exact best8 w ar am n cr cm rs ms hn R M
  · unfold theB; rw [if_neg h]; exact best8_no w ar am n m cr cm h
theorem best9_any (w : World) (ar am : Option Addr) (n m cr cm : Nat) (rs ms : Nat → Int) (hn : n ≤ maxLen) (R : Row w ar n rs) (M : Row w am m ms) :
    Calls Try.prog 9 #[.slice ar n cr, .slice am m cm] w fun e w' => e = .returned (.tuple #[.int .i64 (theB rs ms n m).1, .bool (theB rs ms n m).2]) ∧ Below w.heap.size w w' := by
  by_cases h : n = m
  · subst h; unfold theB; rw [if_pos rfl]; exact best9 w ar am n cr cm rs ms hn R M
  · unfold theB; rw [if_neg h]; exact best9_no w ar am n m cr cm h

attribute [local go_sem] run_eq23 guard23 beq_self_eq_true

set_option maxHeartbeats 2000000 in
theorem fairExact3 (m n b r q : Int) (ar am : Option Addr) (k1 k2 cr cm : Nat) (rs ms : Nat → Int) (h1 : k1 ≤ 140737488351232) (h2 : k2 ≤ 140737488351232) (w : World) (R : Row w ar k1 rs) (M : Row w am k2 ms) :
    Calls Try.prog 3 #[.agg #[.int .i64 m], .agg #[.int .i64 n], .int .i64 b, .int .i64 r, .int .i64 q, .slice ar k1 cr, .slice am k2 cm] w fun e w' => e = .returned (.bool true) ∧ Below w.heap.size w w' := by
  have HR := Lib.hid R
  have HM := Lib.hid M
  clear R M
  by_cases h100 : (100 : Int) < (k1 : Int) + (k2 : Int)
  · go_enter Try.func3, Try.ntmps3
    go_wp2_with (go_at_call 7; refine (awake7 _).mono ?_; rintro e w' ⟨rfl, hb⟩)
    go_ret
    exact ⟨rfl, (((Below.refl _ _).alloc (Nat.le_refl _) _).alloc (by simp) _).trans (hb.mono (by simp; omega))⟩
  · have hB0 : Below w.heap.size w ((w.alloc (.cells #[.int .i64 m] 23)).alloc (.cells #[.int .i64 n] 23)) := ((Below.refl _ _).alloc (Nat.le_refl _) _).alloc (by simp) _
    have HB0 := Lib.hid hB0
    clear hB0
    have hm : k1 ≤ maxLen := by unfold maxLen; omega
    have HMX := Lib.hid hm
    clear hm
    go_enter Try.func3, Try.ntmps3
    go_wp2_with fail
    refine (best8_any _ _ _ _ _ _ _ rs ms HMX.out (HR.out.of_below HB0.out) (HM.out.of_below HB0.out)).mono ?_
    rintro e w1 ⟨rfl, hb1⟩
    obtain ⟨hc, hf⟩ := bcell hb1
    have c1 : w1.cell? ⟨w.heap.size, 0, none⟩ = some (.int .i64 m) := by rw [hc _ _ (by simp; omega)]; simp [go_sem]
    have c2 : w1.cell? ⟨w.heap.size + 1, 0, none⟩ = some (.int .i64 n) := by rw [hc _ _ (by simp)]; simp [go_sem]
    clear hc hf
    have HB1 := Lib.hid (HB0.out.trans (hb1.mono (by simp; omega)))
    clear hb1
    go_wp2_with fail
    refine (best9_any _ _ _ _ _ _ _ rs ms HMX.out (HR.out.of_below HB1.out) (HM.out.of_below HB1.out)).mono ?_
    rintro e w2 ⟨rfl, hb2⟩
    have d1 := (hb2.cell (lt_of_cell c1)).trans c1
    have d2 := (hb2.cell (lt_of_cell c2)).trans c2
    have l1 := lt_of_cell d1
    have l2 := lt_of_cell d2
    have HB2 := Lib.hid (HB1.out.trans (hb2.mono HB1.out.size))
    clear hb2 c1 c2 h1 h2 h100
    go_wp2_with fail
    refine wp_region_quiet_below (by kernel_rfl) (by kernel_rfl) ?_
    repeat (go_big_quiet_step (first
      | (go_at_call 10; exact Calls.regrown_of (learn10 _ _ _)) | (go_at_call 11; exact Calls.regrown_of (learn11 _ _ _))
      | (go_at_call 12; exact Calls.regrown_of (prefer12 _ _ _ _ _)) | (go_at_call 13; exact Calls.regrown_of (prefer13 _ _ _ _ _))
      | (go_at_call 7; exact Calls.regrown_of (awake7 _))))
    refine wpQuiet_nil ?_
    rintro _ ⟨p, rfl⟩
    go_wp2
    go_ret
    exact ⟨rfl, HB2.out.trans ((below_regrown _ _ _).mono HB2.out.size)⟩
end Go.Proofs.Ytkjadgjambphjaa
