/- Layer 30: the walks of the laws. -/
import Derived.Test.YtningnpbamgnhaaA3
namespace Go.Proofs.Ytningnpbamgnhaa
open Go.RowKit Go.Sort
attribute [local go_sem] gcell
set_option linter.unusedVariables false

set_option maxRecDepth 100000 in
set_option maxHeartbeats 2000000 in
theorem grows3 (a n g m k : Int) (w : World) (a0 : 0 ≤ a ∧ a ≤ 255) (n0 : 0 ≤ n ∧ n ≤ 255) (g0 : 0 ≤ g ∧ g ≤ 255) (m0 : 0 ≤ m ∧ m ≤ 255) (k0 : 0 ≤ k ∧ k ≤ 255) :
    Calls Try.prog 3 #[.int .u8 a, .int .u8 n, .int .u8 g, .int .u8 m, .int .u8 k] w fun e w' => e = .returned (.bool true) ∧ Below w.heap.size w w' := by
  obtain ⟨q, hq⟩ : ∃ q : Nat, a % 16 = q := ⟨(a % 16).toNat, by omega⟩
  obtain ⟨r, hr⟩ : ∃ r : Nat, n % 13 = r := ⟨(n % 13).toNat, by omega⟩
  have hq2 : q < 16 := by omega
  have hr2 : r < 13 := by omega
  obtain ⟨x1, x2, x3, x4⟩ := grows q r hq2 hr2
  have X1 := Lib.hid x1
  have X2 := Lib.hid x2
  have bb := bytes_bd q r
  have y1 := qual_gain g m k g0.1 m0.1 k0.1 g0.2 m0.2 k0.2
  have y2 := qual_noise g m k g0.1 m0.1 k0.1 g0.2 m0.2 k0.2
  have HB := Lib.hid (Below.refl w.heap.size w)
  clear x1 x2
  by_cases c1 : r < 12 <;> by_cases c2 : q < 15
  all_goals
    first | (have z1 := X1.out c1) | skip
    first | (have z2 := X2.out c2) | skip
    clear X1 X2
    go_enter Try.func3, Try.ntmps3
    go_wp2_with (first
      | (go_at_call 7; refine (bytes7 _ _ _).mono ?_; rintro e w' ⟨rfl, hb⟩; replace HB := Lib.hid (bthen HB.out hb HB.out.size); clear hb)
      | (go_at_call 8; refine (need8 _ _ _).mono ?_; rintro e w' ⟨rfl, hb⟩; replace HB := Lib.hid (bthen HB.out hb HB.out.size); clear hb)
      | (go_at_call 9; refine (quality9 _ _ _).mono ?_; rintro e w' ⟨rfl, rfl⟩)
      | (go_at_call 10; refine (awake10 _).mono ?_; rintro e w' ⟨rfl, hb⟩; replace HB := Lib.hid (bthen HB.out hb HB.out.size); clear hb))
    go_ret
    exact ⟨rfl, HB.out⟩

theorem needs_cases (q n : Nat) (hq : q < 16) (hn : n < 300) : (n = 0 ∧ need q n = 0) ∨ (n ≠ 0 ∧ need q n = 13 ∧ bytes q 12 < n) ∨ (n ≠ 0 ∧ need q n ≠ 13 ∧ 1 ≤ need q n ∧ need q n ≤ 12 ∧ (n : Int) ≤ bytes q (need q n) ∧ bytes q (need q n - 1) < n) := by
  have h := needs q n hq hn
  unfold needsB at h
  by_cases h0 : n = 0
  · left; rw [if_pos h0] at h; exact ⟨h0, by simpa using h⟩
  · right
    rw [if_neg h0] at h
    by_cases h1 : need q n = 13
    · left; rw [if_pos h1] at h; exact ⟨h0, h1, by simpa using h⟩
    · right
      rw [if_neg h1] at h
      simp only [decide_eq_true_eq] at h
      exact ⟨h0, h1, h.1, h.2.1, h.2.2.1, h.2.2.2⟩

set_option maxRecDepth 100000 in
set_option maxHeartbeats 2000000 in
theorem needs4 (a b : Int) (w : World) (a0 : 0 ≤ a ∧ a ≤ 255) (b0 : 0 ≤ b ∧ b ≤ 65535) :
    Calls Try.prog 4 #[.int .u8 a, .int .u16 b] w fun e w' => e = .returned (.bool true) ∧ Below w.heap.size w w' := by
  obtain ⟨q, hq⟩ : ∃ q : Nat, a % 16 = q := ⟨(a % 16).toNat, by omega⟩
  obtain ⟨n, hn⟩ : ∃ n : Nat, b % 300 = n := ⟨(b % 300).toNat, by omega⟩
  have hc := needs_cases q n (by omega) (by omega)
  have hk := need_bd q n
  generalize hkk : need q n = k at *
  have HK := Lib.hid hkk
  have HB := Lib.hid (Below.refl w.heap.size w)
  clear hkk
  rcases hc with ⟨h0, h1⟩ | ⟨h0, h1, h2⟩ | ⟨h0, h1, h2, h3, h4, h5⟩
  · subst h0 h1
    have hn0 : b % 300 = 0 := by omega
    have HK0 := Lib.hid (need_no q 0 (by omega))
    clear hn
    go_enter Try.func4, Try.ntmps4
    go_wp2_with (first
      | (go_at_call 8; refine (need8 _ _ _).mono ?_; rw [HK0.out]; rintro e w' ⟨rfl, hb⟩; replace HB := Lib.hid (bthen HB.out hb HB.out.size); clear hb)
      | (go_at_call 10; refine (awake10 _).mono ?_; rintro e w' ⟨rfl, hb⟩; replace HB := Lib.hid (bthen HB.out hb HB.out.size); clear hb))
    go_ret
    exact ⟨rfl, HB.out⟩
  · subst h1
    have z : ((n : Int) == 0) = false := beq_eq_false_iff_ne.2 (by omega)
    go_enter Try.func4, Try.ntmps4
    go_wp2_with (first
      | (go_at_call 8; refine (need8 _ _ _).mono ?_; rw [HK.out]; rintro e w' ⟨rfl, hb⟩; replace HB := Lib.hid (bthen HB.out hb HB.out.size); clear hb)
      | (go_at_call 7; refine (bytes7 _ _ _).mono ?_; rintro e w' ⟨rfl, hb⟩; replace HB := Lib.hid (bthen HB.out hb HB.out.size); clear hb)
      | (go_at_call 10; refine (awake10 _).mono ?_; rintro e w' ⟨rfl, hb⟩; replace HB := Lib.hid (bthen HB.out hb HB.out.size); clear hb))
    go_ret
    exact ⟨rfl, HB.out⟩
  · have z : ((n : Int) == 0) = false := beq_eq_false_iff_ne.2 (by omega)
    have z2 : (k == 13) = false := beq_eq_false_iff_ne.2 h1
    go_enter Try.func4, Try.ntmps4
    go_wp2_with (first
      | (go_at_call 8; refine (need8 _ _ _).mono ?_; rw [HK.out]; rintro e w' ⟨rfl, hb⟩; replace HB := Lib.hid (bthen HB.out hb HB.out.size); clear hb)
      | (go_at_call 7; refine (bytes7 _ _ _).mono ?_; rintro e w' ⟨rfl, hb⟩; replace HB := Lib.hid (bthen HB.out hb HB.out.size); clear hb)
      | (go_at_call 10; refine (awake10 _).mono ?_; rintro e w' ⟨rfl, hb⟩; replace HB := Lib.hid (bthen HB.out hb HB.out.size); clear hb))
    go_ret
    exact ⟨rfl, HB.out⟩

theorem run_eq28 (x1 x2 x3 : Int) (w : World) : (Go.binOp .eql 28 (.agg #[.int .i64 x1, .int .i64 x2, .int .i64 x3]) (.agg #[.int .i64 x1, .int .i64 x2, .int .i64 x3])).run Try.prog w = .ok (.bool true) w := by
  have u3 := Try.underlying3
  have hS : Try.prog.underlying 28 = some (.struct (Try.prog.fieldsOf 28)) := by kernel_rfl
  have hp : Try.prog.stoodInHeld 28 = false := by kernel_rfl
  rw [run_eql_struct, show (10000 : Nat) = 9999 + 1 from rfl, run_equalIn_agg w 9999 28 _ _ hS hp]
  simp only [Program.fieldsOf, Try.underlying28]
  go_simp
theorem guard28 : Try.prog.eqGuardType Try.prog.depth 28 = false := by kernel_rfl
attribute [local go_sem] run_eq28 guard28 beq_self_eq_true

set_option maxRecDepth 100000 in
set_option maxHeartbeats 2000000 in
theorem exact5 (q n g m o u d : Int) (right : Bool) (w : World) :
    Calls Try.prog 5 #[.int .i64 q, .int .i64 n, .int .i64 g, .int .i64 m, .agg #[.int .i64 o, .int .i64 u, .int .i64 d], .bool right] w fun e w' => e = .returned (.bool true) ∧ Below w.heap.size w w' := by
  go_enter Try.func5, Try.ntmps5
  go_wp2_with fail
  refine wp_region_quiet_below (by kernel_rfl) (by kernel_rfl) ?_
  repeat (go_big_quiet_step (first
    | (go_at_call 7; exact Calls.regrown_of (bytes7 _ _ _)) | (go_at_call 11; exact regrown_same (bytes11 _ _ _))
    | (go_at_call 8; exact Calls.regrown_of (need8 _ _ _)) | (go_at_call 12; exact regrown_same (need12 _ _ _))
    | (go_at_call 9; exact regrown_same (quality9 _ _ _)) | (go_at_call 13; exact regrown_same (quality13 _ _ _))
    | (go_at_call 14; exact Calls.regrown_of (effective14 _ _ _ _ _)) | (go_at_call 15; exact Calls.regrown_of (effective15 _ _ _ _ _))
    | (go_at_call 16; exact Calls.regrown_of (learn16 _ _ _ _ _)) | (go_at_call 17; exact Calls.regrown_of (learn17 _ _ _ _ _))
    | (go_at_call 10; exact Calls.regrown_of (awake10 _))))
  refine wpQuiet_nil ?_
  rintro _ ⟨p, rfl⟩
  go_wp2
  go_ret
  exact ⟨rfl, ((Below.refl _ _).alloc (Nat.le_refl _) _).trans ((below_regrown _ _ _).mono (by simp))⟩
end Go.Proofs.Ytningnpbamgnhaa
