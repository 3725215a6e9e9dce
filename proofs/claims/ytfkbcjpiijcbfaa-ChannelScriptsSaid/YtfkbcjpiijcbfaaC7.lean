/- Layer 31: ChannelNoise. -/
import Derived.Test.YtfkbcjpiijcbfaaC6
namespace Go.Proofs.Ytfkbcjpiijcbfaa
set_option linter.unusedVariables false
set_option linter.unusedSimpArgs false
open Go.RowKit Go.Sort
attribute [local go_sem] gcell
theorem nzV_bd (x m : Int) (k : Nat) (h : 0 ≤ m) : -m ≤ nzV x m k ∧ nzV x m k ≤ m := by
  unfold nzV
  have h1 := Int.emod_nonneg (nxs x (k + 1)) (show (2 * m + 1 : Int) ≠ 0 by omega)
  have h2 := Int.emod_lt_of_pos (nxs x (k + 1)) (show (0 : Int) < 2 * m + 1 by omega)
  omega
theorem nzOk_of {s te ce ti n m : Int} (h1 : 0 ≤ s ∧ s ≤ 1048576) (h2 : 0 ≤ te ∧ te ≤ 65536) (h3 : 0 ≤ ce ∧ ce ≤ 65536) (h4 : 0 ≤ ti ∧ ti ≤ 1048576) (h5 : 0 ≤ n ∧ n ≤ 1152) (h6 : 0 ≤ m ∧ m ≤ 1000) : nzOk s te ce ti n m = true := by
  unfold nzOk btw
  simp only [Bool.and_eq_true, decide_eq_true_eq]
  omega
set_option maxRecDepth 100000 in
set_option maxHeartbeats 4000000 in
theorem noise3 (s ti te ce n d m : Int) (w : World) (b0 : 0 ≤ s ∧ s ≤ 65535) (b1 : 0 ≤ ti ∧ ti ≤ 65535) (b2 : 0 ≤ te ∧ te ≤ 255) (b3 : 0 ≤ ce ∧ ce ≤ 255) (b4 : 0 ≤ n ∧ n ≤ 255) (b5 : 0 ≤ d ∧ d ≤ 255) (b6 : 0 ≤ m ∧ m ≤ 65535) :
    Calls Try.prog 3 #[.int .u16 s, .int .u16 ti, .int .u8 te, .int .u8 ce, .int .u8 n, .int .u8 d, .int .u16 m] w fun e w' => e = .returned (.bool true) ∧ Below w.heap.size w w' := by
  obtain ⟨q, hq⟩ : ∃ q, q = m % 1001 := ⟨_, rfl⟩
  have hq0 : 0 ≤ q ∧ q ≤ 1000 := by omega
  have m1 : m.tmod 1001 = q := by rw [Int.tmod_eq_emod_of_nonneg b6.1, hq]
  have m2 : IntKind.i64.wrap q = q := IntWalk.i64_in _ (by omega)
  have m3 : IntKind.i64.wrap (n + d) = n + d := IntWalk.i64_in _ (by omega)
  have m4 : IntKind.i64.wrap (-q) = -q := IntWalk.i64_in _ (by omega)
  have k0 : IntKind.i64.wrap s = s := IntWalk.i64_in _ (by omega)
  have k1 : IntKind.i64.wrap ti = ti := IntWalk.i64_in _ (by omega)
  have k2 : IntKind.i64.wrap te = te := IntWalk.i64_in _ (by omega)
  have k3 : IntKind.i64.wrap ce = ce := IntWalk.i64_in _ (by omega)
  have k4 : IntKind.i64.wrap n = n := IntWalk.i64_in _ (by omega)
  have k5 : IntKind.i64.wrap d = d := IntWalk.i64_in _ (by omega)
  have k6 : IntKind.i64.wrap m = m := IntWalk.i64_in _ (by omega)
  have O1 := Lib.hid (nzOk_of (s := s) (te := te) (ce := ce) (ti := ti) (n := n) (m := q) (by omega) (by omega) (by omega) (by omega) (by omega) hq0)
  have O2 := Lib.hid (nzOk_of (s := s) (te := te) (ce := ce) (ti := ti) (n := n + d) (m := q) (by omega) (by omega) (by omega) (by omega) (by omega) hq0)
  have N1 := Lib.hid fun W => noise8 s te ce ti n q W
  have N2 := Lib.hid fun W => noise8 s te ce ti (n + d) q W
  have V := Lib.hid fun k => nzV_bd (nz0 s te ce ti) q k hq0.1
  obtain ⟨l, rfl⟩ := Int.eq_ofNat_of_zero_le b4.1
  obtain ⟨j, rfl⟩ := Int.eq_ofNat_of_zero_le b5.1
  clear hq
  go_enter Try.func3, Try.ntmps3
  go_wp2_with fail
  refine (N1.out _).mono ?_
  rintro e w1 ⟨a1, l1, c1, rfl, hl, hlc, hc, ha, hrow, hb⟩
  rw [O1.out, if_pos rfl] at hl ⊢
  obtain rfl : l1 = l := hl
  have HR1 := Lib.hid hrow
  have HB1 := Lib.hid hb
  clear hb hrow ha hlc hc N1
  go_wp2_with fail
  refine (N2.out _).mono ?_
  rintro e w2 ⟨a2, l2, c2, rfl, hl, hlc, hc, ha, hrow, hb⟩
  rw [O2.out, if_pos rfl] at hl ⊢
  obtain rfl : l2 = l1 + j := by omega
  have HR1 := Lib.hid (HR1.out.mono hb)
  have HR2 := Lib.hid hrow
  have HB2 := Lib.hid (bthen HB1.out hb HB1.out.size)
  clear hb hrow ha hlc hc N2 hl HB1
  have p1 : ((l1 : Int) != (l1 : Int)) = false := by simp
  have p2 : (((l1 + j : Nat) : Int) != (l1 : Int) + (j : Int)) = false := by simp
  go_wp2_with fail
  go_loopw [20] (fun i wr => ∃ k : Nat, k ≤ l1 ∧ i = .int .i64 k ∧ Below w2.heap.size w2 wr) (fun i _ => l1 - (intOf i).toNat)
  case atStart => exact ⟨0, Nat.zero_le _, rfl, Below.refl _ _⟩
  case round =>
    obtain ⟨k, hk, rfl, hB⟩ := hrel
    have HB := Lib.hid hB
    by_cases hlt : k < l1
    · obtain ⟨b, o, ha, hx⟩ := HR1.out.mono hB
      obtain ⟨b', o', ha', hx'⟩ := HR2.out.mono hB
      obtain rfl := ha (by omega)
      obtain rfl := ha' (by omega)
      have c0 := hx k hlt
      have d0 := hx' k (by omega)
      have hv := V.out k
      generalize nzV (nz0 s te ce ti) q k = v at *
      have i1 : (0 : Int) ≤ (k : Int) := by omega
      have i2 : (k : Int) < (l1 : Int) := by omega
      have i3 : (k : Int) < ((l1 + j : Nat) : Int) := by omega
      have z1 : decide (v < -q) = false := decide_eq_false (by omega)
      have z2 : decide (q < v) = false := decide_eq_false (by omega)
      have z3 : (v != v) = false := by simp
      clear ha hx ha' hx' hB
      go_wp2_with fail
      go_quiet (fail)
      have HBn := Lib.hid (below_drewN HB.out nq)
      clear c0 d0
      go_wp2
      first
      | exact ⟨⟨k + 1, by omega, by go_num, HBn.out⟩, by simp only [intOf]; omega⟩
      | (go_roundw
         case rel => exact ⟨k + 1, by omega, by go_num, HBn.out⟩
         case measure => simp [intOf]; omega)
    · obtain rfl : k = l1 := by omega
      have HE := Lib.hid (bthen HB2.out hB HB2.out.size)
      clear hB
      go_wp2_with fail
      refine (awake9 _).mono ?_
      rintro e w4 ⟨rfl, hb⟩
      have HF := Lib.hid (bthen HE.out hb HE.out.size)
      clear hb
      go_wp2
      go_ret
      exact ⟨rfl, HF.out⟩
end Go.Proofs.Ytfkbcjpiijcbfaa
