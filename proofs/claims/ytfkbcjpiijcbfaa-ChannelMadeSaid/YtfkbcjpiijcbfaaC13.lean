/- Layer 31: the reference's Noise. -/
import Derived.Test.YtfkbcjpiijcbfaaC12
import Derived.Test.YtfkbcjpiijcbfaaC7
import Derived.Deep.DeepCutAuto
import Derived.Deep.CutBlock
namespace Go.Proofs.Ytfkbcjpiijcbfaa
set_option linter.unusedVariables false
set_option linter.unusedSimpArgs false
open Go.RowKit Go.Sort
attribute [local go_sem] gcell
/-- k numbers have been taken. -/
structure Nz2 (w : World) (N : Nat) (m x : Int) (k : Nat) (v : Value) (W : World) : Prop where
  le : k ≤ N
  bel : Below w.heap.size w W
  o : W.ownsRow w.heap.size 3 1 v k ((List.range k).map (iv (nzV x m)))
set_option maxRecDepth 100000 in
set_option maxHeartbeats 8000000 in
theorem noise23_ok (s te ce ti m : Int) (N : Nat) (w : World) (h1 : 0 ≤ s ∧ s ≤ 1048576) (h2 : 0 ≤ te ∧ te ≤ 65536) (h3 : 0 ≤ ce ∧ ce ≤ 65536) (h4 : 0 ≤ ti ∧ ti ≤ 1048576) (h5 : N ≤ 1152) (h6 : 0 ≤ m ∧ m ≤ 1000) :
    Calls Try.prog 23 #[.int .i64 s, .int .i64 te, .int .i64 ce, .int .i64 ti, .int .i64 N, .int .i64 m] w (NoiseR s te ce ti N m w) := by
  have b0 := btw_t h1
  have b1 := btw_t h2
  have b2 := btw_t h3
  have b3 := btw_t h4
  have b4 : btw (N : Int) 0 1152 = true := btw_t ⟨by omega, by omega⟩
  have b5 := btw_t h6
  have ok : nzOk s te ce ti N m = true := by unfold nzOk; rw [b0, b1, b2, b3, b4, b5]; rfl
  have OK := Lib.hid ok
  clear ok b0 b1 b2 b3 b4 b5
  obtain ⟨xr, hxr⟩ : ∃ xr : Int, (s + 7919 * te + 104729 * ce + 15485863 * ti) % 4294967296 = xr := ⟨_, rfl⟩
  have br : 0 ≤ xr ∧ xr < 4294967296 := by omega
  have r1 : s + 7919 * te + 104729 * ce + 15485863 * ti ≤ 9223372036854775807 := by omega
  obtain ⟨x0, hx0⟩ : ∃ x0 : Int, nz0 s te ce ti = x0 := ⟨_, rfl⟩
  have hx1 : x0 = if xr = 0 then 1 else xr := by rw [← hx0, ← hxr]; unfold nz0; split <;> omega
  have bx : 0 ≤ x0 ∧ x0 < 4294967296 := by rw [hx1]; split <;> omega
  have HX := Lib.hid hx0
  have HN0 := Lib.hid (show Nz2 w N m x0 0 (.slice none 0 0) w from ⟨Nat.zero_le _, Below.refl _ _, World.ownsRow_nil _ _ _ _⟩)
  have HN := Lib.hid h5
  have hN : (N : Int) ≤ 1152 := by omega
  clear hx0 h5
  obtain ⟨h1a, h1b⟩ := h1
  obtain ⟨h2a, h2b⟩ := h2
  obtain ⟨h3a, h3b⟩ := h3
  obtain ⟨h4a, h4b⟩ := h4
  obtain ⟨h6a, h6b⟩ := h6
  have hN0 : (0 : Int) ≤ (N : Int) := by omega
  go_enter Try.func23, Try.ntmps23
  rcases (show xr = 0 ∨ xr ≠ 0 by omega) with e | e
  all_goals
    obtain ⟨bq, q1⟩ : ∃ bq, (xr == 0) = bq := ⟨_, rfl⟩
    have hbq : bq = decide (xr = 0) := by rw [← q1]; rfl
    simp only [e, decide_true, decide_false] at hbq
    rw [hbq] at q1
    clear hbq
    first | rw [if_pos e] at hx1 | rw [if_neg e] at hx1
    have HX1 := Lib.hid hx1
    go_wp2
    go_loopw [14, 15, 16] (fun s14 s15 s16 wr => ∃ k : Nat, s16 = .int .i64 k ∧ s14 = .int .u32 (nxs x0 k) ∧ Nz2 w N m x0 k s15 wr) (fun _ _ s16 _ => N - (intOf s16).toNat)
    case atStart => exact ⟨0, rfl, by rw [HX1.out]; first | rfl | (rw [← hxr]; rfl), HN0.out⟩
    case round =>
      clear hx1 r1 hxr q1 e
      obtain ⟨k, rfl, rfl, hJ⟩ := hrel
      have HJ := Lib.hid hJ
      have hkl := hJ.le
      by_cases hkN : k < N
      · have hb := nxs_bd bx k
        have by0 := nxs_bd bx (k + 1)
        have HSU := Lib.hid (show nxs x0 (k + 1) = nx3 (nx2 (nx1 (nxs x0 k))) from rfl)
        have HVK := Lib.hid (show nzV x0 m k = nxs x0 (k + 1) % (2 * m + 1) - m from rfl)
        generalize nxs x0 k = xk at *
        clear hJ
        go_upto_region 13 with fail
        have e := HSU.out
        unfold nx3 nx2 nx1 at e
        rw [← e]
        clear e
        generalize hy : nxs x0 (k + 1) = y at *
        have HY := Lib.hid hy
        clear hy
        obtain ⟨r, hr⟩ : ∃ r, y % (2 * m + 1) = r := ⟨_, rfl⟩
        have br : 0 ≤ r ∧ r < 2 * m + 1 := by rw [← hr]; exact ⟨Int.emod_nonneg _ (by omega), Int.emod_lt_of_pos _ (by omega)⟩
        have m5 : y.tmod (2 * m + 1) = r := by rw [Int.tmod_eq_emod_of_nonneg by0.1]; exact hr
        have m8 : 2 * m + 1 ≠ 0 := by omega
        have m9 : (2 * m + 1 == 0) = false := beq_eq_false_iff_ne.2 m8
        have HVR := Lib.hid (show iv (nzV x0 m) k = .int .i64 (r - m) by unfold iv; rw [HVK.out, hr])
        clear hr HVK HSU
        go_wp2_with (at_builtin; refine wpList_append1 _ w w.heap.size rfl (.tmp 93) (.tmp 102) 23 rfl 3 (.int .i64 0) 8 Try.underlying23 intInfo rfl (by decide) _ k (iv (nzV x0 m)) rfl _ rfl HJ.out.o HJ.out.bel HJ.out.bel.size HVR.out.symm rfl (by omega) ?_; intro v' w4 hown hB4 hb4 _ _; have HN4 := Lib.hid (show Nz2 w N m x0 (k + 1) v' w4 from ⟨hkN, hB4, hown⟩); clear hown hB4)
        go_roundw
        case rel => exact ⟨k + 1, by go_num, by rw [HY.out], HN4.out⟩
        case measure => simp [intOf]; omega
      · have : k = N := by omega
        subst this
        obtain ⟨a', c', rfl, hc', hrow⟩ := own_row hJ.o
        have HR := Lib.hid hrow
        have HO := Lib.hid hJ.o
        clear hJ hrow
        go_wp2
        go_ret2
        obtain ⟨k1, k2⟩ := own_capc HO.out
        exact ⟨a', k, c', by rw [OK.out]; rfl, by rw [OK.out, if_pos rfl]; rfl, hc', k1, k2, by rw [HX.out]; exact HR.out, HJ.out.bel⟩
set_option maxHeartbeats 1000000 in
theorem noise23 (s te ce ti n m : Int) (w : World) : Calls Try.prog 23 #[.int .i64 s, .int .i64 te, .int .i64 ce, .int .i64 ti, .int .i64 n, .int .i64 m] w (NoiseR s te ce ti n m w) := by
  cases h : nzOk s te ce ti n m
  · exact noise23_err s te ce ti n m w h
  · unfold nzOk btw at h
    simp only [Bool.and_eq_true, decide_eq_true_eq] at h
    obtain ⟨⟨⟨⟨⟨g1, g2⟩, g3⟩, g4⟩, g5⟩, g6⟩ := h
    have e : ((n.toNat : Nat) : Int) = n := by omega
    have := noise23_ok s te ce ti m n.toNat w g1 g2 g3 g4 (by omega) g6
    rw [e] at this
    exact this
end Go.Proofs.Ytfkbcjpiijcbfaa
