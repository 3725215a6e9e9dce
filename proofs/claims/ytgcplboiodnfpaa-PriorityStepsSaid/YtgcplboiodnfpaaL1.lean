/- Layer 25: the walks of PriorityRaw and PrioritySaves. -/
import Derived.Test.YtgcplboiodnfpaaP8
namespace Go.Proofs.Ytgcplboiodnfpaa
set_option linter.unusedVariables false
set_option linter.unusedSimpArgs false
open Go.RowKit Go.Sort
attribute [local go_sem] gcell

set_option maxHeartbeats 4000000 in
theorem raw5 (a : Option Addr) (n c : Nat) (d : Option Addr) (m l : Nat) (P R M T W : Nat → Int) (s : Int) (w : World) (hn : n ≤ 140737488351232) (hm : m ≤ 140737488351232) (ha : a = none → n = 0) (H : R4 w a n P R M T) (HW : Row w d m W) :
    Calls Try.prog 5 #[.slice a n c, .slice d m l, .int .i64 s] w fun e w' => e = .returned (.bool true) ∧ Below w.heap.size w w' := by
  by_cases h : 100 < n + m
  · have hd : decide (100 < n + m) = true := decide_eq_true h
    clear H HW
    go_enter Try.func5, Try.ntmps5
    go_wp2_with (go_at_call 10; refine (awake10 _).mono ?_; rintro e w' ⟨rfl, hb⟩)
    go_ret
    exact ⟨rfl, hb⟩
  · have hd : decide (100 < n + m) = false := decide_eq_false h
    have K := Lib.hid (agree15 a n c d m l P R M T W s w (by omega) (by omega) ha H HW)
    clear H HW ha
    go_enter Try.func5, Try.ntmps5
    go_wp2_with fail
    refine K.out.mono ?_
    rintro e w1 ⟨rfl, hb⟩
    have HB := Lib.hid hb
    clear hb
    go_wp2_with fail
    refine (awake10 _).mono ?_
    rintro e w2 ⟨rfl, hb⟩
    have HB2 := Lib.hid (bthen HB.out hb HB.out.size)
    clear hb
    go_wp2
    go_ret
    exact ⟨rfl, HB2.out⟩

theorem mulN {t : Nat} {x : Int} {K : Nat} (ht : t ≤ K) (h0 : 0 ≤ x) : 0 ≤ (t : Int) * x ∧ (t : Int) * x ≤ K * x :=
  ⟨Int.mul_nonneg (by omega) h0, Int.mul_le_mul_of_nonneg_right (by omega) h0⟩
set_option maxRecDepth 100000 in
set_option maxHeartbeats 4000000 in
theorem saves8 (x0 x1 x2 : Int) (w : World) (b0 : 0 ≤ x0 ∧ x0 ≤ 255) (b1 : 0 ≤ x1 ∧ x1 ≤ 255) (b2 : 0 ≤ x2 ∧ x2 ≤ 255) :
    Calls Try.prog 8 #[.int .u8 x0, .int .u8 x1, .int .u8 x2] w fun e w' => e = .returned (.bool true) ∧ Below w.heap.size w w' := by
  have hR : R4 (w.alloc (.cells #[.int .i64 0, .int .i64 x0, .int .i64 x1, .int .i64 0] 35)) (some ⟨w.heap.size, 0, none⟩) 1 (fun _ => 0) (fun _ => x0) (fun _ => x1) (fun _ => min x1 (((0 : Nat) : Int) * x0)) := by
    refine ⟨w.heap.size, 0, fun _ => rfl, fun k hk => ?_⟩
    obtain rfl : k = 0 := by omega
    have : min x1 (((0 : Nat) : Int) * x0) = 0 := by simp; omega
    rw [this]
    simp [go_sem]
  have HR0 := Lib.hid hR
  have HB0 := Lib.hid (below_alloc w (.cells #[.int .i64 0, .int .i64 x0, .int .i64 x1, .int .i64 0] 35))
  clear hR
  have m2 : 0 ≤ x2 % 60 ∧ x2 % 60 ≤ 59 := by omega
  go_enter Try.func8, Try.ntmps8
  go_upto_region 2 with fail
  go_wp2_with fail
  go_loopw [7, 8] (fun s7 s8 wr => ∃ (t : Nat) (a : Option Addr) (c : Nat), s8 = .int .i64 ((t : Int) + 1) ∧ (t : Int) ≤ x2 % 60 ∧ s7 = .slice a 1 c ∧ (a = none → False) ∧ R4 wr a 1 (fun _ => 0) (fun _ => x0) (fun _ => x1) (fun _ => min x1 ((t : Int) * x0)) ∧ Below w.heap.size w wr) (fun _ s8 _ => 60 - (intOf s8).toNat)
  case atStart => exact ⟨0, _, _, rfl, by omega, rfl, fun h => by simp at h, HR0.out, HB0.out⟩
  case round =>
    clear HR0 HB0
    obtain ⟨t, a, c, rfl, ht, rfl, ha, hR, hb⟩ := hrel
    have HB := Lib.hid hb
    have hsr := hb.size
    by_cases hlt : (t : Int) + 1 ≤ x2 % 60
    · have hq := mulN (t := t) (x := x0) (K := 59) (by omega) b0.1
      have hq1 : ((t : Int) + 1) * x0 = (t : Int) * x0 + x0 := by rw [Int.add_mul, Int.one_mul]
      have hok : okB 1 (fun _ => 0) (fun _ => x0) (fun _ => x1) (fun _ => min x1 ((t : Int) * x0)) = true := okB_mk (by omega) fun k hk => by
        unfold vb btw
        simp
        omega
      have K := tick20 a 1 c (fun _ => 0) (fun _ => x0) (fun _ => x1) (fun _ => min x1 ((t : Int) * x0)) wr (by omega) (fun h => absurd h ha) hR
      unfold TickR at K
      rw [hok] at K
      have HK := Lib.hid K
      have hT : ∀ k, tkT true (fun _ => x0) (fun _ => x1) (fun _ => min x1 ((t : Int) * x0)) k = min x1 (((t + 1 : Nat) : Int) * x0) := fun k => by
        show min (min x1 ((t : Int) * x0) + x0) x1 = _
        rw [show ((t + 1 : Nat) : Int) = (t : Int) + 1 by omega, hq1]
        omega
      have HT := Lib.hid hT
      have hok2 : okB 1 (fun _ => 0) (fun _ => x0) (fun _ => x1) (fun _ => min x1 (((t + 1 : Nat) : Int) * x0)) = true := okB_mk (by omega) fun k hk => by
        rw [show ((t + 1 : Nat) : Int) = (t : Int) + 1 by omega, hq1]
        unfold vb btw
        simp
        omega
      have HOK := Lib.hid hok2
      have HE1 := Lib.hid (show ((t + 1 : Nat) : Int) * x0 = (t : Int) * x0 + x0 by rw [show ((t + 1 : Nat) : Int) = (t : Int) + 1 by omega, hq1])
      clear hR K hok hT hok2 hb
      go_wp2_with fail
      refine HK.out.mono ?_
      rintro e w1 ⟨a1, c1, rfl, hc1, ha1, hR1, hb⟩
      have hR1 := hR1.congr (T' := fun _ => min x1 (((t + 1 : Nat) : Int) * x0)) fun k _ => (HT.out k).symm
      have HR1 := Lib.hid hR1
      have HB1 := Lib.hid (bthen HB.out hb hsr)
      have K2 := Lib.hid (valid21 a1 1 c1 _ _ _ _ w1 hR1 (by decide))
      have hs1 := HB1.out.size
      rw [HOK.out] at K2
      obtain ⟨bb, mm, p1, q1⟩ := hR1
      obtain rfl := p1 (by omega)
      have t0 := (q1 0 (by omega)).2.2.2
      rw [HE1.out] at t0
      simp only [Nat.zero_mul, Nat.add_zero] at t0
      clear p1 q1 hb HK HB ha ha1
      generalize (t : Int) * x0 = q at *
      obtain ⟨v, hv⟩ : ∃ v, (if q + x0 < x1 then q + x0 else x1) = v := ⟨_, rfl⟩
      have e1 : min x1 (q + x0) = v := by rw [← hv]; split <;> omega
      rw [e1] at t0
      clear e1
      go_wp2_with fail
      refine K2.out.mono ?_
      rintro e w2 ⟨rfl, hb⟩
      have HR2 := Lib.hid (HR1.out.mono hb)
      have HB2 := Lib.hid (bthen HB1.out hb hs1)
      clear hb K2 HR1 HB1 hv
      go_wp2_with fail
      go_roundw
      case rel => exact ⟨t + 1, _, _, by go_num, by omega, rfl, fun h => by simp at h, HR2.out, HB2.out⟩
      case measure => simp [intOf]; omega
    · clear hR hb
      go_wp2_with fail
      refine (awake10 _).mono ?_
      rintro e w2 ⟨rfl, hb⟩
      have HB2 := Lib.hid (bthen HB.out hb hsr)
      clear hb
      go_wp2
      go_ret
      exact ⟨rfl, HB2.out⟩
end Go.Proofs.Ytgcplboiodnfpaa
