/- Layer 34: the reference's choice by fairness. -/
import Derived.Test.YtdcogbokcbpnnaaR1
import Derived.Sort.AtCall
namespace Go.Proofs.Ytdcogbokcbpnnaa
set_option linter.unusedVariables false
set_option linter.unusedSimpArgs false
open Go.RowKit Go.Sort
attribute [local go_sem] gcell

set_option maxRecDepth 100000 in
set_option maxHeartbeats 8000000 in
theorem rfair30 (la ha : Option Addr) (n lc hc : Nat) (L : Nat → Dm) (s : St) (w : World) (H : RD w la n L) (R : Row w ha n s.hs) (hn : n ≤ 4) (hag : ∀ k, k < n → 0 ≤ (L k).ag) (hm : ∀ k, k < n → 0 ≤ (L k).mn ∧ (L k).mn ≤ 67108864) (hh : ∀ k, k < n → 0 ≤ s.hs k ∧ s.hs k + s.left ≤ 12) :
    Calls Try.prog 30 #[.slice la n lc, .slice ha n hc, .int .i64 s.left] w fun e w' => e = .returned (.tuple #[.int .i64 (refAt (nextF L n s)), .int .i64 (refN L s (nextF L n s))]) ∧ Below w.heap.size w w' := by
  have HH := Lib.hid H
  have HR := Lib.hid R
  have HM := Lib.hid hm
  have HNX := Lib.hid (show nextF L n s = bestP (fun i => canF i && wantB L s i) (ahF L s.hs) n from rfl)
  have KW := Lib.hid fun k (hk : k < n) W => rwants47 (L k) (s.hs k) s.left W (hh k hk).1 (hh k hk).2 (hag k hk)
  have HWB := Lib.hid fun i => show wantB L s i = decide (0 < wantsP (L i) (s.hs i) s.left) from rfl
  have HOK := Lib.hid fun i => show (fun i => canF i && wantB L s i) i = (canF i && wantB L s i) from rfl
  have HAH := Lib.hid fun i j => show (ahF L s.hs) i j = ahF L s.hs i j from rfl
  have HRA := Lib.hid fun b => show refAt b = if b < 0 then 0 else b from rfl
  have HRN := Lib.hid fun b => show refN L s b = if b < 0 then (0 : Int) else ((wantsP (L b.toNat) (s.hs b.toNat) s.left : Nat) : Int) from rfl
  clear H R hag hm hh
  generalize (fun i => canF i && wantB L s i) = ok at *
  generalize hah : ahF L s.hs = ah at *
  have HAE := Lib.hid hah
  clear hah
  go_enter Try.func30, Try.ntmps30
  go_wp2_with fail
  go_loopw [8, 9, 10, 11] (fun s8 s9 s10 s11 wr => ∃ k : Nat, s10 = .int .i64 k ∧ k ≤ n ∧ RefV L n s (bestP ok ah k) s8 s9 ∧ Below w.heap.size w wr) (fun _ _ s10 _ _ => n - (intOf s10).toNat)
  case atStart => exact ⟨0, rfl, Nat.zero_le _, .inl ⟨by show (-1 : Int) < 0; omega, rfl, rfl⟩, Below.refl _ _⟩
  case round =>
    obtain ⟨k, rfl, hk, hV, hB⟩ := hrel
    have HB := Lib.hid hB
    by_cases hlt : k < n
    · obtain ⟨b, m, h1, h2⟩ := HH.out.mono hB
      obtain rfl := h1 (by omega)
      obtain ⟨c0, c1, c2, c3, c4, c5, c6⟩ := h2 k hlt
      obtain ⟨hb, ho, h3, h4⟩ := HR.out.mono hB
      obtain rfl := h3 (by omega)
      have d0 := h4 k hlt
      have lb := lt_of_cell c0
      have lh := lt_of_cell d0
      have hlt' : (k : Int) < (n : Int) := by omega
      have k0 : (0 : Int) ≤ (k : Int) := by omega
      have KW1 := Lib.hid (KW.out k hlt)
      unfold dv at KW1
      have hbd := bestP_bd ok ah k
      have HY := Lib.hid (@bestP_yes ok ah k)
      have HN := Lib.hid (@bestP_no ok ah k)
      have HW1 := Lib.hid (HWB.out k)
      have HO1 := Lib.hid (HOK.out k)
      have H2 := Lib.hid h2
      have H4 := Lib.hid h4
      clear hB h2 h4
      skip
      generalize hwv : wantsP (L k) (s.hs k) s.left = wv at *
      have HWV := Lib.hid hwv
      clear hwv
      generalize bestP ok ah k = bp at *
      have HV := Lib.hid hV
      clear hV
      go_wp2_with fail
      refine wp_region_quiet_below (by kernel_rfl) (by kernel_rfl) ?_
      repeat (go_big_quiet_step (first | (go_at_call 47; exact Calls.regrown_of (KW1.out _))))
      refine wpQuiet_nil ?_
      intro w2 hw2
      have hb2 := below_of_regrown hw2
      have HB2 := Lib.hid (bthen' HB.out hb2)
      have C0 := up hb2 c0
      have C1 := up hb2 c1
      have C2 := up hb2 c2
      have C3 := up hb2 c3
      have C4 := up hb2 c4
      have C5 := up hb2 c5
      have C6 := up hb2 c6
      have D0 := up hb2 d0
      have LB := Nat.lt_of_lt_of_le lb hb2.size
      have LH := Nat.lt_of_lt_of_le lh hb2.size
      have H22 := Lib.hid fun j (hj : j < n) => (H2.out j hj)
      have UP := Lib.hid fun (p : Nat) (o : Nat) (v : Value) (hc : wr.cell? ⟨p, o, none⟩ = some v) => up hb2 hc
      clear hw2 hb2 c0 c1 c2 c3 c4 c5 c6 d0 lb lh
      by_cases hw : 0 < wv
      · have q1 : ((wv : Int) == 0) = false := beq_eq_false_iff_ne.2 (by omega)
        have HWT := Lib.hid (show wantB L s k = true by rw [HW1.out]; simp [hw])
        have HCT := Lib.hid (show canF k = true from rfl)
        rcases HV.out with ⟨g1, rfl, rfl⟩ | ⟨j, rfl, g2, rfl, rfl, g3⟩
        · have hyes := HY.out ⟨by rw [HO1.out, HCT.out, HWT.out]; rfl, .inl g1⟩
          have HYS := Lib.hid hyes
          clear hyes
          go_wp2_with fail
          refine wp_region_quiet_below (by kernel_rfl) (by kernel_rfl) ?_
          repeat (go_big_quiet_step (fail))
          refine wpQuiet_nil ?_
          intro w3 hw3
          have HB3 := Lib.hid (bthen' HB2.out (below_of_regrown hw3))
          clear hw3
          have hyes := HYS.out
          clear HV
          go_wp2
          go_roundw
          case rel => exact ⟨k + 1, by go_num, by omega, by rw [hyes]; exact .inr ⟨k, rfl, hlt, rfl, by rw [HWV.out], by rw [HWV.out]; exact hw⟩, HB3.out⟩
          case measure => simp [intOf]; omega
        · obtain ⟨e0, e1, e2, e3, e4, e5, e6⟩ := H22.out j g2
          have E0 := UP.out _ _ _ e0
          have E1 := UP.out _ _ _ e1
          have E2 := UP.out _ _ _ e2
          have E3 := UP.out _ _ _ e3
          have E4 := UP.out _ _ _ e4
          have E5 := UP.out _ _ _ e5
          have E6 := UP.out _ _ _ e6
          have D1 := UP.out _ _ _ (H4.out j g2)
          clear e0 e1 e2 e3 e4 e5 e6
          have j0 : (0 : Int) ≤ (j : Int) := by omega
          have j1 : (j : Int) < (n : Int) := by omega
          have q3 : (((wantsP (L j) (s.hs j) s.left : Nat) : Int) == 0) = false := beq_eq_false_iff_ne.2 (by omega)
          have HJ : ((j : Int)).toNat = j := by omega
          have HAF := Lib.hid (show ah k j = if (L k).cl = (L j).cl then prefer (L k).q ((L k).mn + 4 * bytes (L k).q (s.hs k)) (L j).q ((L j).mn + 4 * bytes (L j).q (s.hs j)) else decide ((L k).cl < (L j).cl) from by rw [← HAE.out]; rfl)
          rcases (show (L k).cl < (L j).cl ∨ (L k).cl = (L j).cl ∨ (L j).cl < (L k).cl by omega) with hd | hd | hd
          · have q4 : decide ((L k).cl < (L j).cl) = true := by simp [hd]
            have hyes := HY.out ⟨by rw [HO1.out, HCT.out, HWT.out]; rfl, .inr (by rw [HJ, HAF.out, if_neg (by omega)]; exact q4)⟩
            have HYS := Lib.hid hyes
            clear hyes hd
            go_wp2_with fail
            refine wp_region_quiet_below (by kernel_rfl) (by kernel_rfl) ?_
            repeat (go_big_quiet_step (fail))
            refine wpQuiet_nil ?_
            intro w3 hw3
            have HB3 := Lib.hid (bthen' HB2.out (below_of_regrown hw3))
            clear hw3
            have hyes := HYS.out
            clear HV
            go_wp2
            go_roundw
            case rel => exact ⟨k + 1, by go_num, by omega, by rw [hyes]; exact .inr ⟨k, rfl, hlt, rfl, by rw [HWV.out], by rw [HWV.out]; exact hw⟩, HB3.out⟩
            case measure => simp [intOf]; omega
          · have q4 : decide ((L k).cl < (L j).cl) = false := by simp; omega
            have q5 : ((L k).cl == (L j).cl) = true := by simp [hd]
            rw [if_pos hd] at HAF
            have KK := Lib.hid fun W => rmean49 (L k) (s.hs k) W (HM.out k hlt)
            have KJ := Lib.hid fun W => rmean49 (L j) (s.hs j) W (HM.out j g2)
            have KP := Lib.hid fun W => prefer48 (L k).q ((L k).mn + 4 * bytes (L k).q (s.hs k)) (L j).q ((L j).mn + 4 * bytes (L j).q (s.hs j)) W
            unfold dv at KK KJ
            generalize (L k).mn + 4 * bytes (L k).q (s.hs k) = mk at *
            generalize (L j).mn + 4 * bytes (L j).q (s.hs j) = mj at *
            generalize prefer (L k).q mk (L j).q mj = pv at *
            have HNO0 := Lib.hid fun (h : ah k j = false) => HN.out fun h' => by
              rcases h'.2 with h2 | h2
              · omega
              · rw [HJ, h] at h2; cases h2
            have HYE0 := Lib.hid fun (h : ah k j = true) => HY.out ⟨by rw [HO1.out, HCT.out, HWT.out]; rfl, .inr (by rw [HJ]; exact h)⟩
            clear hd
            have HWJ := Lib.hid (show wantsP (L j) (s.hs j) s.left = _ from rfl)
            generalize wantsP (L j) (s.hs j) s.left = wj at *
            generalize hhk : s.hs k = hk' at *
            have HHK := Lib.hid hhk
            clear hhk
            generalize s.hs j = hj' at *
            cases pv with
            | true =>
              have HYS := Lib.hid (HYE0.out HAF.out)
              go_wp2_with fail
              refine wp_region_quiet_below (by kernel_rfl) (by kernel_rfl) ?_
              repeat (go_big_quiet_step (first | (go_at_call_of 49 hk'; exact Calls.regrown_of (KK.out _)) | (go_at_call_of 49 hj'; exact Calls.regrown_of (KJ.out _)) | (go_at_call 48; exact Calls.regrown_of (KP.out _))))
              refine wpQuiet_nil ?_
              intro w3 hw3
              have HB3 := Lib.hid (bthen' HB2.out (below_of_regrown hw3))
              clear hw3
              have hyes := HYS.out
              clear HV
              go_wp2
              go_roundw
              case rel => exact ⟨k + 1, by go_num, by omega, by rw [hyes]; exact .inr ⟨k, rfl, hlt, rfl, by rw [HHK.out, HWV.out], by rw [HHK.out, HWV.out]; exact hw⟩, HB3.out⟩
              case measure => simp [intOf]; omega
            | false =>
              have HNS := Lib.hid (HNO0.out HAF.out)
              go_wp2_with fail
              refine wp_region_quiet_below (by kernel_rfl) (by kernel_rfl) ?_
              repeat (go_big_quiet_step (first | (go_at_call_of 49 hk'; exact Calls.regrown_of (KK.out _)) | (go_at_call_of 49 hj'; exact Calls.regrown_of (KJ.out _)) | (go_at_call 48; exact Calls.regrown_of (KP.out _))))
              refine wpQuiet_nil ?_
              intro w3 hw3
              have HB3 := Lib.hid (bthen' HB2.out (below_of_regrown hw3))
              clear hw3
              go_wp2
              go_roundw
              case rel => exact ⟨k + 1, by go_num, by omega, by rw [HNS.out]; exact HV.out, HB3.out⟩
              case measure => simp [intOf]; omega
          · have q4 : decide ((L k).cl < (L j).cl) = false := by simp; omega
            have q5 : ((L k).cl == (L j).cl) = false := beq_eq_false_iff_ne.2 (by omega)
            have hno : ¬ (ok k = true ∧ ((j : Int) < 0 ∨ ah k (j : Int).toNat = true)) := fun h => by
              rcases h.2 with h | h
              · omega
              · rw [HJ, HAF.out, if_neg (by omega), q4] at h; cases h
            have HNO := Lib.hid hno
            clear hno hd
            go_wp2_with fail
            refine wp_region_quiet_below (by kernel_rfl) (by kernel_rfl) ?_
            repeat (go_big_quiet_step (fail))
            refine wpQuiet_nil ?_
            intro w3 hw3
            have HB3 := Lib.hid (bthen' HB2.out (below_of_regrown hw3))
            clear hw3
            have hno := HNO.out
            go_wp2
            go_roundw
            case rel => exact ⟨k + 1, by go_num, by omega, by rw [HN.out hno]; exact HV.out, HB3.out⟩
            case measure => simp [intOf]; omega
      · have q1 : ((wv : Int) == 0) = true := beq_iff_eq.2 (by omega)
        have hno : ¬ (ok k = true ∧ (bp < 0 ∨ ah k bp.toNat = true)) := fun h => by
          rw [HO1.out] at h
          simp only [Bool.and_eq_true] at h
          have := h.1.2
          rw [HW1.out] at this
          exact hw (of_decide_eq_true this)
        have HB3 := Lib.hid HB2.out
        go_wp2
        go_roundw
        case rel => exact ⟨k + 1, by go_num, by omega, by rw [HN.out hno]; exact HV.out, HB3.out⟩
        case measure => simp [intOf]; omega
    · obtain rfl : k = n := by omega
      rcases hV with ⟨h1, rfl, rfl⟩ | ⟨j, h1, h2, rfl, rfl, h3⟩
      · go_wp2
        go_ret2
        exact ⟨by rw [HNX.out, HRA.out, HRN.out, if_pos h1, if_pos h1]; rfl, HB.out⟩
      · go_wp2
        go_ret2
        exact ⟨by rw [HNX.out, HRA.out, HRN.out, h1, if_neg (by omega), if_neg (by omega)]; rfl, HB.out⟩
end Go.Proofs.Ytdcogbokcbpnnaa
