/- Layer 34: the reference's choices. -/
import Derived.Test.YtdcogbokcbpnnaaR0
namespace Go.Proofs.Ytdcogbokcbpnnaa
set_option linter.unusedVariables false
set_option linter.unusedSimpArgs false
open Go.RowKit Go.Sort
attribute [local go_sem] gcell
/-- The choice, as the reference tells it: who, and how many. -/
def refAt (b : Int) : Int := if b < 0 then 0 else b
def refN (L : Nat → Dm) (s : St) (b : Int) : Int := if b < 0 then 0 else wantsP (L b.toNat) (s.hs b.toNat) s.left
/-- What stands in the two variables. -/
def RefV (L : Nat → Dm) (n : Nat) (s : St) (b : Int) (v8 v9 : Value) : Prop :=
  (b < 0 ∧ v8 = .int .i64 0 ∧ v9 = .int .i64 0) ∨ ∃ j : Nat, b = j ∧ j < n ∧ v8 = .int .i64 j ∧ v9 = .int .i64 (wantsP (L j) (s.hs j) s.left) ∧ 0 < wantsP (L j) (s.hs j) s.left

set_option maxRecDepth 100000 in
set_option maxHeartbeats 8000000 in
theorem rowed29 (la ha : Option Addr) (n lc hc : Nat) (L : Nat → Dm) (s : St) (w : World) (H : RD w la n L) (R : Row w ha n s.hs) (hn : n ≤ 4) (hag : ∀ k, k < n → 0 ≤ (L k).ag) (hm : ∀ k, k < n → 0 ≤ (L k).mn ∧ (L k).mn ≤ 67108864) (hh : ∀ k, k < n → 0 ≤ s.hs k ∧ s.hs k + s.left ≤ 12) :
    Calls Try.prog 29 #[.slice la n lc, .slice ha n hc, .int .i64 s.left] w fun e w' => e = .returned (.tuple #[.int .i64 (refAt (nextO L n s)), .int .i64 (refN L s (nextO L n s))]) ∧ Below w.heap.size w w' := by
  have HH := Lib.hid H
  have HR := Lib.hid R
  have HM := Lib.hid hm
  have HNX := Lib.hid (show nextO L n s = bestP (fun i => canO L s.hs i && wantB L s i) (ahO L) n from rfl)
  have KW := Lib.hid fun k (hk : k < n) W => rwants47 (L k) (s.hs k) s.left W (hh k hk).1 (hh k hk).2 (hag k hk)
  have HWB := Lib.hid fun i => show wantB L s i = decide (0 < wantsP (L i) (s.hs i) s.left) from rfl
  have HOK := Lib.hid fun i => show (fun i => canO L s.hs i && wantB L s i) i = (canO L s.hs i && wantB L s i) from rfl
  have HAH := Lib.hid fun i j => show (ahO L) i j = ahO L i j from rfl
  have HRA := Lib.hid fun b => show refAt b = if b < 0 then 0 else b from rfl
  have HRN := Lib.hid fun b => show refN L s b = if b < 0 then (0 : Int) else ((wantsP (L b.toNat) (s.hs b.toNat) s.left : Nat) : Int) from rfl
  clear H R hag hm hh
  generalize (fun i => canO L s.hs i && wantB L s i) = ok at *
  generalize hah : ahO L = ah at *
  have HAE := Lib.hid hah
  clear hah
  go_enter Try.func29, Try.ntmps29
  go_wp2_with fail
  go_loopw [8, 9, 10, 11] (fun s8 s9 s10 s11 wr => ∃ k : Nat, s10 = .int .i64 k ∧ k ≤ n ∧ RefV L n s (bestP ok ah k) s8 s9 ∧ Below w.heap.size w wr) (fun _ _ s10 _ _ => n - (intOf s10).toNat)
  case atStart => exact ⟨0, rfl, Nat.zero_le _, .inl ⟨by show (-1 : Int) < 0; omega, rfl, rfl⟩, Below.refl _ _⟩
  case round =>
    obtain ⟨k, rfl, hk, hV, hB⟩ := hrel
    have HB := Lib.hid hB
    by_cases hlt : k < n
    · obtain ⟨b, m, h1, h2⟩ := HH.out.mono hB
      obtain rfl := h1 (by omega)
      obtain ⟨c0, c1, c2, c3, c4, c5, c6⟩ := h2 k hlt
      obtain ⟨hb, ho, h3, h4⟩ := HR.out.mono hB
      obtain rfl := h3 (by omega)
      have d0 := h4 k hlt
      have lb := lt_of_cell c0
      have lh := lt_of_cell d0
      have hlt' : (k : Int) < (n : Int) := by omega
      have k0 : (0 : Int) ≤ (k : Int) := by omega
      have KW1 := Lib.hid (KW.out k hlt)
      unfold dv at KW1
      have hbd := bestP_bd ok ah k
      have HY := Lib.hid (@bestP_yes ok ah k)
      have HN := Lib.hid (@bestP_no ok ah k)
      have HW1 := Lib.hid (HWB.out k)
      have HO1 := Lib.hid (HOK.out k)
      have H2 := Lib.hid h2
      have H4 := Lib.hid h4
      clear hB h2 h4
      skip
      generalize hwv : wantsP (L k) (s.hs k) s.left = wv at *
      have HWV := Lib.hid hwv
      clear hwv
      generalize bestP ok ah k = bp at *
      have HV := Lib.hid hV
      clear hV
      go_wp2_with fail
      refine wp_region_quiet_below (by kernel_rfl) (by kernel_rfl) ?_
      repeat (go_big_quiet_step (first | (go_at_call 47; exact Calls.regrown_of (KW1.out _))))
      refine wpQuiet_nil ?_
      intro w2 hw2
      have hb2 := below_of_regrown hw2
      have HB2 := Lib.hid (bthen' HB.out hb2)
      have C0 := up hb2 c0
      have C1 := up hb2 c1
      have C2 := up hb2 c2
      have C3 := up hb2 c3
      have C4 := up hb2 c4
      have C5 := up hb2 c5
      have C6 := up hb2 c6
      have D0 := up hb2 d0
      have LB := Nat.lt_of_lt_of_le lb hb2.size
      have LH := Nat.lt_of_lt_of_le lh hb2.size
      have H22 := Lib.hid fun j (hj : j < n) => (H2.out j hj)
      have UP := Lib.hid fun (p : Nat) (o : Nat) (v : Value) (hc : wr.cell? ⟨p, o, none⟩ = some v) => up hb2 hc
      clear hw2 hb2 c0 c1 c2 c3 c4 c5 c6 d0 lb lh
      by_cases hw : 0 < wv
      · have q1 : decide ((0 : Int) < (wv : Int)) = true := by simp [hw]
        have HWT := Lib.hid (show wantB L s k = true by rw [HW1.out]; simp [hw])
        by_cases hc : s.hs k < (L k).ow
        · have q2 : decide (s.hs k < (L k).ow) = true := by simp [hc]
          have HCT := Lib.hid (show canO L s.hs k = true from decide_eq_true hc)
          rcases HV.out with ⟨g1, rfl, rfl⟩ | ⟨j, rfl, g2, rfl, rfl, g3⟩
          · have hyes := HY.out ⟨by rw [HO1.out, HCT.out, HWT.out]; rfl, .inl g1⟩
            have HYS := Lib.hid hyes
            clear hyes hc
            go_wp2_with fail
            refine wp_region_quiet_below (by kernel_rfl) (by kernel_rfl) ?_
            repeat (go_big_quiet_step (fail))
            refine wpQuiet_nil ?_
            intro w3 hw3
            have HB3 := Lib.hid (bthen' HB2.out (below_of_regrown hw3))
            clear hw3
            have hyes := HYS.out
            clear HV
            go_wp2
            go_roundw
            case rel => exact ⟨k + 1, by go_num, by omega, by rw [hyes]; exact .inr ⟨k, rfl, hlt, rfl, by rw [HWV.out], by rw [HWV.out]; exact hw⟩, HB3.out⟩
            case measure => simp [intOf]; omega
          · obtain ⟨-, -, -, -, -, e5, -⟩ := H22.out j g2
            have E5 := UP.out _ _ _ e5
            clear e5
            have j0 : (0 : Int) ≤ (j : Int) := by omega
            have j1 : (j : Int) < (n : Int) := by omega
            have q3 : (((wantsP (L j) (s.hs j) s.left : Nat) : Int) == 0) = false := beq_eq_false_iff_ne.2 (by omega)
            have HJ : ((j : Int)).toNat = j := by omega
            by_cases hd : (L k).dl < (L j).dl
            · have q4 : decide ((L k).dl < (L j).dl) = true := by simp [hd]
              have hyes := HY.out ⟨by rw [HO1.out, HCT.out, HWT.out]; rfl, .inr (by rw [HJ, ← HAE.out]; exact decide_eq_true hd)⟩
              have HYS := Lib.hid hyes
              clear hyes hc hd
              go_wp2_with fail
              refine wp_region_quiet_below (by kernel_rfl) (by kernel_rfl) ?_
              repeat (go_big_quiet_step (fail))
              refine wpQuiet_nil ?_
              intro w3 hw3
              have HB3 := Lib.hid (bthen' HB2.out (below_of_regrown hw3))
              clear hw3
              have hyes := HYS.out
              clear HV
              go_wp2
              go_roundw
              case rel => exact ⟨k + 1, by go_num, by omega, by rw [hyes]; exact .inr ⟨k, rfl, hlt, rfl, by rw [HWV.out], by rw [HWV.out]; exact hw⟩, HB3.out⟩
              case measure => simp [intOf]; omega
            · have q4 : decide ((L k).dl < (L j).dl) = false := by simp; omega
              have hno : ¬ (ok k = true ∧ ((j : Int) < 0 ∨ ah k (j : Int).toNat = true)) := fun h => by
                rcases h.2 with h | h
                · omega
                · rw [HJ, ← HAE.out] at h
                  exact hd (of_decide_eq_true h)
              have HNO := Lib.hid hno
              clear hno hc hd
              go_wp2_with fail
              refine wp_region_quiet_below (by kernel_rfl) (by kernel_rfl) ?_
              repeat (go_big_quiet_step (fail))
              refine wpQuiet_nil ?_
              intro w3 hw3
              have HB3 := Lib.hid (bthen' HB2.out (below_of_regrown hw3))
              clear hw3
              have hno := HNO.out
              go_wp2
              go_roundw
              case rel => exact ⟨k + 1, by go_num, by omega, by rw [HN.out hno]; exact HV.out, HB3.out⟩
              case measure => simp [intOf]; omega
        · have q2 : decide (s.hs k < (L k).ow) = false := by simp; omega
          have hno : ¬ (ok k = true ∧ (bp < 0 ∨ ah k bp.toNat = true)) := fun h => by
            rw [HO1.out] at h
            simp only [Bool.and_eq_true] at h
            exact hc (of_decide_eq_true h.1.1)
          have HNO := Lib.hid hno
          clear hno hc
          go_wp2_with fail
          refine wp_region_quiet_below (by kernel_rfl) (by kernel_rfl) ?_
          repeat (go_big_quiet_step (fail))
          refine wpQuiet_nil ?_
          intro w3 hw3
          have HB3 := Lib.hid (bthen' HB2.out (below_of_regrown hw3))
          clear hw3
          have hno := HNO.out
          go_wp2
          go_roundw
          case rel => exact ⟨k + 1, by go_num, by omega, by rw [HN.out hno]; exact HV.out, HB3.out⟩
          case measure => simp [intOf]; omega
      · have q1 : decide ((0 : Int) < (wv : Int)) = false := by simp; omega
        have hno : ¬ (ok k = true ∧ (bp < 0 ∨ ah k bp.toNat = true)) := fun h => by
          rw [HO1.out] at h
          simp only [Bool.and_eq_true] at h
          have := h.1.2
          rw [HW1.out] at this
          exact hw (of_decide_eq_true this)
        have HNO := Lib.hid hno
        clear hno
        go_wp2_with fail
        refine wp_region_quiet_below (by kernel_rfl) (by kernel_rfl) ?_
        repeat (go_big_quiet_step (fail))
        refine wpQuiet_nil ?_
        intro w3 hw3
        have HB3 := Lib.hid (bthen' HB2.out (below_of_regrown hw3))
        clear hw3
        have hno := HNO.out
        go_wp2
        go_roundw
        case rel => exact ⟨k + 1, by go_num, by omega, by rw [HN.out hno]; exact HV.out, HB3.out⟩
        case measure => simp [intOf]; omega
    · obtain rfl : k = n := by omega
      rcases hV with ⟨h1, rfl, rfl⟩ | ⟨j, h1, h2, rfl, rfl, h3⟩
      · go_wp2
        go_ret2
        exact ⟨by rw [HNX.out, HRA.out, HRN.out, if_pos h1, if_pos h1]; rfl, HB.out⟩
      · go_wp2
        go_ret2
        exact ⟨by rw [HNX.out, HRA.out, HRN.out, h1, if_neg (by omega), if_neg (by omega)]; rfl, HB.out⟩
end Go.Proofs.Ytdcogbokcbpnnaa
