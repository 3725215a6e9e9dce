/- Layer 33: demands. -/
import Derived.Test.YteokhadpenalaaaG1
import Derived.Deep.DeepCutAuto
namespace Go.Proofs.Yteokhadpenalaaa
set_option linter.unusedVariables false
set_option linter.unusedSimpArgs false
open Go.RowKit Go.Sort
attribute [local go_sem] gcell

/-- The blocks of the windows between two ticks. -/
def dm (n : Nat) (F W B : Nat → Int) (fr til : Int) : Int := if ck n F W B = 0 ∧ (0 ≤ fr ∧ fr ≤ 1048576) ∧ 0 ≤ til ∧ til ≤ 1048576 then dem F W B n fr.toNat til.toNat else 0
theorem cntR_bd (F W : Int) (a : Nat) : ∀ b : Nat, 0 ≤ cntR F W a b ∧ cntR F W a b ≤ b
  | 0 => ⟨Int.le_refl _, Int.le_refl _⟩
  | b + 1 => by
    have := cntR_bd F W a b
    unfold cntR
    split <;> omega
theorem mul_bd {x y X Y : Int} (hx : 0 ≤ x ∧ x ≤ X) (hy : 0 ≤ y ∧ y ≤ Y) : 0 ≤ x * y ∧ x * y ≤ X * Y :=
  ⟨Int.mul_nonneg hx.1 hy.1, Int.mul_le_mul hx.2 hy.2 hy.1 (by omega)⟩
theorem cw_bd {F W B : Int} {a b : Nat} (hv : vg F W B = true) (hb : b ≤ 1048576) : 0 ≤ cntR F W a b * B ∧ cntR F W a b * B ≤ 805306368 := by
  have h1 := cntR_bd F W a b
  have h2 := vg_true hv
  have := mul_bd (X := 1048576) (Y := 768) ⟨h1.1, by omega⟩ (show 0 ≤ B ∧ B ≤ 768 by omega)
  omega

set_option maxRecDepth 100000 in
set_option maxHeartbeats 8000000 in
theorem demand18 (a : Option Addr) (n c : Nat) (F W B : Nat → Int) (fr til : Int) (w : World) (R : R3 w a n F W B) (hn : n ≤ maxLen) :
    Calls Try.prog 18 #[.slice a n c, .int .i64 fr, .int .i64 til] w fun e w' => e = .returned (.int .i64 (dm n F W B fr til)) ∧ Below w.heap.size w w' := by
  have HR := Lib.hid R
  have K := check24 a n c F W B w R hn
  clear R
  obtain ⟨E, hE⟩ : ∃ E, ck n F W B = E := ⟨_, rfl⟩
  rw [hE] at K
  have HK := Lib.hid K
  clear K
  unfold maxLen at hn
  by_cases hgood : ck n F W B = 0 ∧ (0 ≤ fr ∧ fr ≤ 1048576) ∧ 0 ≤ til ∧ til ≤ 1048576
  · have hd : dm n F W B fr til = dem F W B n fr.toNat til.toNat := if_pos hgood
    rw [hd]
    obtain ⟨h0, h1, h2⟩ := hgood
    rw [hE] at h0
    subst h0
    obtain ⟨ok1, ok2⟩ := ck_ok hE
    have OK2 := Lib.hid ok2
    obtain ⟨x, rfl⟩ : ∃ x : Nat, fr = x := ⟨fr.toNat, by omega⟩
    obtain ⟨y, rfl⟩ : ∃ y : Nat, til = y := ⟨til.toNat, by omega⟩
    simp only [Int.toNat_natCast]
    clear hd hE ok2
    go_enter Try.func18, Try.ntmps18
    go_upto_region 1 with fail
    go_cut [25] (fun s25 wx => s25 = .bool false ∧ Below w.heap.size w wx)
    case first =>
      go_wp2_with fail
      refine HK.out.mono ?_
      rintro e w1 ⟨rfl, hb⟩
      have HB1 := Lib.hid hb
      clear hb
      have hmm : x < y ∨ y < x ∨ x = y := by omega
      rcases hmm with hmm | hmm | rfl
      · have m1 : ¬ y < x := by omega
        go_wp2_with fail
        go_meet
        exact ⟨congrArg Value.bool (by simp; omega), HB1.out⟩
      · have m1 : ¬ x < y := by omega
        go_wp2_with fail
        go_meet
        exact ⟨congrArg Value.bool (by simp; omega), HB1.out⟩
      · go_wp2_with fail
        go_meet
        exact ⟨congrArg Value.bool (by simp; omega), HB1.out⟩
    case rest =>
      obtain ⟨rfl, hb⟩ := hcut
      have HB1 := Lib.hid hb
      clear hb
      go_wp2_with fail
      go_loopw [7, 28] (fun s7 s28 wr => ∃ (k : Nat) (s : Int), s7 = .int .i64 s ∧ s28 = .int .i64 k ∧ k ≤ n ∧ s = sumN (fun i => cntR (F i) (W i) x y * B i) k ∧ 0 ≤ s ∧ s ≤ k * 805306368 ∧ Below w.heap.size w wr) (fun _ i _ => n - (intOf i).toNat)
      case atStart => exact ⟨0, 0, rfl, rfl, Nat.zero_le _, rfl, by omega, by omega, HB1.out⟩
      case round =>
        obtain ⟨k, s, rfl, rfl, hk, hs, hs0, hs1, hB⟩ := hrel
        have HB := Lib.hid hB
        have HS := Lib.hid hs
        clear hB hs
        by_cases hlt : k < n
        · obtain ⟨b, m, g1, g2⟩ := HR.out.mono HB.out
          obtain rfl := g1 (by omega)
          obtain ⟨c0, c1, c2⟩ := g2 k hlt
          have hv := OK2.out k hlt
          have hvg := vg_true hv
          have hcw := cw_bd (a := x) (b := y) hv (by omega)
          have hcl := cntR_closed (F := F k) (W := W k) (by omega) (by omega) x y
          have i1 : (0 : Int) ≤ (k : Int) := by omega
          have i2 : (k : Int) < (n : Int) := by omega
          have hsum : sumN (fun i => cntR (F i) (W i) x y * B i) (k + 1) = s + cntR (F k) (W k) x y * B k := by rw [HS.out]; rfl
          have HSUM := Lib.hid hsum
          have HV := Lib.hid hv
          clear g1 g2 hv hsum
          have HA := Lib.hid (HB.out.alloc HB.out.size (.cells #[.int .i64 (F k), .int .i64 (W k), .int .i64 (B k)] 39))
          generalize cntR (F k) (W k) x y = C at *
          generalize F k = f at *
          generalize W k = u at *
          generalize B k = v at *
          have nz : (u == 0) = false := beq_eq_false_iff_ne.2 (by omega)
          have n1 : (u == -1) = false := beq_eq_false_iff_ne.2 (by omega)
          by_cases h4 : f < (x : Int)
          · have hf : fstW f u x = f + ((x : Int) - f + u - 1) / u * u := if_pos h4
            rw [hf] at hcl
            have HCL := Lib.hid hcl
            clear hcl hf
            have hq : 0 ≤ ((x : Int) - f + u - 1) / u := Int.ediv_nonneg (by omega) (by omega)
            have hq2 : ((x : Int) - f + u - 1) / u ≤ (x : Int) - f + u - 1 := Int.ediv_le_self _ (by omega)
            have hqw : 0 ≤ ((x : Int) - f + u - 1) / u * u := Int.mul_nonneg hq (by omega)
            have hqu : ((x : Int) - f + u - 1) / u * u ≤ (x : Int) - f + u - 1 := Int.ediv_mul_le _ (by omega)
            go_upto_region 9 with fail
            have t1 : ((x : Int) - f + u - 1).tdiv u = ((x : Int) - f + u - 1) / u := Int.tdiv_eq_ediv_of_nonneg (by omega)
            have e1 : IntKind.i64.wrap ((x : Int) - f) = (x : Int) - f := IntWalk.i64_in _ (by omega)
            have e2 : IntKind.i64.wrap ((x : Int) - f + u) = (x : Int) - f + u := IntWalk.i64_in _ (by omega)
            have e3 : IntKind.i64.wrap ((x : Int) - f + u - 1) = (x : Int) - f + u - 1 := IntWalk.i64_in _ (by omega)
            have e4 : IntKind.i64.wrap (((x : Int) - f + u - 1) / u) = ((x : Int) - f + u - 1) / u := IntWalk.i64_in _ (by omega)
            have e5 : IntKind.i64.wrap (((x : Int) - f + u - 1) / u * u) = ((x : Int) - f + u - 1) / u * u := IntWalk.i64_in _ (by omega)
            have e6 : IntKind.i64.wrap (f + ((x : Int) - f + u - 1) / u * u) = f + ((x : Int) - f + u - 1) / u * u := IntWalk.i64_in _ (by omega)
            go_quiet (fail)
            go_wp2_with fail
            clear t1 e1 e2 e3 e4 e5 e6
            have hz : f ≤ f + ((x : Int) - f + u - 1) / u * u ∧ f + ((x : Int) - f + u - 1) / u * u ≤ 3000000 := by omega
            clear hq hq2 hqw hqu
            generalize f + ((x : Int) - f + u - 1) / u * u = z at *
            by_cases h5 : 0 ≤ (y : Int) - z
            · have hC : C = ((y : Int) - z) / u := by rw [HCL.out, Int.max_eq_left h5]
              have t2 : ((y : Int) - z).tdiv u = ((y : Int) - z) / u := Int.tdiv_eq_ediv_of_nonneg h5
              have hq : 0 ≤ ((y : Int) - z) / u := Int.ediv_nonneg h5 (by omega)
              have hq2 : ((y : Int) - z) / u ≤ (y : Int) - z := Int.ediv_le_self _ h5
              rw [hC] at hcw HSUM
              have m1 : ¬ (y : Int) - z < 0 := by omega
              have e1 : IntKind.i64.wrap ((y : Int) - z) = (y : Int) - z := IntWalk.i64_in _ (by omega)
              have e2 : IntKind.i64.wrap (((y : Int) - z) / u) = ((y : Int) - z) / u := IntWalk.i64_in _ (by omega)
              have e3 : IntKind.i64.wrap (((y : Int) - z) / u * v) = ((y : Int) - z) / u * v := IntWalk.i64_in _ (by omega)
              have e4 : IntKind.i64.wrap (s + ((y : Int) - z) / u * v) = s + ((y : Int) - z) / u * v := IntWalk.i64_in _ (by omega)
              clear hC
              go_quiet (fail)
              go_wp2_with fail
              exact ⟨⟨k + 1, _, rfl, by go_num, by omega, HSUM.out.symm, by omega, by omega, by first | exact below_drewN HA.out _ | exact below_drewN (below_drewN HA.out _) _⟩, by simp [intOf]; omega⟩
            · have hC : C = 0 := by rw [HCL.out, Int.max_eq_right (by omega)]; simp
              rw [hC] at HSUM
              have m1 : (y : Int) - z < 0 := by omega
              have e1 : IntKind.i64.wrap ((y : Int) - z) = (y : Int) - z := IntWalk.i64_in _ (by omega)
              have e4 : IntKind.i64.wrap s = s := IntWalk.i64_in _ (by omega)
              clear hC
              go_quiet (fail)
              go_wp2_with fail
              exact ⟨⟨k + 1, _, rfl, by go_num, by omega, by rw [HSUM.out]; omega, by omega, by omega, by first | exact below_drewN HA.out _ | exact below_drewN (below_drewN HA.out _) _⟩, by simp [intOf]; omega⟩
          · have hf : fstW f u x = f := if_neg h4
            rw [hf] at hcl
            have HCL := Lib.hid hcl
            clear hcl hf
            go_upto_region 10 with fail
            have hz : f ≤ f ∧ f ≤ 3000000 := by omega
            generalize hzz : f = z at *
            by_cases h5 : 0 ≤ (y : Int) - z
            · have hC : C = ((y : Int) - z) / u := by rw [HCL.out, Int.max_eq_left h5]
              have t2 : ((y : Int) - z).tdiv u = ((y : Int) - z) / u := Int.tdiv_eq_ediv_of_nonneg h5
              have hq : 0 ≤ ((y : Int) - z) / u := Int.ediv_nonneg h5 (by omega)
              have hq2 : ((y : Int) - z) / u ≤ (y : Int) - z := Int.ediv_le_self _ h5
              rw [hC] at hcw HSUM
              have m1 : ¬ (y : Int) - z < 0 := by omega
              have e1 : IntKind.i64.wrap ((y : Int) - z) = (y : Int) - z := IntWalk.i64_in _ (by omega)
              have e2 : IntKind.i64.wrap (((y : Int) - z) / u) = ((y : Int) - z) / u := IntWalk.i64_in _ (by omega)
              have e3 : IntKind.i64.wrap (((y : Int) - z) / u * v) = ((y : Int) - z) / u * v := IntWalk.i64_in _ (by omega)
              have e4 : IntKind.i64.wrap (s + ((y : Int) - z) / u * v) = s + ((y : Int) - z) / u * v := IntWalk.i64_in _ (by omega)
              clear hC
              go_quiet (fail)
              go_wp2_with fail
              exact ⟨⟨k + 1, _, rfl, by go_num, by omega, HSUM.out.symm, by omega, by omega, by first | exact below_drewN HA.out _ | exact below_drewN (below_drewN HA.out _) _⟩, by simp [intOf]; omega⟩
            · have hC : C = 0 := by rw [HCL.out, Int.max_eq_right (by omega)]; simp
              rw [hC] at HSUM
              have m1 : (y : Int) - z < 0 := by omega
              have e1 : IntKind.i64.wrap ((y : Int) - z) = (y : Int) - z := IntWalk.i64_in _ (by omega)
              have e4 : IntKind.i64.wrap s = s := IntWalk.i64_in _ (by omega)
              clear hC
              go_quiet (fail)
              go_wp2_with fail
              exact ⟨⟨k + 1, _, rfl, by go_num, by omega, by rw [HSUM.out]; omega, by omega, by omega, by first | exact below_drewN HA.out _ | exact below_drewN (below_drewN HA.out _) _⟩, by simp [intOf]; omega⟩
        · have : k = n := by omega
          subst this
          go_wp2
          go_ret
          exact ⟨ret_int HS.out, HB.out⟩
  · have hd : dm n F W B fr til = 0 := if_neg hgood
    rw [hd]
    clear hd
    by_cases h0 : E = 0
    · subst h0
      have hbad : fr < 0 ∨ 1048576 < fr ∨ til < 0 ∨ 1048576 < til := by
        by_cases c1 : fr < 0 ∨ 1048576 < fr ∨ til < 0 ∨ 1048576 < til
        · exact c1
        · exact absurd ⟨hE, by omega, by omega⟩ hgood
      clear hgood hE
      go_enter Try.func18, Try.ntmps18
      go_wp2_with (go_at_call 24; refine HK.out.mono ?_)
      rintro e w1 ⟨rfl, hb⟩
      have HB1 := Lib.hid hb
      clear hb
      by_cases hmm : fr ≤ til
      · by_cases hneg : fr < 0
        · go_wp2
          go_ret
          exact ⟨rfl, HB1.out⟩
        · have hpos : 1048576 < til := by omega
          go_wp2
          all_goals
            go_ret
            exact ⟨rfl, HB1.out⟩
      · have hmm' : til < fr := by omega
        by_cases hneg : til < 0
        · go_wp2
          go_ret
          exact ⟨rfl, HB1.out⟩
        · have hpos : 1048576 < fr := by omega
          go_wp2
          all_goals
            go_ret
            exact ⟨rfl, HB1.out⟩
    · have q1 : (E == 0) = false := beq_eq_false_iff_ne.2 h0
      have q2 : (E != 0) = true := by rw [bne_iff_ne]; exact h0
      clear hgood hE
      go_enter Try.func18, Try.ntmps18
      go_wp2_with (go_at_call 24; refine HK.out.mono ?_)
      rintro e w1 ⟨rfl, hb⟩
      have HB1 := Lib.hid hb
      clear hb
      go_wp2
      go_ret
      exact ⟨rfl, HB1.out⟩
end Go.Proofs.Yteokhadpenalaaa
