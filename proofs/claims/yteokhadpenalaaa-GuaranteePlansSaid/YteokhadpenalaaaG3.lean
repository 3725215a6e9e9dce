/- Layer 33: the reference's demands. -/
import Derived.Test.YteokhadpenalaaaG2
namespace Go.Proofs.Yteokhadpenalaaa
set_option linter.unusedVariables false
set_option linter.unusedSimpArgs false
open Go.RowKit Go.Sort
attribute [local go_sem] gcell

theorem rel_in {F W : Int} (hW : 1 ≤ W) {T : Nat} (h : rel F W T = T) : ∀ i : Nat, (i : Int) < W → rel F W ((T + i : Nat) : Int) = T
  | 0, _ => h
  | i + 1, hi => by
    have ih := rel_in hW h i (by omega)
    rw [show ((T + (i + 1) : Nat) : Int) = ((T + i : Nat) : Int) + 1 by omega]
    rw [rel_succ hW (by omega), ih]
theorem cnt_in {F W : Int} (hW : 1 ≤ W) (x : Nat) {T : Nat} (h : rel F W T = T) : ∀ i : Nat, (i : Int) < W → cntR F W x (T + i) = cntR F W x T
  | 0, _ => rfl
  | i + 1, hi => by
    have ih := cnt_in hW x h i (by omega)
    have hr := rel_in hW h i (by omega)
    show cntR F W x (T + i) + (if F ≤ ((T + i : Nat) : Int) ∧ rel F W ((T + i : Nat) : Int) + W = ((T + i : Nat) : Int) + 1 ∧ (x : Int) ≤ rel F W ((T + i : Nat) : Int) then 1 else 0) = _
    rw [ih, hr, if_neg (by omega)]
    omega
theorem cnt_next {F W : Int} (hW : 1 ≤ W) (x : Nat) {T u : Nat} (h : rel F W T = T) (hF : F ≤ T) (hu : (u : Int) = W) : cntR F W x (T + u) = cntR F W x T + if x ≤ T then 1 else 0 := by
  obtain ⟨i, rfl⟩ : ∃ i, u = i + 1 := ⟨u - 1, by omega⟩
  have hi := cnt_in hW x h i (by omega)
  have hr := rel_in hW h i (by omega)
  show cntR F W x (T + i) + (if F ≤ ((T + i : Nat) : Int) ∧ rel F W ((T + i : Nat) : Int) + W = ((T + i : Nat) : Int) + 1 ∧ (x : Int) ≤ rel F W ((T + i : Nat) : Int) then 1 else 0) = _
  rw [hi, hr]
  by_cases c : x ≤ T
  · rw [if_pos c, if_pos (by omega)]
  · rw [if_neg c, if_neg (by omega)]
theorem rel_jump {F W : Int} (hW : 1 ≤ W) {T u : Nat} (h : rel F W T = T) (hu : (u : Int) = W) : rel F W ((T + u : Nat) : Int) = ((T + u : Nat) : Int) := by
  obtain ⟨i, rfl⟩ : ∃ i, u = i + 1 := ⟨u - 1, by omega⟩
  have hr := rel_in hW h i (by omega)
  rw [show ((T + (i + 1) : Nat) : Int) = ((T + i : Nat) : Int) + 1 by omega]
  exact rel_next hW (by omega)
theorem cnt_early {F W : Int} (x : Nat) : ∀ b : Nat, (b : Int) ≤ F → cntR F W x b = 0
  | 0, _ => rfl
  | b + 1, h => by
    have ih := cnt_early (F := F) (W := W) x b (by omega)
    unfold cntR
    rw [ih, if_neg (by omega)]
    rfl
theorem cnt_last {F W : Int} (hW : 1 ≤ W) (x : Nat) {T y : Nat} (h : rel F W T = T) (h1 : (T : Int) = F ∨ T ≤ y) (h2 : (y : Int) < T + W) : cntR F W x T = cntR F W x y := by
  by_cases c : T ≤ y
  · obtain ⟨i, rfl⟩ : ∃ i, y = T + i := ⟨y - T, by omega⟩
    exact (cnt_in hW x h i (by omega)).symm
  · rw [cnt_early x T (by omega), cnt_early x y (by omega)]

set_option maxRecDepth 100000 in
set_option maxHeartbeats 8000000 in
theorem demand26 (a : Option Addr) (n c : Nat) (F W B : Nat → Int) (fr til : Int) (w : World) (R : R3 w a n F W B) (hn : n ≤ maxLen) :
    Calls Try.prog 26 #[.slice a n c, .int .i64 fr, .int .i64 til] w fun e w' => e = .returned (.int .i64 (dm n F W B fr til)) ∧ Below w.heap.size w w' := by
  have HR := Lib.hid R
  have K := check25 a n c F W B w R hn
  clear R
  obtain ⟨E, hE⟩ : ∃ E, ck n F W B = E := ⟨_, rfl⟩
  rw [hE] at K
  have HK := Lib.hid K
  clear K
  unfold maxLen at hn
  by_cases hgood : ck n F W B = 0 ∧ (0 ≤ fr ∧ fr ≤ 1048576) ∧ 0 ≤ til ∧ til ≤ 1048576
  · have hd : dm n F W B fr til = dem F W B n fr.toNat til.toNat := if_pos hgood
    rw [hd]
    obtain ⟨h0, h1, h2⟩ := hgood
    rw [hE] at h0
    subst h0
    obtain ⟨ok1, ok2⟩ := ck_ok hE
    have OK2 := Lib.hid ok2
    obtain ⟨x, rfl⟩ : ∃ x : Nat, fr = x := ⟨fr.toNat, by omega⟩
    obtain ⟨y, rfl⟩ : ∃ y : Nat, til = y := ⟨til.toNat, by omega⟩
    simp only [Int.toNat_natCast]
    clear hd hE ok2
    go_enter Try.func26, Try.ntmps26
    go_wp2_with fail
    refine HK.out.mono ?_
    rintro e w1 ⟨rfl, hb⟩
    have HB1 := Lib.hid hb
    clear hb
    go_wp2_with fail
    go_loopw [7, 8] (fun s7 s8 wr => ∃ (k : Nat) (s : Int), s7 = .int .i64 s ∧ s8 = .int .i64 k ∧ k ≤ n ∧ s = sumN (fun i => cntR (F i) (W i) x y * B i) k ∧ 0 ≤ s ∧ s ≤ k * 805306368 ∧ Below w.heap.size w wr) (fun _ i _ => n - (intOf i).toNat)
    case atStart => exact ⟨0, 0, rfl, rfl, Nat.zero_le _, rfl, by omega, by omega, HB1.out⟩
    case round =>
      obtain ⟨k, s, rfl, rfl, hk, hs, hs0, hs1, hB⟩ := hrel
      have HB := Lib.hid hB
      have HS := Lib.hid hs
      clear hB hs
      by_cases hlt : k < n
      · obtain ⟨b, m, g1, g2⟩ := HR.out.mono HB.out
        obtain rfl := g1 (by omega)
        obtain ⟨c0, c1, c2⟩ := g2 k hlt
        have hv := OK2.out k hlt
        have hvg := vg_true hv
        have i1 : (0 : Int) ≤ (k : Int) := by omega
        have i2 : (k : Int) < (n : Int) := by omega
        have hsum : sumN (fun i => cntR (F i) (W i) x y * B i) (k + 1) = s + cntR (F k) (W k) x y * B k := by rw [HS.out]; rfl
        have HSUM := Lib.hid hsum
        have HV := Lib.hid hv
        have hcw : ∀ T : Nat, T ≤ 1048576 → 0 ≤ cntR (F k) (W k) x T * B k ∧ cntR (F k) (W k) x T * B k ≤ 805306368 := fun T hT => cw_bd hv hT
        have HCW := Lib.hid hcw
        clear g1 g2 hv hsum hcw
        obtain ⟨f, hf⟩ : ∃ f : Nat, F k = f := ⟨(F k).toNat, by omega⟩
        obtain ⟨u, hu⟩ : ∃ u : Nat, W k = u := ⟨(W k).toNat, by omega⟩
        rw [hf, hu] at HSUM HV HCW hvg
        rw [hf] at c0
        rw [hu] at c1
        generalize B k = v at *
        clear hf hu
        go_wp2_with fail
        go_loop [7, 9] (fun s7 s9 => ∃ (T : Nat) (z : Int), s7 = .int .i64 (s + z) ∧ s9 = .int .i64 T ∧ rel f u T = T ∧ f ≤ T ∧ (T = f ∨ T ≤ y) ∧ T ≤ 1048576 ∧ z = cntR f u x T * v ∧ 0 ≤ z ∧ z ≤ 805306368) (fun _ i => y + 1 - (intOf i).toNat)
        case atStart => exact ⟨f, 0, by simp, rfl, rel_first, Nat.le_refl _, .inl rfl, by omega, by rw [cnt_early x f (by omega), Int.zero_mul], by omega, by omega⟩
        case round =>
          obtain ⟨T, z, rfl, rfl, hr, hfT, hTy, hTb, hz, hz0, hz1⟩ := hrel
          have HRL := Lib.hid hr
          have HZ := Lib.hid hz
          clear hr hz
          by_cases hin : T + u ≤ y
          · have hcn := cnt_next (x := x) (show (1 : Int) ≤ u by omega) HRL.out (by omega) rfl
            have HCN := Lib.hid hcn
            have hbd := HCW.out (T + u) (by omega)
            have HJ := Lib.hid (rel_jump (show (1 : Int) ≤ u by omega) HRL.out rfl)
            clear hcn
            have hin' : (T : Int) + u ≤ y := by omega
            by_cases hxT : x ≤ T
            · have hxT' : (x : Int) ≤ T := by omega
              rw [HCN.out, if_pos hxT, Int.add_mul, Int.one_mul, ← HZ.out] at hbd
              go_wp2_with fail
              exact ⟨⟨T + u, z + v, by go_num, by go_num, HJ.out, by omega, .inr (by omega), by omega, by rw [HCN.out, if_pos hxT, Int.add_mul, Int.one_mul, ← HZ.out], by omega, by omega⟩, by simp [intOf]; omega⟩
            · have hxT' : (T : Int) < x := by omega
              go_wp2_with fail
              exact ⟨⟨T + u, z, rfl, by go_num, HJ.out, by omega, .inr (by omega), by omega, by rw [HCN.out, if_neg hxT, Int.add_zero, ← HZ.out], by omega, by omega⟩, by simp [intOf]; omega⟩
          · have hin' : (y : Int) < (T : Int) + u := by omega
            have hl := cnt_last (x := x) (y := y) (show (1 : Int) ≤ u by omega) HRL.out (by omega) hin'
            have HL := Lib.hid hl
            clear hl
            go_wp2_with fail
            exact ⟨⟨k + 1, s + z, rfl, by go_num, by omega, by rw [HSUM.out, HZ.out, HL.out], by omega, by omega, HB.out⟩, by simp [intOf]; omega⟩
      · have : k = n := by omega
        subst this
        go_wp2
        go_ret
        exact ⟨ret_int HS.out, HB.out⟩
  · have hd : dm n F W B fr til = 0 := if_neg hgood
    rw [hd]
    clear hd
    by_cases h0 : E = 0
    · subst h0
      have hbad : fr < 0 ∨ 1048576 < fr ∨ til < 0 ∨ 1048576 < til := by
        by_cases c1 : fr < 0 ∨ 1048576 < fr ∨ til < 0 ∨ 1048576 < til
        · exact c1
        · exact absurd ⟨hE, by omega, by omega⟩ hgood
      clear hgood hE
      go_enter Try.func26, Try.ntmps26
      go_wp2_with fail
      refine HK.out.mono ?_
      rintro e w1 ⟨rfl, hb⟩
      have HB1 := Lib.hid hb
      clear hb
      by_cases b1 : fr < 0
      · go_wp2
        go_ret
        exact ⟨rfl, HB1.out⟩
      · by_cases b2 : 1048576 < fr
        · go_wp2
          go_ret
          exact ⟨rfl, HB1.out⟩
        · by_cases b3 : til < 0
          · go_wp2
            go_ret
            exact ⟨rfl, HB1.out⟩
          · have b4 : 1048576 < til := by omega
            go_wp2
            go_ret
            exact ⟨rfl, HB1.out⟩
    · have q1 : (E == 0) = false := beq_eq_false_iff_ne.2 h0
      have q2 : (E != 0) = true := by rw [bne_iff_ne]; exact h0
      clear hgood hE
      go_enter Try.func26, Try.ntmps26
      go_wp2_with fail
      refine HK.out.mono ?_
      rintro e w1 ⟨rfl, hb⟩
      have HB1 := Lib.hid hb
      clear hb
      go_wp2
      go_ret
      exact ⟨rfl, HB1.out⟩
end Go.Proofs.Yteokhadpenalaaa
