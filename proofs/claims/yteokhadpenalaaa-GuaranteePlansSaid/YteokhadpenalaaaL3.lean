/- Layer 33: the walk of GuaranteeAdds. -/
import Derived.Test.YteokhadpenalaaaG12
import Derived.Deep.DeepCutAuto
namespace Go.Proofs.Yteokhadpenalaaa
set_option linter.unusedVariables false
set_option linter.unusedSimpArgs false
open Go.RowKit Go.Sort
attribute [local go_sem] gcell beq_self_eq_true

structure ListIn (w : World) (a : Option Addr) (b m n c : Nat) (xs : Nat → Int) : Prop where
  hc : n ≤ c
  h0 : a = none → c = 0
  ha : 0 < c → a = some ⟨b, m, none⟩
  hx : ∀ i, i < n → w.cell? ⟨b, m + i, none⟩ = some (.int .i64 (xs i))
theorem sumN_split (f : Nat → Int) (k : Nat) : ∀ m : Nat, sumN f (k + m) = sumN f k + sumN (fun i => f (k + i)) m
  | 0 => by show sumN f k = sumN f k + 0; omega
  | m + 1 => by
    have ih := sumN_split f k m
    show sumN f (k + m) + f (k + m) = sumN f k + (sumN (fun i => f (k + i)) m + f (k + m))
    omega
theorem ck_all {n : Nat} {F W B : Nat → Int} (hn : n ≤ 4) (h : ∀ k, k < n → vg (F k) (W k) (B k) = true) : ck n F W B = 0 := by
  unfold ck
  rw [if_neg (by omega), anyB_false.2 fun k hk => by rw [h k hk]; rfl]
  rfl
theorem R3.of {w : World} {b n : Nat} {F W B : Nat → Int} (h : ∀ k, k < n → w.cell? ⟨b, k * 3, none⟩ = some (.int .i64 (F k)) ∧ w.cell? ⟨b, k * 3 + 1, none⟩ = some (.int .i64 (W k)) ∧ w.cell? ⟨b, k * 3 + 2, none⟩ = some (.int .i64 (B k))) : R3 w (some ⟨b, 0, none⟩) n F W B :=
  ⟨b, 0, fun _ => rfl, fun k hk => by rw [Nat.zero_add]; exact h k hk⟩
theorem R3.tail {w : World} {b n : Nat} {F W B : Nat → Int} (k m : Nat) (hm : k + m = n) (h : ∀ k, k < n → w.cell? ⟨b, k * 3, none⟩ = some (.int .i64 (F k)) ∧ w.cell? ⟨b, k * 3 + 1, none⟩ = some (.int .i64 (W k)) ∧ w.cell? ⟨b, k * 3 + 2, none⟩ = some (.int .i64 (B k))) :
    R3 w (some ⟨b, k * 3, none⟩) m (fun i => F (k + i)) (fun i => W (k + i)) (fun i => B (k + i)) :=
  ⟨b, k * 3, fun _ => rfl, fun i hi => by
    have := h (k + i) (by omega)
    rw [Nat.add_mul] at this
    exact this⟩

set_option maxRecDepth 100000 in
set_option maxHeartbeats 4000000 in
theorem adds8 (a : Option Addr) (b m n c : Nat) (xs : Nat → Int) (x1 x2 x3 : Int) (w : World) (L : ListIn w a b m n c xs) (hn : n ≤ 140737488351232) (b1 : 0 ≤ x1 ∧ x1 ≤ 255) (b2 : 0 ≤ x2 ∧ x2 ≤ 255) (b3 : 0 ≤ x3 ∧ x3 ≤ 255) :
    Calls Try.prog 8 #[.slice a n c, .int .u8 x1, .int .u8 x2, .int .u8 x3] w fun e w' => e = .returned (.bool true) ∧ Below w.heap.size w w' := by
  have HL := Lib.hid L
  clear L
  by_cases h300 : n ≤ 300
  · have hd : decide (n ≤ 300) = true := by simpa using h300
    have m1 : 0 ≤ x1 % 60 ∧ x1 % 60 ≤ 59 := by omega
    have m2 : 0 ≤ x2 % 60 ∧ x2 % 60 ≤ 59 := by omega
    have m3 : 0 ≤ x3 % 60 ∧ x3 % 60 ≤ 59 := by omega
    go_enter Try.func8, Try.ntmps8
    go_wp2_with fail
    refine (light_any a n c _).mono ?_
    rw [hd]
    rintro e w' ⟨rfl, rfl⟩
    go_wp2_with fail
    refine (roll_any _ a b m n c xs h300 HL.out.hc HL.out.h0 HL.out.ha HL.out.hx).mono ?_
    rintro e w1 ⟨p, g, aa, cap, rfl, hD, hp, hB⟩
    have HB := Lib.hid hB
    have HD := Lib.hid hD
    clear hB hD hd
    go_wp2_with fail
    refine (guarantees14 p g aa cap n xs 0 3 _ (by omega) h300 (by omega) HD.out).mono ?_
    rintro e w2 ⟨N, gb, gc, kd, F, W, B, rfl, ⟨hN1, hN4, hNc⟩, _, hcells, hmade, _, _, hO⟩
    have HB2 := Lib.hid (HB.out.trans (only_below hO hp HB.out.size))
    have hvg : ∀ k, k < N → vg (F k) (W k) (B k) = true := fun k hk => (hmade k hk).vg (by omega)
    have HC := Lib.hid hcells
    have HV := Lib.hid hvg
    clear hcells hmade hO HB HD hvg
    go_upto_region 5 with fail
    generalize x1 % 60 = y1 at *
    generalize x2 % 60 = y2 at *
    generalize x3 % 60 = y3 at *
    obtain ⟨u1, rfl⟩ : ∃ u : Nat, y1 = u := ⟨y1.toNat, by omega⟩
    obtain ⟨u2, rfl⟩ : ∃ u : Nat, y2 = u := ⟨y2.toNat, by omega⟩
    obtain ⟨u3, rfl⟩ : ∃ u : Nat, y3 = u := ⟨y3.toNat, by omega⟩
    go_cut [10, 12] (fun s10 s12 wx => ∃ X Z : Nat, s10 = .int .i64 X ∧ s12 = .int .i64 Z ∧ X ≤ Z ∧ Z ≤ 59 ∧ wx = w2)
    case first =>
      have hmm : u1 < u3 ∨ u3 < u1 ∨ u1 = u3 := by omega
      rcases hmm with hmm | hmm | hmm
      · have m1 : ¬ u3 < u1 := by omega
        go_wp2_with fail
        go_meet
        exact ⟨u1, u3, rfl, rfl, by omega, by omega, rfl⟩
      · have m1 : ¬ u1 < u3 := by omega
        go_wp2_with fail
        go_meet
        exact ⟨u3, u1, rfl, rfl, by omega, by omega, rfl⟩
      · subst hmm
        go_wp2_with fail
        go_meet
        exact ⟨u1, u1, rfl, rfl, by omega, by omega, rfl⟩
    case rest =>
      obtain ⟨X, Z, rfl, rfl, hXZ, hZ, hw⟩ := hcut
      subst hw
      go_upto_region 6 with fail
      go_cut [11] (fun s11 wx => ∃ Y : Nat, s11 = .int .i64 Y ∧ X ≤ Y ∧ Y ≤ Z ∧ wx = wc)
      case first =>
        have hmm : X < u2 ∨ u2 < X ∨ X = u2 := by omega
        have hm2 : u2 < Z ∨ Z < u2 ∨ u2 = Z := by omega
        have hm3 : X < Z ∨ X = Z := by omega
        rcases hmm with hmm | hmm | hmm
        · have m1 : ¬ u2 < X := by omega
          rcases hm2 with hm2 | hm2 | hm2
          · have m2 : ¬ Z < u2 := by omega
            go_wp2_with fail
            go_meet
            exact ⟨u2, rfl, by omega, by omega, rfl⟩
          · have m2 : ¬ u2 < Z := by omega
            go_wp2_with fail
            go_meet
            exact ⟨Z, rfl, by omega, by omega, rfl⟩
          · subst hm2
            go_wp2_with fail
            go_meet
            exact ⟨u2, rfl, by omega, by omega, rfl⟩
        · have m1 : ¬ X < u2 := by omega
          rcases hm3 with hm3 | hm3
          · have m2 : ¬ Z < X := by omega
            go_wp2_with fail
            go_meet
            exact ⟨X, rfl, by omega, by omega, rfl⟩
          · subst hm3
            go_wp2_with fail
            go_meet
            exact ⟨X, rfl, by omega, by omega, rfl⟩
        · subst hmm
          rcases hm3 with hm3 | hm3
          · have m2 : ¬ Z < X := by omega
            go_wp2_with fail
            go_meet
            exact ⟨X, rfl, by omega, by omega, rfl⟩
          · subst hm3
            go_wp2_with fail
            go_meet
            exact ⟨X, rfl, by omega, by omega, rfl⟩
      case rest =>
        obtain ⟨Y, rfl, hXY, hYZ, hw⟩ := hcut
        subst hw
        go_upto_region 8 with fail
        obtain ⟨K, hK⟩ : ∃ K : Nat, (N : Int) / 2 = K := ⟨((N : Int) / 2).toNat, by omega⟩
        obtain ⟨M, hM⟩ : ∃ M : Nat, K + M = N := ⟨N - K, by omega⟩
        rw [hK]
        have hKc : K < gc := by omega
        have hKN : K < N := by omega
        have hc0 : ck N F W B = 0 := ck_all hN4 HV.out
        have hc1 : ck K F W B = 0 := ck_all (by omega) fun k hk => HV.out k (by omega)
        have hc2 : ck M (fun i => F (K + i)) (fun i => W (K + i)) (fun i => B (K + i)) = 0 := ck_all (by omega) fun k hk => HV.out (K + k) (by omega)
        have e1 := dm_in hc0 (a := X) (b := Y) (by omega) (by omega)
        have e2 := dm_in hc0 (a := Y) (b := Z) (by omega) (by omega)
        have e3 := dm_in hc0 (a := X) (b := Z) (by omega) (by omega)
        have e4 := dm_in hc1 (a := X) (b := Z) (by omega) (by omega)
        have e5 := dm_in hc2 (a := X) (b := Z) (by omega) (by omega)
        have e6 := dm_in hc0 (a := X) (b := X) (by omega) (by omega)
        rw [dem_zero N F W B (fun i hi => by have := vg_true (HV.out i hi); omega) X X (Nat.le_refl _)] at e6
        have d1 := dem_bd (a := X) (b := Y) (by omega) N HV.out
        have d2 := dem_bd (a := Y) (b := Z) (by omega) N HV.out
        have d3 := dem_bd (a := X) (b := Z) (by omega) N HV.out
        have s1 : dem F W B N X Y + dem F W B N Y Z ≤ dem F W B N X Z := by
          obtain ⟨q, rfl⟩ : ∃ q, Z = Y + q := ⟨Z - Y, by omega⟩
          unfold dem
          rw [← sumN_add]
          refine sumN_le fun i hi => ?_
          rw [← Int.add_mul]
          have := vg_true (HV.out i hi)
          exact Int.mul_le_mul_of_nonneg_right (cntR_two (by omega) hXY q) (by omega)
        have s2 : dem F W B K X Z + dem (fun i => F (K + i)) (fun i => W (K + i)) (fun i => B (K + i)) M X Z = dem F W B N X Z := by
          unfold dem
          rw [← hM, sumN_split]
        have d4 := dem_bd (a := X) (b := Z) (by omega) K fun k hk => HV.out k (by omega)
        have d5 := dem_bd (F := fun i => F (K + i)) (W := fun i => W (K + i)) (B := fun i => B (K + i)) (a := X) (b := Z) (by omega) M fun k hk => HV.out (K + k) (by omega)
        rw [← e1, ← e2, ← e3] at s1
        rw [← e4, ← e5, ← e3] at s2
        rw [← e1] at d1
        rw [← e2] at d2
        rw [← e3] at d3
        rw [← e4] at d4
        rw [← e5] at d5
        have k1 := fun dd os => demand18 (some ⟨gb, 0, none⟩) N gc F W B X Y (grow (redrawn wc dd) os) ((R3.of HC.out).mono (below_regrown _ _ _)) (by unfold maxLen; omega)
        have k2 := fun dd os => demand18 (some ⟨gb, 0, none⟩) N gc F W B Y Z (grow (redrawn wc dd) os) ((R3.of HC.out).mono (below_regrown _ _ _)) (by unfold maxLen; omega)
        have k3 := fun dd os => demand18 (some ⟨gb, 0, none⟩) N gc F W B X Z (grow (redrawn wc dd) os) ((R3.of HC.out).mono (below_regrown _ _ _)) (by unfold maxLen; omega)
        have k6 := fun dd os => demand18 (some ⟨gb, 0, none⟩) N gc F W B X X (grow (redrawn wc dd) os) ((R3.of HC.out).mono (below_regrown _ _ _)) (by unfold maxLen; omega)
        have k4 := fun dd os => demand18 (some ⟨gb, 0, none⟩) K gc F W B X Z (grow (redrawn wc dd) os) ((R3.of fun k hk => HC.out k (by omega)).mono (below_regrown _ _ _)) (by unfold maxLen; omega)
        have k5 := fun dd os => demand18 (some ⟨gb, K * 3, none⟩) M (gc - K) (fun i => F (K + i)) (fun i => W (K + i)) (fun i => B (K + i)) X Z (grow (redrawn wc dd) os) ((R3.tail K M hM HC.out).mono (below_regrown _ _ _)) (by unfold maxLen; omega)
        rw [e6] at k6
        clear e1 e2 e3 e4 e5 e6 hc0 hc1 hc2
        generalize dm M (fun i => F (K + i)) (fun i => W (K + i)) (fun i => B (K + i)) X Z = D5 at *
        generalize dm N F W B X Y = D1 at *
        generalize dm N F W B Y Z = D2 at *
        generalize dm N F W B X Z = D3 at *
        generalize dm K F W B X Z = D4 at *
        have q1 : decide (D1 + D2 ≤ D3) = true := decide_eq_true s1
        have v1 : IntKind.i64.wrap (D1 + D2) = D1 + D2 := IntWalk.i64_in _ (by omega)
        have q2 : (D4 + D5 == D3) = true := beq_iff_eq.2 s2
        have v2 : IntKind.i64.wrap (D4 + D5) = D4 + D5 := IntWalk.i64_in _ (by omega)
        have S2 := Lib.hid s2
        have i1 : (0 : Int) ≤ (K : Int) := by omega
        have i2 : (K : Int) ≤ (N : Int) := by omega
        have i3 : (K : Int) ≤ (gc : Int) := by omega
        have i4 : (N : Int) ≤ (gc : Int) := by omega
        have hM' : M = N - K := by omega
        subst hM'
        have K1 := Lib.hid k1
        have K2 := Lib.hid k2
        have K3 := Lib.hid k3
        have K4 := Lib.hid k4
        have K5 := Lib.hid k5
        have K6 := Lib.hid k6
        clear k1 k2 k3 k4 k5 k6 s1 s2 hK hM HC HV
        refine wp_region_quiet_below (by kernel_rfl) (by kernel_rfl) ?_
        repeat (go_big_quiet_step (first
          | (go_at_call 18; first
              | (with_reducible exact Calls.regrown_of (K1.out _ _))
              | (with_reducible exact Calls.regrown_of (K2.out _ _))
              | (with_reducible exact Calls.regrown_of (K3.out _ _))
              | (with_reducible exact Calls.regrown_of (K4.out _ _))
              | (with_reducible exact Calls.regrown_of (K5.out _ _))
              | (with_reducible exact Calls.regrown_of (K6.out _ _)))
          | (go_at_call 10; exact Calls.regrown_of (awake10 _))))
        refine wpQuiet_nil ?_
        intro w5 hw5
        have HB5 := Lib.hid (bthen HB2.out (below_of_regrown hw5) HB2.out.size)
        clear hw5
        go_wp2
        go_ret
        exact ⟨rfl, HB5.out⟩
  · have hd : decide (n ≤ 300) = false := by simpa using h300
    go_enter Try.func8, Try.ntmps8
    go_wp2_with (first
      | (go_at_call 11; refine (light_any a n c _).mono ?_; rw [hd]; rintro e w' ⟨rfl, rfl⟩)
      | (go_at_call 10; refine (awake10 _).mono ?_; rintro e w' ⟨rfl, hb⟩))
    go_ret
    exact ⟨rfl, hb⟩
end Go.Proofs.Yteokhadpenalaaa
