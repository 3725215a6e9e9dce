/- Layer 34: the walk of SchedulerUses. -/
import Derived.Test.YtdcogbokcbpnnaaP3
import Derived.Test.YtdcogbokcbpnnaaDm1
namespace Go.Proofs.Ytdcogbokcbpnnaa
set_option linter.unusedVariables false
set_option linter.unusedSimpArgs false
open Go.RowKit Go.Sort
attribute [local go_sem] gcell
theorem chk_ok {n : Nat} {L : Nat → Dm} {R : Int} (hR : 0 ≤ R ∧ R ≤ 12) (hn : n ≤ 4) (h : ∀ j, j < n → dOk (L j) = true) : chkE n L R = 0 := by
  unfold chkE
  rw [if_neg (by omega), if_neg (by omega), anyB_false.2 fun j hj => by unfold badD; rw [h j hj]; rfl]
  rfl
theorem sumI_part {f : Nat → Int} : ∀ {n : Nat}, (∀ j, j < n → 0 ≤ f j) → ∀ i, i ≤ n → 0 ≤ sumI f i ∧ sumI f i ≤ sumI f n
  | 0, _, i, hi => by
    obtain rfl : i = 0 := by omega
    exact ⟨Int.le_refl _, Int.le_refl _⟩
  | n + 1, h, i, hi => by
    have h0 := h n (by omega)
    have e : sumI f (n + 1) = sumI f n + f n := rfl
    by_cases hin : i = n + 1
    · subst hin
      have := sumI_part (n := n) (fun j hj => h j (by omega)) n (Nat.le_refl _)
      exact ⟨by omega, Int.le_refl _⟩
    · have := sumI_part (n := n) (fun j hj => h j (by omega)) i (by omega)
      omega
set_option maxRecDepth 100000 in
set_option maxHeartbeats 8000000 in
theorem uses5 (a : Option Addr) (b o n0 cp : Nat) (xs : Nat → Int) (r : Int) (w : World) (hc : n0 ≤ cp) (h0 : a = none → cp = 0) (ha : 0 < cp → a = some ⟨b, o, none⟩) (hx : ∀ i, i < n0 → w.cell? ⟨b, o + i, none⟩ = some (.int .i64 (xs i))) (hn : n0 ≤ 140737488351232) (hr : 0 ≤ r ∧ r ≤ 255) :
    Calls Try.prog 5 #[.slice a n0 cp, .int .u8 r] w fun e w' => e = .returned (.bool true) ∧ Below w.heap.size w w' := by
  have KL := Lib.hid (light_any a n0 cp w)
  by_cases h300 : n0 ≤ 300
  · have q1 : decide (n0 ≤ 300) = true := by simp [h300]
    rw [q1] at KL
    clear q1
    have KR := Lib.hid (roll_any w a b o n0 cp xs h300 hc h0 ha hx)
    obtain ⟨R, hrr, hR⟩ : ∃ R : Nat, r.tmod 13 = R ∧ R ≤ 12 := ⟨(r % 13).toNat, by rw [Int.tmod_eq_emod_of_nonneg hr.1]; omega, by omega⟩
    clear ha hx
    go_enter Try.func5, Try.ntmps5
    go_wp2_with fail
    refine KL.out.mono ?_
    rintro e w1 ⟨rfl, hw1⟩; obtain rfl := hw1.symm
    go_wp2_with fail
    refine KR.out.mono ?_
    rintro e w1 ⟨p, g, aa, cap, rfl, hD, hpw, hb1⟩
    have KD := Lib.hid (demands16 p g aa cap n0 xs w1 h300 hD)
    have HB1 := Lib.hid hb1
    clear hD hb1 KR KL
    go_wp2_with fail
    refine KD.out.mono ?_
    rintro e w2 ⟨da, dc, n, L, rfl, hk, hrk, hO, hok⟩
    have HB2 := Lib.hid (HB1.out.trans (only_below hO hpw HB1.out.size))
    have KA := Lib.hid (assign18 da n dc L R w2 hrk.rd (by unfold maxLen; omega))
    have HRD := Lib.hid hrk.rd
    have HOK := Lib.hid fun j (hj : j < n) => dOk_true.1 (hok j hj)
    have HE := Lib.hid (chk_ok (n := n) (L := L) (R := (R : Int)) ⟨by omega, by omega⟩ hk hok)
    clear hrk hO KD hok
    go_wp2_with fail
    refine KA.out.mono ?_
    rintro e w3 ⟨oa, rfl, hrow, hb3⟩
    have HRO := Lib.hid (hrow HE.out)
    have HB3 := Lib.hid (bthen' HB2.out hb3)
    have HRD3 := Lib.hid (HRD.out.mono hb3)
    rw [HE.out, if_pos rfl]
    rw [show ((R : Int)).toNat = R from Int.toNat_natCast R] at HRO ⊢
    clear hrow hb3 KA HRD
    have I := asg_inv2 (R := R) (n := n) (L := L) hR fun i hi => (HOK.out i hi).2.2.2.2.2.2
    have HAG := Lib.hid fun i hi hg => asg_again (R := R) (n := n) (L := L) (fun i hi => (HOK.out i hi).2.2.2.2.2.2) i hi hg
    have HUS := Lib.hid (asg_useful (R := R) (n := n) (L := L) hR (fun i hi => (HOK.out i hi).1) fun i hi => (HOK.out i hi).2.2.2.2.2.2)
    have HND := Lib.hid fun i hi ha hb => asg_end (R := R) (n := n) (L := L) hR i hi ha hb
    generalize asg R L n = s at *
    have HI := Lib.hid I
    have hcn : cntN (n : Int) = n := by unfold cntN; rw [if_pos ⟨by omega, by omega⟩]; omega
    have KC := Lib.hid (counts13 oa R R s.ow n w3 HRO.out (by omega))
    unfold CntR at KC
    rw [hcn] at KC
    clear I hcn
    go_wp2_with fail
    refine KC.out.mono ?_
    rintro e w4 ⟨ca, rfl, hrow, hb4⟩
    have HRC := Lib.hid (show Row w4 ca n s.hs from by
      obtain ⟨b', m', g1, g2⟩ := hrow
      exact ⟨b', m', g1, fun k hk => by rw [← HI.out.cn k hk]; exact g2 k hk⟩)
    have HRO4 := Lib.hid (HRO.out.mono hb4)
    have HRD4 := Lib.hid (HRD3.out.mono hb4)
    have HB4 := Lib.hid (bthen' HB3.out hb4)
    have hnn := fun j (hj : j < n) => (HI.out.i.h j hj).1
    have HNN := Lib.hid hnn
    have hsum := HI.out.sum
    have HSUM := Lib.hid hsum
    have hle := HI.out.i.le
    clear hrow hb4 KC HRO HRD3 hnn hsum
    go_wp2_with fail
    go_loopw [10, 11] (fun s10 s11 wr => ∃ i : Nat, s11 = .int .i64 i ∧ i ≤ n ∧ s10 = .int .i64 ((R : Int) - sumI s.hs i) ∧ wr = w4) (fun _ s11 _ => n - (intOf s11).toNat)
    case atStart => exact ⟨0, rfl, Nat.zero_le _, by show Value.int .i64 (R : Int) = .int .i64 ((R : Int) - 0); rw [Int.sub_zero], rfl⟩
    case round =>
      obtain ⟨i, rfl, hin, rfl, rfl⟩ := hrel
      by_cases hi : i < n
      · have hi' : (i : Int) < (n : Int) := by omega
        have i0 : (0 : Int) ≤ (i : Int) := by omega
        obtain ⟨b', m', g1, g2⟩ := HRC.out
        obtain rfl := g1 (by omega)
        have c := g2 i hi
        have p1 := sumI_part HNN.out i (by omega)
        have p2 := sumI_part HNN.out (i + 1) (by omega)
        have HS := Lib.hid (show sumI s.hs (i + 1) = sumI s.hs i + s.hs i from rfl)
        have hS := HS.out
        have hM := HSUM.out
        rw [hS] at p2
        clear g1 g2 hS
        generalize sumI s.hs i = z at *
        generalize sumI s.hs n = zn at *
        go_wp2
        go_roundw
        case rel => exact ⟨i + 1, by go_num, by omega, by rw [HS.out]; congr 1; omega, trivial⟩
        case measure => simp [intOf]; omega
      · obtain rfl : i = n := by omega
        have hleft : (R : Int) - sumI s.hs i = (s.left : Int) := by have := HSUM.out; omega
        rw [hleft]
        clear hleft
        go_wp2_with fail
        go_loopw [12] (fun s12 wx => ∃ x : Nat, s12 = .int .i64 x ∧ x ≤ R ∧ wx = wr) (fun s12 _ => R - (intOf s12).toNat)
        case atStart => exact ⟨0, rfl, Nat.zero_le _, rfl⟩
        case round =>
          obtain ⟨x, rfl, hxR, rfl⟩ := hrel
          by_cases hx : x < R
          · have hx' : (x : Int) < (R : Int) := by omega
            have x0 : (0 : Int) ≤ (x : Int) := by omega
            obtain ⟨b', m', g1, g2⟩ := HRO4.out
            obtain rfl := g1 (by omega)
            have c := g2 x hx
            clear g1 g2
            by_cases hxl : x < R - s.left
            · have hv := HI.out.pos x hxl
              generalize s.ow x = v at *
              obtain ⟨v0, v1⟩ := hv
              have q1 : decide (v < -1) = false := by simp; omega
              have q2 : decide ((i : Int) ≤ v) = false := by simp; omega
              have q3 : (v == -1) = false := beq_eq_false_iff_ne.2 (by omega)
              have q4 : decide ((R : Int) - (s.left : Int) ≤ (x : Int)) = false := by simp; omega
              go_wp2
              go_roundw
              case rel => exact ⟨x + 1, by go_num, by omega, trivial⟩
              case measure => simp [intOf]; omega
            · have hv := HI.out.neg x (by omega) hx
              rw [hv] at c
              have q4 : decide ((R : Int) - (s.left : Int) ≤ (x : Int)) = true := by simp; omega
              clear hv
              go_wp2
              go_roundw
              case rel => exact ⟨x + 1, by go_num, by omega, trivial⟩
              case measure => simp [intOf]; omega
          · obtain rfl : x = R := by omega
            go_wp2_with fail
            go_loopw [13, 14] (fun s13 s14 wx => ∃ k : Nat, s13 = .int .i64 k ∧ k ≤ i ∧ Below wr.heap.size wr wx) (fun s13 _ _ => i - (intOf s13).toNat)
            case atStart => exact ⟨0, rfl, Nat.zero_le _, Below.refl _ _⟩
            case round =>
              obtain ⟨k, rfl, hk, hB⟩ := hrel
              have HB0z := Lib.hid hB
              by_cases hlt : k < i
              · have hlt' : (k : Int) < (i : Int) := by omega
                have k0 : (0 : Int) ≤ (k : Int) := by omega
                obtain ⟨b1, m1, g1, g2⟩ := HRD4.out.mono hB
                obtain rfl := g1 (by omega)
                obtain ⟨c0, c1, c2, -, -, -, -⟩ := g2 k hlt
                obtain ⟨b2, m2, g3, g4⟩ := HRC.out.mono hB
                obtain rfl := g3 (by omega)
                have d0 := g4 k hlt
                have lb := lt_of_cell c0
                have lh := lt_of_cell d0
                have hag := (HOK.out k hlt).2.1
                have hA := HAG.out k hlt
                have hU := HUS.out k hlt
                have hE := HND.out k hlt
                have hh := HI.out.i.hs12 k hlt
                have hlh := (HI.out.i.h k hlt).2
                have hll := HI.out.i.le
                clear g1 g2 g3 g4 hB
                generalize (L k).q = q at *
                generalize (L k).ag = ag at *
                generalize (L k).by' = y at *
                generalize s.hs k = h at *
                have bb := bytes_bd q h
                generalize hBq : bytes q h = B at *
                have HBQ := Lib.hid hBq
                have KB := Lib.hid fun W => bytes19 q h W
                rw [hBq] at KB
                clear hBq
                by_cases hg : 0 < ag
                · have q1 : decide (0 < ag) = true := by simp [hg]
                  have q2 : (ag == 0) = false := beq_eq_false_iff_ne.2 (by omega)
                  rcases hA hg with e | ⟨e, e2⟩
                  · have q3 : (h != ag) = false := by simp [e]
                    have q4 : (h != 0) = true := by simp; omega
                    have q5 : (h == 0) = false := beq_eq_false_iff_ne.2 (by omega)
                    clear hA hU hE e hg hag
                    go_wp2_with fail
                    refine wp_region_quiet_below (by kernel_rfl) (by kernel_rfl) ?_
                    repeat (go_big_quiet_step (first | (go_at_call 19; exact Calls.regrown_of ((KB.out _).mono fun e w' h => ⟨h.1, h.2 ▸ Below.refl _ _⟩))))
                    refine wpQuiet_nil ?_
                    intro z1 hz1
                    have hb1 := below_of_regrown hz1
                    have HB1z := Lib.hid (bthen' HB0z.out hb1)
                    have c0 := up hb1 c0
                    have c1 := up hb1 c1
                    have c2 := up hb1 c2
                    have d0 := up hb1 d0
                    have lb := Nat.lt_of_lt_of_le lb hb1.size
                    have lh := Nat.lt_of_lt_of_le lh hb1.size
                    clear hz1 hb1
                    go_wp2_with fail
                    refine wp_region_quiet_below (by kernel_rfl) (by kernel_rfl) ?_
                    repeat (go_big_quiet_step (first | (go_at_call 19; exact Calls.regrown_of ((bytes19 _ _ _).mono fun e w' h => ⟨h.1, h.2 ▸ Below.refl _ _⟩))))
                    refine wpQuiet_nil ?_
                    intro z2 hz2
                    have hb2 := below_of_regrown hz2
                    have HB2z := Lib.hid (bthen' HB1z.out hb2)
                    have c0 := up hb2 c0
                    have c1 := up hb2 c1
                    have c2 := up hb2 c2
                    have d0 := up hb2 d0
                    have lb := Nat.lt_of_lt_of_le lb hb2.size
                    have lh := Nat.lt_of_lt_of_le lh hb2.size
                    clear hz2 hb2
                    go_wp2_with fail
                    refine wp_region_quiet_below (by kernel_rfl) (by kernel_rfl) ?_
                    repeat (go_big_quiet_step (first | (go_at_call 19; exact Calls.regrown_of ((bytes19 _ _ _).mono fun e w' h => ⟨h.1, h.2 ▸ Below.refl _ _⟩))))
                    refine wpQuiet_nil ?_
                    intro z3 hz3
                    have hb3 := below_of_regrown hz3
                    have HB3z := Lib.hid (bthen' HB2z.out hb3)
                    have c0 := up hb3 c0
                    have c1 := up hb3 c1
                    have c2 := up hb3 c2
                    have d0 := up hb3 d0
                    have lb := Nat.lt_of_lt_of_le lb hb3.size
                    have lh := Nat.lt_of_lt_of_le lh hb3.size
                    clear hz3 hb3
                    go_wp2_with fail
                    refine wp_region_quiet_below (by kernel_rfl) (by kernel_rfl) ?_
                    repeat (go_big_quiet_step (first | (go_at_call 19; exact Calls.regrown_of ((bytes19 _ _ _).mono fun e w' h => ⟨h.1, h.2 ▸ Below.refl _ _⟩))))
                    refine wpQuiet_nil ?_
                    intro z4 hz4
                    have hb4 := below_of_regrown hz4
                    have HB4z := Lib.hid (bthen' HB3z.out hb4)
                    have c0 := up hb4 c0
                    have c1 := up hb4 c1
                    have c2 := up hb4 c2
                    have d0 := up hb4 d0
                    have lb := Nat.lt_of_lt_of_le lb hb4.size
                    have lh := Nat.lt_of_lt_of_le lh hb4.size
                    clear hz4 hb4
                    go_wp2
                    go_roundw
                    case rel => exact ⟨k + 1, by go_num, by omega, HB4z.out⟩
                    case measure => simp [intOf]; omega
                  · have q4 : (h != 0) = false := by simp [e]
                    have q5 : (h == 0) = true := by simp [e]
                    have q6 : decide (ag ≤ (s.left : Int)) = false := by simp; omega
                    clear hA hU hE e e2 hg hag
                    go_wp2_with fail
                    refine wp_region_quiet_below (by kernel_rfl) (by kernel_rfl) ?_
                    repeat (go_big_quiet_step (first | (go_at_call 19; exact Calls.regrown_of ((KB.out _).mono fun e w' h => ⟨h.1, h.2 ▸ Below.refl _ _⟩))))
                    refine wpQuiet_nil ?_
                    intro z1 hz1
                    have hb1 := below_of_regrown hz1
                    have HB1z := Lib.hid (bthen' HB0z.out hb1)
                    have c0 := up hb1 c0
                    have c1 := up hb1 c1
                    have c2 := up hb1 c2
                    have d0 := up hb1 d0
                    have lb := Nat.lt_of_lt_of_le lb hb1.size
                    have lh := Nat.lt_of_lt_of_le lh hb1.size
                    clear hz1 hb1
                    go_wp2_with fail
                    refine wp_region_quiet_below (by kernel_rfl) (by kernel_rfl) ?_
                    repeat (go_big_quiet_step (first | (go_at_call 19; exact Calls.regrown_of ((bytes19 _ _ _).mono fun e w' h => ⟨h.1, h.2 ▸ Below.refl _ _⟩))))
                    refine wpQuiet_nil ?_
                    intro z2 hz2
                    have hb2 := below_of_regrown hz2
                    have HB2z := Lib.hid (bthen' HB1z.out hb2)
                    have c0 := up hb2 c0
                    have c1 := up hb2 c1
                    have c2 := up hb2 c2
                    have d0 := up hb2 d0
                    have lb := Nat.lt_of_lt_of_le lb hb2.size
                    have lh := Nat.lt_of_lt_of_le lh hb2.size
                    clear hz2 hb2
                    go_wp2_with fail
                    refine wp_region_quiet_below (by kernel_rfl) (by kernel_rfl) ?_
                    repeat (go_big_quiet_step (first | (go_at_call 19; exact Calls.regrown_of ((bytes19 _ _ _).mono fun e w' h => ⟨h.1, h.2 ▸ Below.refl _ _⟩))))
                    refine wpQuiet_nil ?_
                    intro z3 hz3
                    have hb3 := below_of_regrown hz3
                    have HB3z := Lib.hid (bthen' HB2z.out hb3)
                    have c0 := up hb3 c0
                    have c1 := up hb3 c1
                    have c2 := up hb3 c2
                    have d0 := up hb3 d0
                    have lb := Nat.lt_of_lt_of_le lb hb3.size
                    have lh := Nat.lt_of_lt_of_le lh hb3.size
                    clear hz3 hb3
                    go_wp2_with fail
                    refine wp_region_quiet_below (by kernel_rfl) (by kernel_rfl) ?_
                    repeat (go_big_quiet_step (first | (go_at_call 19; exact Calls.regrown_of ((bytes19 _ _ _).mono fun e w' h => ⟨h.1, h.2 ▸ Below.refl _ _⟩))))
                    refine wpQuiet_nil ?_
                    intro z4 hz4
                    have hb4 := below_of_regrown hz4
                    have HB4z := Lib.hid (bthen' HB3z.out hb4)
                    have c0 := up hb4 c0
                    have c1 := up hb4 c1
                    have c2 := up hb4 c2
                    have d0 := up hb4 d0
                    have lb := Nat.lt_of_lt_of_le lb hb4.size
                    have lh := Nat.lt_of_lt_of_le lh hb4.size
                    clear hz4 hb4
                    go_wp2
                    go_roundw
                    case rel => exact ⟨k + 1, by go_num, by omega, HB4z.out⟩
                    case measure => simp [intOf]; omega
                · have q1 : decide (0 < ag) = false := by simp; omega
                  have q2 : (ag == 0) = true := beq_iff_eq.2 (by omega)
                  have hu := hU (by omega)
                  have he := hE (by omega)
                  clear hA hU hE hg hag
                  by_cases hp : 0 < h
                  · have q3 : decide (0 < h) = true := by simp [hp]
                    obtain ⟨u1, u2⟩ := hu hp
                    have q4 : (B == 0) = false := beq_eq_false_iff_ne.2 (by omega)
                    have q5 : decide (y ≤ bytes q (h - 1)) = false := by simp; omega
                    by_cases hby : B < y
                    · have q6 : decide (B < y) = true := by simp [hby]
                      have q7 : decide (B < bytes q (h + (s.left : Int))) = false := by have := he hby; simp; omega
                      clear hu he u2
                      go_wp2_with fail
                      refine wp_region_quiet_below (by kernel_rfl) (by kernel_rfl) ?_
                      repeat (go_big_quiet_step (first | (go_at_call 19; exact Calls.regrown_of ((KB.out _).mono fun e w' h => ⟨h.1, h.2 ▸ Below.refl _ _⟩))))
                      refine wpQuiet_nil ?_
                      intro z1 hz1
                      have hb1 := below_of_regrown hz1
                      have HB1z := Lib.hid (bthen' HB0z.out hb1)
                      have c0 := up hb1 c0
                      have c1 := up hb1 c1
                      have c2 := up hb1 c2
                      have d0 := up hb1 d0
                      have lb := Nat.lt_of_lt_of_le lb hb1.size
                      have lh := Nat.lt_of_lt_of_le lh hb1.size
                      clear hz1 hb1
                      go_wp2_with fail
                      refine wp_region_quiet_below (by kernel_rfl) (by kernel_rfl) ?_
                      repeat (go_big_quiet_step (first | (go_at_call 19; exact Calls.regrown_of ((bytes19 _ _ _).mono fun e w' h => ⟨h.1, h.2 ▸ Below.refl _ _⟩))))
                      refine wpQuiet_nil ?_
                      intro z2 hz2
                      have hb2 := below_of_regrown hz2
                      have HB2z := Lib.hid (bthen' HB1z.out hb2)
                      have c0 := up hb2 c0
                      have c1 := up hb2 c1
                      have c2 := up hb2 c2
                      have d0 := up hb2 d0
                      have lb := Nat.lt_of_lt_of_le lb hb2.size
                      have lh := Nat.lt_of_lt_of_le lh hb2.size
                      clear hz2 hb2
                      go_wp2_with fail
                      refine wp_region_quiet_below (by kernel_rfl) (by kernel_rfl) ?_
                      repeat (go_big_quiet_step (first | (go_at_call 19; exact Calls.regrown_of ((bytes19 _ _ _).mono fun e w' h => ⟨h.1, h.2 ▸ Below.refl _ _⟩))))
                      refine wpQuiet_nil ?_
                      intro z3 hz3
                      have hb3 := below_of_regrown hz3
                      have HB3z := Lib.hid (bthen' HB2z.out hb3)
                      have c0 := up hb3 c0
                      have c1 := up hb3 c1
                      have c2 := up hb3 c2
                      have d0 := up hb3 d0
                      have lb := Nat.lt_of_lt_of_le lb hb3.size
                      have lh := Nat.lt_of_lt_of_le lh hb3.size
                      clear hz3 hb3
                      go_wp2_with fail
                      refine wp_region_quiet_below (by kernel_rfl) (by kernel_rfl) ?_
                      repeat (go_big_quiet_step (first | (go_at_call 19; exact Calls.regrown_of ((bytes19 _ _ _).mono fun e w' h => ⟨h.1, h.2 ▸ Below.refl _ _⟩))))
                      refine wpQuiet_nil ?_
                      intro z4 hz4
                      have hb4 := below_of_regrown hz4
                      have HB4z := Lib.hid (bthen' HB3z.out hb4)
                      have c0 := up hb4 c0
                      have c1 := up hb4 c1
                      have c2 := up hb4 c2
                      have d0 := up hb4 d0
                      have lb := Nat.lt_of_lt_of_le lb hb4.size
                      have lh := Nat.lt_of_lt_of_le lh hb4.size
                      clear hz4 hb4
                      go_wp2
                      go_roundw
                      case rel => exact ⟨k + 1, by go_num, by omega, HB4z.out⟩
                      case measure => simp [intOf]; omega
                    · have q6 : decide (B < y) = false := by simp; omega
                      clear hu he u2
                      go_wp2_with fail
                      refine wp_region_quiet_below (by kernel_rfl) (by kernel_rfl) ?_
                      repeat (go_big_quiet_step (first | (go_at_call 19; exact Calls.regrown_of ((KB.out _).mono fun e w' h => ⟨h.1, h.2 ▸ Below.refl _ _⟩))))
                      refine wpQuiet_nil ?_
                      intro z1 hz1
                      have hb1 := below_of_regrown hz1
                      have HB1z := Lib.hid (bthen' HB0z.out hb1)
                      have c0 := up hb1 c0
                      have c1 := up hb1 c1
                      have c2 := up hb1 c2
                      have d0 := up hb1 d0
                      have lb := Nat.lt_of_lt_of_le lb hb1.size
                      have lh := Nat.lt_of_lt_of_le lh hb1.size
                      clear hz1 hb1
                      go_wp2_with fail
                      refine wp_region_quiet_below (by kernel_rfl) (by kernel_rfl) ?_
                      repeat (go_big_quiet_step (first | (go_at_call 19; exact Calls.regrown_of ((bytes19 _ _ _).mono fun e w' h => ⟨h.1, h.2 ▸ Below.refl _ _⟩))))
                      refine wpQuiet_nil ?_
                      intro z2 hz2
                      have hb2 := below_of_regrown hz2
                      have HB2z := Lib.hid (bthen' HB1z.out hb2)
                      have c0 := up hb2 c0
                      have c1 := up hb2 c1
                      have c2 := up hb2 c2
                      have d0 := up hb2 d0
                      have lb := Nat.lt_of_lt_of_le lb hb2.size
                      have lh := Nat.lt_of_lt_of_le lh hb2.size
                      clear hz2 hb2
                      go_wp2_with fail
                      refine wp_region_quiet_below (by kernel_rfl) (by kernel_rfl) ?_
                      repeat (go_big_quiet_step (first | (go_at_call 19; exact Calls.regrown_of ((bytes19 _ _ _).mono fun e w' h => ⟨h.1, h.2 ▸ Below.refl _ _⟩))))
                      refine wpQuiet_nil ?_
                      intro z3 hz3
                      have hb3 := below_of_regrown hz3
                      have HB3z := Lib.hid (bthen' HB2z.out hb3)
                      have c0 := up hb3 c0
                      have c1 := up hb3 c1
                      have c2 := up hb3 c2
                      have d0 := up hb3 d0
                      have lb := Nat.lt_of_lt_of_le lb hb3.size
                      have lh := Nat.lt_of_lt_of_le lh hb3.size
                      clear hz3 hb3
                      go_wp2_with fail
                      refine wp_region_quiet_below (by kernel_rfl) (by kernel_rfl) ?_
                      repeat (go_big_quiet_step (first | (go_at_call 19; exact Calls.regrown_of ((bytes19 _ _ _).mono fun e w' h => ⟨h.1, h.2 ▸ Below.refl _ _⟩))))
                      refine wpQuiet_nil ?_
                      intro z4 hz4
                      have hb4 := below_of_regrown hz4
                      have HB4z := Lib.hid (bthen' HB3z.out hb4)
                      have c0 := up hb4 c0
                      have c1 := up hb4 c1
                      have c2 := up hb4 c2
                      have d0 := up hb4 d0
                      have lb := Nat.lt_of_lt_of_le lb hb4.size
                      have lh := Nat.lt_of_lt_of_le lh hb4.size
                      clear hz4 hb4
                      go_wp2
                      go_roundw
                      case rel => exact ⟨k + 1, by go_num, by omega, HB4z.out⟩
                      case measure => simp [intOf]; omega
                  · have q3 : decide (0 < h) = false := by simp; omega
                    by_cases hby : B < y
                    · have q6 : decide (B < y) = true := by simp [hby]
                      have q7 : decide (B < bytes q (h + (s.left : Int))) = false := by have := he hby; simp; omega
                      clear hu he
                      go_wp2_with fail
                      refine wp_region_quiet_below (by kernel_rfl) (by kernel_rfl) ?_
                      repeat (go_big_quiet_step (first | (go_at_call 19; exact Calls.regrown_of ((KB.out _).mono fun e w' h => ⟨h.1, h.2 ▸ Below.refl _ _⟩))))
                      refine wpQuiet_nil ?_
                      intro z1 hz1
                      have hb1 := below_of_regrown hz1
                      have HB1z := Lib.hid (bthen' HB0z.out hb1)
                      have c0 := up hb1 c0
                      have c1 := up hb1 c1
                      have c2 := up hb1 c2
                      have d0 := up hb1 d0
                      have lb := Nat.lt_of_lt_of_le lb hb1.size
                      have lh := Nat.lt_of_lt_of_le lh hb1.size
                      clear hz1 hb1
                      go_wp2_with fail
                      refine wp_region_quiet_below (by kernel_rfl) (by kernel_rfl) ?_
                      repeat (go_big_quiet_step (first | (go_at_call 19; exact Calls.regrown_of ((bytes19 _ _ _).mono fun e w' h => ⟨h.1, h.2 ▸ Below.refl _ _⟩))))
                      refine wpQuiet_nil ?_
                      intro z2 hz2
                      have hb2 := below_of_regrown hz2
                      have HB2z := Lib.hid (bthen' HB1z.out hb2)
                      have c0 := up hb2 c0
                      have c1 := up hb2 c1
                      have c2 := up hb2 c2
                      have d0 := up hb2 d0
                      have lb := Nat.lt_of_lt_of_le lb hb2.size
                      have lh := Nat.lt_of_lt_of_le lh hb2.size
                      clear hz2 hb2
                      go_wp2_with fail
                      refine wp_region_quiet_below (by kernel_rfl) (by kernel_rfl) ?_
                      repeat (go_big_quiet_step (first | (go_at_call 19; exact Calls.regrown_of ((bytes19 _ _ _).mono fun e w' h => ⟨h.1, h.2 ▸ Below.refl _ _⟩))))
                      refine wpQuiet_nil ?_
                      intro z3 hz3
                      have hb3 := below_of_regrown hz3
                      have HB3z := Lib.hid (bthen' HB2z.out hb3)
                      have c0 := up hb3 c0
                      have c1 := up hb3 c1
                      have c2 := up hb3 c2
                      have d0 := up hb3 d0
                      have lb := Nat.lt_of_lt_of_le lb hb3.size
                      have lh := Nat.lt_of_lt_of_le lh hb3.size
                      clear hz3 hb3
                      go_wp2_with fail
                      refine wp_region_quiet_below (by kernel_rfl) (by kernel_rfl) ?_
                      repeat (go_big_quiet_step (first | (go_at_call 19; exact Calls.regrown_of ((bytes19 _ _ _).mono fun e w' h => ⟨h.1, h.2 ▸ Below.refl _ _⟩))))
                      refine wpQuiet_nil ?_
                      intro z4 hz4
                      have hb4 := below_of_regrown hz4
                      have HB4z := Lib.hid (bthen' HB3z.out hb4)
                      have c0 := up hb4 c0
                      have c1 := up hb4 c1
                      have c2 := up hb4 c2
                      have d0 := up hb4 d0
                      have lb := Nat.lt_of_lt_of_le lb hb4.size
                      have lh := Nat.lt_of_lt_of_le lh hb4.size
                      clear hz4 hb4
                      go_wp2
                      go_roundw
                      case rel => exact ⟨k + 1, by go_num, by omega, HB4z.out⟩
                      case measure => simp [intOf]; omega
                    · have q6 : decide (B < y) = false := by simp; omega
                      clear hu he
                      go_wp2_with fail
                      refine wp_region_quiet_below (by kernel_rfl) (by kernel_rfl) ?_
                      repeat (go_big_quiet_step (first | (go_at_call 19; exact Calls.regrown_of ((KB.out _).mono fun e w' h => ⟨h.1, h.2 ▸ Below.refl _ _⟩))))
                      refine wpQuiet_nil ?_
                      intro z1 hz1
                      have hb1 := below_of_regrown hz1
                      have HB1z := Lib.hid (bthen' HB0z.out hb1)
                      have c0 := up hb1 c0
                      have c1 := up hb1 c1
                      have c2 := up hb1 c2
                      have d0 := up hb1 d0
                      have lb := Nat.lt_of_lt_of_le lb hb1.size
                      have lh := Nat.lt_of_lt_of_le lh hb1.size
                      clear hz1 hb1
                      go_wp2_with fail
                      refine wp_region_quiet_below (by kernel_rfl) (by kernel_rfl) ?_
                      repeat (go_big_quiet_step (first | (go_at_call 19; exact Calls.regrown_of ((bytes19 _ _ _).mono fun e w' h => ⟨h.1, h.2 ▸ Below.refl _ _⟩))))
                      refine wpQuiet_nil ?_
                      intro z2 hz2
                      have hb2 := below_of_regrown hz2
                      have HB2z := Lib.hid (bthen' HB1z.out hb2)
                      have c0 := up hb2 c0
                      have c1 := up hb2 c1
                      have c2 := up hb2 c2
                      have d0 := up hb2 d0
                      have lb := Nat.lt_of_lt_of_le lb hb2.size
                      have lh := Nat.lt_of_lt_of_le lh hb2.size
                      clear hz2 hb2
                      go_wp2_with fail
                      refine wp_region_quiet_below (by kernel_rfl) (by kernel_rfl) ?_
                      repeat (go_big_quiet_step (first | (go_at_call 19; exact Calls.regrown_of ((bytes19 _ _ _).mono fun e w' h => ⟨h.1, h.2 ▸ Below.refl _ _⟩))))
                      refine wpQuiet_nil ?_
                      intro z3 hz3
                      have hb3 := below_of_regrown hz3
                      have HB3z := Lib.hid (bthen' HB2z.out hb3)
                      have c0 := up hb3 c0
                      have c1 := up hb3 c1
                      have c2 := up hb3 c2
                      have d0 := up hb3 d0
                      have lb := Nat.lt_of_lt_of_le lb hb3.size
                      have lh := Nat.lt_of_lt_of_le lh hb3.size
                      clear hz3 hb3
                      go_wp2_with fail
                      refine wp_region_quiet_below (by kernel_rfl) (by kernel_rfl) ?_
                      repeat (go_big_quiet_step (first | (go_at_call 19; exact Calls.regrown_of ((bytes19 _ _ _).mono fun e w' h => ⟨h.1, h.2 ▸ Below.refl _ _⟩))))
                      refine wpQuiet_nil ?_
                      intro z4 hz4
                      have hb4 := below_of_regrown hz4
                      have HB4z := Lib.hid (bthen' HB3z.out hb4)
                      have c0 := up hb4 c0
                      have c1 := up hb4 c1
                      have c2 := up hb4 c2
                      have d0 := up hb4 d0
                      have lb := Nat.lt_of_lt_of_le lb hb4.size
                      have lh := Nat.lt_of_lt_of_le lh hb4.size
                      clear hz4 hb4
                      go_wp2
                      go_roundw
                      case rel => exact ⟨k + 1, by go_num, by omega, HB4z.out⟩
                      case measure => simp [intOf]; omega
              · obtain rfl : k = i := by omega
                go_wp2_with fail
                refine (awake10 _).mono ?_
                rintro e w9 ⟨rfl, hb⟩
                have HBA := Lib.hid (bthen' (bthen' HB4.out HB0z.out) hb)
                clear hb
                go_wp2
                go_ret
                exact ⟨rfl, HBA.out⟩
  · have q1 : decide (n0 ≤ 300) = false := by simp; omega
    rw [q1] at KL
    clear ha hx q1
    go_enter Try.func5, Try.ntmps5
    go_wp2_with fail
    refine KL.out.mono ?_
    rintro e w1 ⟨rfl, hw1⟩; obtain rfl := hw1.symm
    go_wp2_with fail
    refine (awake10 _).mono ?_
    rintro e w2 ⟨rfl, hb⟩
    have HB := Lib.hid hb
    clear hb
    go_wp2
    go_ret
    exact ⟨rfl, HB.out⟩
end Go.Proofs.Ytdcogbokcbpnnaa
