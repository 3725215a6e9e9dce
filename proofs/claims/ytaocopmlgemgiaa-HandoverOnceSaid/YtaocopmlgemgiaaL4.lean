/- Layer 42: the walk of HandoverOnce. -/
import Derived.Test.YtaocopmlgemgiaaL3
namespace Go.Proofs.Ytaocopmlgemgiaa
set_option linter.unusedVariables false
set_option linter.unusedSimpArgs false
open Go.RowKit Go.Sort
attribute [local go_sem] gcell

/-- Dice, a patience, a move. -/
structure RO (w wr : World) (p g : Nat) (a : Option Addr) (cap n : Nat) (xs : Nat → Int) (k zP zM : Nat) (pa po pr ph ot si : Int) : Prop where
  d : DiceAt wr p g a cap n xs k
  P : Box3 wr zP pa po pr
  M : Box3 wr zM ph ot si
  bel : Below w.heap.size w wr
  lo : w.heap.size ≤ p ∧ w.heap.size ≤ zM
  ne : zP ≠ p ∧ zM ≠ p ∧ zM ≠ g ∧ zM ≠ zP
section
variable {w wr w' : World} {p g : Nat} {a : Option Addr} {cap n : Nat} {xs : Nat → Int} {k zP zM : Nat} {pa po pr ph ot si : Int}
theorem RO.mono (S : RO w wr p g a cap n xs k zP zM pa po pr ph ot si) (hb : Below wr.heap.size wr w') : RO w w' p g a cap n xs k zP zM pa po pr ph ot si :=
  ⟨S.d.mono hb, S.P.mono hb, S.M.mono hb, bthen S.bel hb S.bel.size, S.lo, S.ne⟩
theorem RO.only (S : RO w wr p g a cap n xs k zP zM pa po pr ph ot si) {k' : Nat} (hd : DiceAt w' p g a cap n xs k') (h : OnlyP wr w' p) : RO w w' p g a cap n xs k' zP zM pa po pr ph ot si :=
  ⟨hd, S.P.only h S.ne.1, S.M.only h S.ne.2.1, S.bel.trans (only_below h S.lo.1 S.bel.size), S.lo, S.ne⟩
theorem RO.setM (S : RO w wr p g a cap n xs k zP zM pa po pr ph ot si) (x y z : Int) : RO w (set3 wr zM x y z) p g a cap n xs k zP zM pa po pr x y z :=
  ⟨S.d.set3 S.ne.2.1 S.ne.2.2.1 x y z, S.P.far S.ne.2.2.2 x y z, S.M.set x y z, below_set3 S.bel S.lo.2 x y z, S.lo, S.ne⟩
end
/-- What was asked, ordered, done, by the phase of a station. -/
def Inv (ph si sk : Int) (od gn : Bool) : Prop :=
  (ph = 0 ∧ sk = -1 ∧ od = false ∧ gn = false) ∨ (ph = 1 ∧ sk = si ∧ od = false ∧ gn = false) ∨ (ph = 2 ∧ 0 ≤ sk ∧ od = true ∧ gn = false) ∨ (ph = 3 ∧ 0 ≤ sk ∧ od = true ∧ gn = true)
/-- What may follow from an event. -/
theorem inv_step {a o r ph ot si ev ar ti sk x1 x2 x3 x4 : Int} {od gn : Bool} (h : stS a o r ph ot si ev ar ti = (x1, x2, x3, x4)) (I : Inv ph si sk od gn) :
    (ph = 0 ∧ sk = -1 ∧ od = false ∧ gn = false ∧ ((x1 = 0 ∧ x2 = ot ∧ x3 = si ∧ x4 = 0) ∨ (x1 = 1 ∧ x3 = ti ∧ x4 = 1))) ∨
    (ph = 1 ∧ sk = si ∧ od = false ∧ gn = false ∧ ((x1 = 1 ∧ x2 = ot ∧ x3 = si ∧ x4 = 0) ∨ (ev = 2 ∧ ar = si ∧ x1 = 2 ∧ x2 = ot ∧ x3 = ti ∧ x4 = 2) ∨ (ev = 3 ∧ x1 = 0 ∧ x2 = ot ∧ x3 = si ∧ x4 = 0) ∨ (ev = 7 ∧ x1 = 0 ∧ x2 = ot ∧ x3 = si ∧ x4 = 4))) ∨
    (ph = 2 ∧ 0 ≤ sk ∧ od = true ∧ gn = false ∧ ((x1 = 2 ∧ x2 = ot ∧ x3 = si ∧ x4 = 0) ∨ (x1 = 3 ∧ x2 = ot ∧ x3 = ti ∧ x4 = 3) ∨ (ev = 7 ∧ x1 = 0 ∧ x2 = ot ∧ x3 = si ∧ x4 = 4))) ∨
    (ph = 3 ∧ 0 ≤ sk ∧ od = true ∧ gn = true ∧ ((x1 = 3 ∧ x2 = ot ∧ x3 = si ∧ x4 = 0) ∨ (x1 = 3 ∧ x2 = ot ∧ x3 = si ∧ x4 = 6) ∨ (ev = 6 ∧ x1 = 0 ∧ x2 = ot ∧ x3 = si ∧ x4 = 5))) := by
  unfold stS at h
  rcases I with ⟨rfl, rfl, rfl, rfl⟩ | ⟨rfl, rfl, rfl, rfl⟩ | ⟨rfl, h1, rfl, rfl⟩ | ⟨rfl, h1, rfl, rfl⟩
  all_goals
    repeat' split at h
    all_goals
      simp only [Prod.mk.injEq] at h
      obtain ⟨e1, e2, e3, e4⟩ := h
      first
        | (exfalso; omega)
        | simp
      try omega

set_option maxRecDepth 100000 in
set_option maxHeartbeats 1600000 in
theorem once5 (a : Option Addr) (b m n c : Nat) (xs : Nat → Int) (w : World) (L : ListIn w a b m n c xs) (hn : n ≤ 140737488351232) :
    Calls Try.prog 5 #[.slice a n c] w fun e w' => e = .returned (.bool true) ∧ Below w.heap.size w w' := by
  have HL := Lib.hid L
  clear L
  by_cases h300 : n ≤ 300
  · have hd : decide (n ≤ 300) = true := by simpa using h300
    go_enter Try.func5, Try.ntmps5
    go_wp2_with fail
    refine (light_any a n c _).mono ?_
    rw [hd]
    rintro e w' ⟨rfl, rfl⟩
    go_wp2_with fail
    refine (roll_any _ a b m n c xs h300 HL.out.hc HL.out.h0 HL.out.ha HL.out.hx).mono ?_
    rintro e w1 ⟨p, g, aa, cap, rfl, hD, hp, hB⟩
    have HB := Lib.hid hB
    have HD := Lib.hid hD
    clear hB hD
    go_wp2_with fail
    refine (dice_next p g aa cap n xs 0 9 _ (by omega) h300 HD.out).mono ?_
    have bv1 := dval_bd xs n 0 9 (by omega)
    generalize dval xs n 0 9 = v1 at *
    obtain ⟨k1, hk1⟩ : ∃ k1, dnext n 0 = k1 := ⟨_, rfl⟩
    have lk1 : k1 ≤ n := hk1 ▸ dnext_le (Nat.zero_le n)
    rw [hk1]
    clear hk1
    rintro e w2 ⟨rfl, hD, hO⟩
    have HB2 := Lib.hid (HB.out.trans (only_below hO hp HB.out.size))
    have HD2 := Lib.hid hD
    clear hD hO HB HD
    go_wp2_with fail
    refine (dice_next p g aa cap n xs k1 9 _ (by omega) h300 HD2.out).mono ?_
    have bv2 := dval_bd xs n k1 9 (by omega)
    generalize dval xs n k1 9 = v2 at *
    obtain ⟨k2, hk2⟩ : ∃ k2, dnext n k1 = k2 := ⟨_, rfl⟩
    have lk2 : k2 ≤ n := hk2 ▸ dnext_le lk1
    rw [hk2]
    clear hk2
    rintro e w3 ⟨rfl, hD, hO⟩
    have hB3 := HB2.out.trans (only_below hO hp HB2.out.size)
    have z5 := hB3.size
    have hA := below_alloc w3 (.cells #[.int .i64 (1 + v1), .int .i64 (1 + v2), .int .i64 1] 23)
    have hA2 := below_alloc (w3.alloc (.cells #[.int .i64 (1 + v1), .int .i64 (1 + v2), .int .i64 1] 23)) (.cells #[.int .i64 0, .int .i64 0, .int .i64 0] 25)
    have hRO : RO w' ((w3.alloc (.cells #[.int .i64 (1 + v1), .int .i64 (1 + v2), .int .i64 1] 23)).alloc (.cells #[.int .i64 0, .int .i64 0, .int .i64 0] 25)) p g aa cap n xs k2 w3.heap.size (w3.heap.size + 1) (1 + v1) (1 + v2) 1 0 0 0 :=
      ⟨(hD.alloc _).alloc _, (Box3.new w3 (1 + v1) (1 + v2) 1 23 w3.heap.size rfl).mono hA2, Box3.new _ 0 0 0 25 (w3.heap.size + 1) (by simp), (hB3.alloc z5 _).alloc (by simp; omega) _, ⟨hp, by omega⟩, by have := lt_of_cell hD.c0; have := hD.gl; omega⟩
    have HRO := Lib.hid hRO
    clear hD hO hB3 hA hA2 hRO HB2 HD2
    go_wp2_with fail
    go_loopw [6, 7, 8, 9] (fun s6 s7 s8 s9 wr => ∃ (k : Nat) (tk ph ot si sk : Int) (od gn : Bool), s6 = .int .i64 sk ∧ s7 = .bool od ∧ s8 = .bool gn ∧ s9 = .int .i64 tk ∧ k ≤ n ∧ 0 ≤ tk ∧ tk ≤ 3 * k ∧ RO w' wr p g aa cap n xs k w3.heap.size (w3.heap.size + 1) (1 + v1) (1 + v2) 1 ph ot si ∧ Inv ph si sk od gn ∧ 0 ≤ si) (fun _ _ _ _ wr => n - (intOf ((wr.cell? ⟨p, 1, none⟩).getD .nilIface)).toNat)
    case atStart => exact ⟨k2, 0, 0, 0, 0, -1, false, false, rfl, rfl, rfl, rfl, lk2, by omega, by omega, HRO.out, .inl ⟨rfl, rfl, rfl, rfl⟩, by omega⟩
    case round =>
      clear HRO
      obtain ⟨k, tk, ph, ot, si, sk, od, gn, rfl, rfl, rfl, rfl, hk, ht0, ht1, hS, hI, hsi⟩ := hrel
      have HS := Lib.hid hS
      have HI := Lib.hid hI
      have HM := Lib.hid (show (intOf ((wr.cell? ⟨p, 1, none⟩).getD .nilIface)).toNat = k by rw [hS.d.c1]; simp [intOf])
      have bsk : -1 ≤ sk := by unfold Inv at hI; omega
      clear hS hI
      by_cases hlt : k < n
      · have hgt : (0 : Int) < (n : Int) - k := by omega
        go_wp2_with fail
        refine (dice_rest p g aa cap n xs k _ hk h300 HS.out.d).mono ?_
        rintro e w6 ⟨rfl, q, rfl⟩
        have HS1 := Lib.hid (HS.out.mono (below_drewN (Below.refl _ _) q))
        go_wp2_with fail
        refine (dice_next p g aa cap n xs k 3 _ (by omega) h300 HS1.out.d).mono ?_
        have bc1 := dval_bd xs n k 3 (by omega)
        generalize dval xs n k 3 = c1 at *
        obtain ⟨j1, hj1⟩ : ∃ j, dnext n k = j := ⟨_, rfl⟩
        have lj1 : k ≤ j1 ∧ j1 ≤ n := by rw [← hj1]; unfold dnext; split <;> omega
        have lj0 : j1 = k + 1 := by rw [← hj1]; unfold dnext; rw [if_pos hlt]
        rw [hj1]
        clear hj1
        rintro e w7 ⟨rfl, hD, hO⟩
        have HS2 := Lib.hid (HS1.out.only hD hO)
        clear hD hO HS1
        go_wp2_with fail
        refine (dice_next p g aa cap n xs j1 7 _ (by omega) h300 HS2.out.d).mono ?_
        have bc2 := dval_bd xs n j1 7 (by omega)
        generalize dval xs n j1 7 = c2 at *
        obtain ⟨j2, hj2⟩ : ∃ j, dnext n j1 = j := ⟨_, rfl⟩
        have lj2 : j1 ≤ j2 ∧ j2 ≤ n := by rw [← hj2]; unfold dnext; split <;> omega
        rw [hj2]
        clear hj2
        rintro e w8 ⟨rfl, hD, hO⟩
        have HS3 := Lib.hid (HS2.out.only hD hO)
        clear hD hO HS2
        go_wp2_with fail
        refine (dice_next p g aa cap n xs j2 3 _ (by omega) h300 HS3.out.d).mono ?_
        have bc3 := dval_bd xs n j2 3 (by omega)
        generalize dval xs n j2 3 = c3 at *
        obtain ⟨j3, hj3⟩ : ∃ j, dnext n j2 = j := ⟨_, rfl⟩
        have lj3 : j2 ≤ j3 ∧ j3 ≤ n := by rw [← hj3]; unfold dnext; split <;> omega
        rw [hj3]
        clear hj3
        rintro e w9 ⟨rfl, hD, hO⟩
        have HS4 := Lib.hid (HS3.out.only hD hO)
        clear hD hO HS3
        go_upto_region 11 with fail
        go_cut [46] (fun s46 wx => ∃ (B : Bool) (j4 : Nat), s46 = .bool B ∧ j3 ≤ j4 ∧ j4 ≤ n ∧ RO w' wx p g aa cap n xs j4 w3.heap.size (w3.heap.size + 1) (1 + v1) (1 + v2) 1 ph ot si)
        case first =>
          go_wp2_with fail
          refine (dice_next p g aa cap n xs j3 2 _ (by omega) h300 HS4.out.d).mono ?_
          have bc4 := dval_bd xs n j3 2 (by omega)
          generalize dval xs n j3 2 = c4 at *
          obtain ⟨j4, hj4⟩ : ∃ j, dnext n j3 = j := ⟨_, rfl⟩
          have lj4 : j3 ≤ j4 ∧ j4 ≤ n := by rw [← hj4]; unfold dnext; split <;> omega
          rw [hj4]
          clear hj4
          rintro e w10 ⟨rfl, hD, hO⟩
          have HS5 := Lib.hid (HS4.out.only hD hO)
          clear hD hO HS4
          by_cases hz : c4 = 0
          · subst hz
            go_wp2_with fail
            go_meet
            exact ⟨_, j4, rfl, lj4.1, lj4.2, HS5.out⟩
          · have hz' : (c4 == 0) = false := by simpa using hz
            go_wp2_with fail
            go_meet
            exact ⟨_, j4, rfl, lj4.1, lj4.2, HS5.out⟩
        case rest =>
          obtain ⟨B, j4, rfl, lj4, lj4', hS5⟩ := hcut
          have HS5 := Lib.hid hS5
          clear hS5 HS4
          go_upto_if 46 with fail
          go_cut [11] (fun s11 wx => ∃ ar : Int, s11 = .int .i64 ar ∧ wx = wc)
          case first =>
            cases B
            · go_wp2_with fail
              go_meet
              exact ⟨_, rfl, rfl⟩
            · go_wp2_with fail
              go_meet
              exact ⟨_, rfl, rfl⟩
          case rest =>
            obtain ⟨ar, rfl, hw⟩ := hcut
            subst hw
            have hS := HS5.out
            obtain ⟨⟨x1, x2, x3, x4⟩, hX⟩ : ∃ X, stS (1 + v1) (1 + v2) 1 ph ot si (1 + c2) ar (tk + c1) = X := ⟨_, rfl⟩
            have hC := inv_step hX HI.out
            have K1 := Lib.hid fun w => stationQ hX (wf64 (by have := HI.out; unfold Inv at this; omega)) (wf64 (by omega)) w
            clear hX HI
            obtain ⟨p0, p1, p2, _, _, _⟩ := hS.P
            obtain ⟨m0, m1, m2, _, _, _⟩ := hS.M
            have l0 := lt_of_cell p0
            have l1 := lt_of_cell m0
            clear hS
            rcases hC with ⟨rfl, rfl, rfl, rfl, (⟨rfl, rfl, rfl, rfl⟩ | ⟨rfl, rfl, rfl⟩)⟩ | ⟨rfl, rfl, rfl, rfl, (⟨rfl, rfl, rfl, rfl⟩ | ⟨hv, rfl, rfl, rfl, rfl, rfl⟩ | ⟨hv, rfl, rfl, rfl, rfl⟩ | ⟨hv, rfl, rfl, rfl, rfl⟩)⟩ | ⟨rfl, ha, rfl, rfl, (⟨rfl, rfl, rfl, rfl⟩ | ⟨rfl, rfl, rfl, rfl⟩ | ⟨hv, rfl, rfl, rfl, rfl⟩)⟩ | ⟨rfl, ha, rfl, rfl, (⟨rfl, rfl, rfl, rfl⟩ | ⟨rfl, rfl, rfl, rfl⟩ | ⟨hv, rfl, rfl, rfl, rfl⟩)⟩
            · go_wp2_with (go_at_call 8; refine (K1.out _).mono ?_)
              rintro e w12 ⟨rfl, hb⟩
              have hS2 := HS5.out.mono hb
              have HS7 := Lib.hid fun x y z o => (hS2.setM x y z).mono (below_alloc _ o)
              have e1 := fun x y z o => (HS7.out x y z o).d.c1
              unfold set3 at e1
              have E := Lib.hid e1
              clear p0 p1 p2 m0 m1 m2 l0 l1
              obtain ⟨m0, m1, m2, f0, f1, f2⟩ := hS2.M
              have l1 := lt_of_cell m0
              clear hS2 hb HS5 e1
              go_wp2_with fail
              all_goals
                exact ⟨⟨j4, tk + c1, _, _, _, _, _, _, rfl, rfl, rfl, rfl, by omega, by omega, by omega, HS7.out _ _ _ _, by unfold Inv; simp <;> omega, by omega⟩, by rw [E.out, HM.out]; simp [intOf]; omega⟩
            · go_wp2_with (go_at_call 8; refine (K1.out _).mono ?_)
              rintro e w12 ⟨rfl, hb⟩
              have hS2 := HS5.out.mono hb
              have HS7 := Lib.hid fun x y z o => (hS2.setM x y z).mono (below_alloc _ o)
              have e1 := fun x y z o => (HS7.out x y z o).d.c1
              unfold set3 at e1
              have E := Lib.hid e1
              clear p0 p1 p2 m0 m1 m2 l0 l1
              obtain ⟨m0, m1, m2, f0, f1, f2⟩ := hS2.M
              have l1 := lt_of_cell m0
              clear hS2 hb HS5 e1
              go_wp2_with fail
              all_goals
                exact ⟨⟨j4, tk + c1, _, _, _, _, _, _, rfl, rfl, rfl, rfl, by omega, by omega, by omega, HS7.out _ _ _ _, by unfold Inv; simp <;> omega, by omega⟩, by rw [E.out, HM.out]; simp [intOf]; omega⟩
            · go_wp2_with (go_at_call 8; refine (K1.out _).mono ?_)
              rintro e w12 ⟨rfl, hb⟩
              have hS2 := HS5.out.mono hb
              have HS7 := Lib.hid fun x y z o => (hS2.setM x y z).mono (below_alloc _ o)
              have e1 := fun x y z o => (HS7.out x y z o).d.c1
              unfold set3 at e1
              have E := Lib.hid e1
              clear p0 p1 p2 m0 m1 m2 l0 l1
              obtain ⟨m0, m1, m2, f0, f1, f2⟩ := hS2.M
              have l1 := lt_of_cell m0
              clear hS2 hb HS5 e1
              go_wp2_with fail
              all_goals
                exact ⟨⟨j4, tk + c1, _, _, _, _, _, _, rfl, rfl, rfl, rfl, by omega, by omega, by omega, HS7.out _ _ _ _, by unfold Inv; simp <;> omega, by omega⟩, by rw [E.out, HM.out]; simp [intOf]; omega⟩
            · obtain rfl : c2 = 1 := by omega
              clear hv
              go_wp2_with (go_at_call 8; refine (K1.out _).mono ?_)
              rintro e w12 ⟨rfl, hb⟩
              have hS2 := HS5.out.mono hb
              have HS7 := Lib.hid fun x y z o => (hS2.setM x y z).mono (below_alloc _ o)
              have e1 := fun x y z o => (HS7.out x y z o).d.c1
              unfold set3 at e1
              have E := Lib.hid e1
              clear p0 p1 p2 m0 m1 m2 l0 l1
              obtain ⟨m0, m1, m2, f0, f1, f2⟩ := hS2.M
              have l1 := lt_of_cell m0
              clear hS2 hb HS5 e1
              go_wp2_with fail
              all_goals
                exact ⟨⟨j4, tk + c1, _, _, _, _, _, _, rfl, rfl, rfl, rfl, by omega, by omega, by omega, HS7.out _ _ _ _, by unfold Inv; simp <;> omega, by omega⟩, by rw [E.out, HM.out]; simp [intOf]; omega⟩
            · obtain rfl : c2 = 2 := by omega
              clear hv
              go_wp2_with (go_at_call 8; refine (K1.out _).mono ?_)
              rintro e w12 ⟨rfl, hb⟩
              have hS2 := HS5.out.mono hb
              have HS7 := Lib.hid fun x y z o => (hS2.setM x y z).mono (below_alloc _ o)
              have e1 := fun x y z o => (HS7.out x y z o).d.c1
              unfold set3 at e1
              have E := Lib.hid e1
              clear p0 p1 p2 m0 m1 m2 l0 l1
              obtain ⟨m0, m1, m2, f0, f1, f2⟩ := hS2.M
              have l1 := lt_of_cell m0
              clear hS2 hb HS5 e1
              go_wp2_with fail
              all_goals
                exact ⟨⟨j4, tk + c1, _, _, _, _, _, _, rfl, rfl, rfl, rfl, by omega, by omega, by omega, HS7.out _ _ _ _, by unfold Inv; simp <;> omega, by omega⟩, by rw [E.out, HM.out]; simp [intOf]; omega⟩
            · obtain rfl : c2 = 6 := by omega
              clear hv
              go_wp2_with (go_at_call 8; refine (K1.out _).mono ?_)
              rintro e w12 ⟨rfl, hb⟩
              have hS2 := HS5.out.mono hb
              have HS7 := Lib.hid fun x y z o => (hS2.setM x y z).mono (below_alloc _ o)
              have e1 := fun x y z o => (HS7.out x y z o).d.c1
              unfold set3 at e1
              have E := Lib.hid e1
              clear p0 p1 p2 m0 m1 m2 l0 l1
              obtain ⟨m0, m1, m2, f0, f1, f2⟩ := hS2.M
              have l1 := lt_of_cell m0
              clear hS2 hb HS5 e1
              go_wp2_with fail
              all_goals
                exact ⟨⟨j4, tk + c1, _, _, _, _, _, _, rfl, rfl, rfl, rfl, by omega, by omega, by omega, HS7.out _ _ _ _, by unfold Inv; simp <;> omega, by omega⟩, by rw [E.out, HM.out]; simp [intOf]; omega⟩
            · go_wp2_with (go_at_call 8; refine (K1.out _).mono ?_)
              rintro e w12 ⟨rfl, hb⟩
              have hS2 := HS5.out.mono hb
              have HS7 := Lib.hid fun x y z o => (hS2.setM x y z).mono (below_alloc _ o)
              have e1 := fun x y z o => (HS7.out x y z o).d.c1
              unfold set3 at e1
              have E := Lib.hid e1
              clear p0 p1 p2 m0 m1 m2 l0 l1
              obtain ⟨m0, m1, m2, f0, f1, f2⟩ := hS2.M
              have l1 := lt_of_cell m0
              clear hS2 hb HS5 e1
              go_wp2_with fail
              all_goals
                exact ⟨⟨j4, tk + c1, _, _, _, _, _, _, rfl, rfl, rfl, rfl, by omega, by omega, by omega, HS7.out _ _ _ _, by unfold Inv; simp <;> omega, by omega⟩, by rw [E.out, HM.out]; simp [intOf]; omega⟩
            · go_wp2_with (go_at_call 8; refine (K1.out _).mono ?_)
              rintro e w12 ⟨rfl, hb⟩
              have hS2 := HS5.out.mono hb
              have HS7 := Lib.hid fun x y z o => (hS2.setM x y z).mono (below_alloc _ o)
              have e1 := fun x y z o => (HS7.out x y z o).d.c1
              unfold set3 at e1
              have E := Lib.hid e1
              clear p0 p1 p2 m0 m1 m2 l0 l1
              obtain ⟨m0, m1, m2, f0, f1, f2⟩ := hS2.M
              have l1 := lt_of_cell m0
              clear hS2 hb HS5 e1
              go_wp2_with fail
              all_goals
                exact ⟨⟨j4, tk + c1, _, _, _, _, _, _, rfl, rfl, rfl, rfl, by omega, by omega, by omega, HS7.out _ _ _ _, by unfold Inv; simp <;> omega, by omega⟩, by rw [E.out, HM.out]; simp [intOf]; omega⟩
            · obtain rfl : c2 = 6 := by omega
              clear hv
              go_wp2_with (go_at_call 8; refine (K1.out _).mono ?_)
              rintro e w12 ⟨rfl, hb⟩
              have hS2 := HS5.out.mono hb
              have HS7 := Lib.hid fun x y z o => (hS2.setM x y z).mono (below_alloc _ o)
              have e1 := fun x y z o => (HS7.out x y z o).d.c1
              unfold set3 at e1
              have E := Lib.hid e1
              clear p0 p1 p2 m0 m1 m2 l0 l1
              obtain ⟨m0, m1, m2, f0, f1, f2⟩ := hS2.M
              have l1 := lt_of_cell m0
              clear hS2 hb HS5 e1
              go_wp2_with fail
              all_goals
                exact ⟨⟨j4, tk + c1, _, _, _, _, _, _, rfl, rfl, rfl, rfl, by omega, by omega, by omega, HS7.out _ _ _ _, by unfold Inv; simp <;> omega, by omega⟩, by rw [E.out, HM.out]; simp [intOf]; omega⟩
            · go_wp2_with (go_at_call 8; refine (K1.out _).mono ?_)
              rintro e w12 ⟨rfl, hb⟩
              have hS2 := HS5.out.mono hb
              have HS7 := Lib.hid fun x y z o => (hS2.setM x y z).mono (below_alloc _ o)
              have e1 := fun x y z o => (HS7.out x y z o).d.c1
              unfold set3 at e1
              have E := Lib.hid e1
              clear p0 p1 p2 m0 m1 m2 l0 l1
              obtain ⟨m0, m1, m2, f0, f1, f2⟩ := hS2.M
              have l1 := lt_of_cell m0
              clear hS2 hb HS5 e1
              go_wp2_with fail
              all_goals
                exact ⟨⟨j4, tk + c1, _, _, _, _, _, _, rfl, rfl, rfl, rfl, by omega, by omega, by omega, HS7.out _ _ _ _, by unfold Inv; simp <;> omega, by omega⟩, by rw [E.out, HM.out]; simp [intOf]; omega⟩
            · go_wp2_with (go_at_call 8; refine (K1.out _).mono ?_)
              rintro e w12 ⟨rfl, hb⟩
              have hS2 := HS5.out.mono hb
              have HS7 := Lib.hid fun x y z o => (hS2.setM x y z).mono (below_alloc _ o)
              have e1 := fun x y z o => (HS7.out x y z o).d.c1
              unfold set3 at e1
              have E := Lib.hid e1
              clear p0 p1 p2 m0 m1 m2 l0 l1
              obtain ⟨m0, m1, m2, f0, f1, f2⟩ := hS2.M
              have l1 := lt_of_cell m0
              clear hS2 hb HS5 e1
              go_wp2_with fail
              all_goals
                exact ⟨⟨j4, tk + c1, _, _, _, _, _, _, rfl, rfl, rfl, rfl, by omega, by omega, by omega, HS7.out _ _ _ _, by unfold Inv; simp <;> omega, by omega⟩, by rw [E.out, HM.out]; simp [intOf]; omega⟩
            · obtain rfl : c2 = 5 := by omega
              clear hv
              go_wp2_with (go_at_call 8; refine (K1.out _).mono ?_)
              rintro e w12 ⟨rfl, hb⟩
              have hS2 := HS5.out.mono hb
              have HS7 := Lib.hid fun x y z o => (hS2.setM x y z).mono (below_alloc _ o)
              have e1 := fun x y z o => (HS7.out x y z o).d.c1
              unfold set3 at e1
              have E := Lib.hid e1
              clear p0 p1 p2 m0 m1 m2 l0 l1
              obtain ⟨m0, m1, m2, f0, f1, f2⟩ := hS2.M
              have l1 := lt_of_cell m0
              clear hS2 hb HS5 e1
              go_wp2_with fail
              all_goals
                exact ⟨⟨j4, tk + c1, _, _, _, _, _, _, rfl, rfl, rfl, rfl, by omega, by omega, by omega, HS7.out _ _ _ _, by unfold Inv; simp <;> omega, by omega⟩, by rw [E.out, HM.out]; simp [intOf]; omega⟩
      · have hgt : ¬ (0 : Int) < (n : Int) - k := by omega
        go_wp2_with fail
        refine (dice_rest p g aa cap n xs k _ hk h300 HS.out.d).mono ?_
        rintro e w6 ⟨rfl, q, rfl⟩
        have HB := Lib.hid (below_drewN HS.out.bel q)
        go_wp2_with fail
        refine (awake14 _).mono ?_
        rintro e w7 ⟨rfl, hb⟩
        have HB2 := Lib.hid (bthen HB.out hb HB.out.size)
        clear hb
        go_wp2
        go_ret
        exact ⟨rfl, HB2.out⟩
  · have hd : decide (n ≤ 300) = false := by simpa using h300
    go_enter Try.func5, Try.ntmps5
    go_wp2_with (first
      | (go_at_call 15; refine (light_any a n c _).mono ?_; rw [hd]; rintro e w' ⟨rfl, rfl⟩)
      | (go_at_call 14; refine (awake14 _).mono ?_; rintro e w' ⟨rfl, hb⟩))
    go_ret
    exact ⟨rfl, hb⟩
end Go.Proofs.Ytaocopmlgemgiaa
