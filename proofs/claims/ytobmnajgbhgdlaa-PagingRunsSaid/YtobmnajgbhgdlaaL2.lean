/- Layer 36: the walk of PagingRuns. -/
import Derived.Test.YtobmnajgbhgdlaaP15
import Derived.Test.YtobmnajgbhgdlaaRest
namespace Go.Proofs.Ytobmnajgbhgdlaa
set_option linter.unusedVariables false
set_option linter.unusedSimpArgs false
open Go.RowKit Go.Sort
attribute [local go_sem] gcell

structure ListIn (w : World) (a : Option Addr) (b m n c : Nat) (xs : Nat → Int) : Prop where
  hc : n ≤ c
  h0 : a = none → c = 0
  ha : 0 < c → a = some ⟨b, m, none⟩
  hx : ∀ i, i < n → w.cell? ⟨b, m + i, none⟩ = some (.int .i64 (xs i))
theorem clO_le {cy mo tr id t : Int} {n : Nat} {I S C : Nat → Int} (h : n ≤ 16) : (clO cy mo tr id t n I S C).length ≤ 16 := by
  unfold clO
  split
  · rename_i h0
    rw [pl_snoc_len]
    unfold clE at h0
    split at h0
    · exact absurd h0 (by assumption)
    · split at h0
      · cases h0
      · split at h0
        · cases h0
        · split at h0
          · cases h0
          · omega
  · rw [pl_len]; exact h
theorem Bx.only {W W' : World} {B p : Nat} {cy mo tr : Int} {v : Value} (h : Bx W B cy mo tr v) (hO : OnlyP W W' p) (hne : B ≠ p) : Bx W' B cy mo tr v :=
  ⟨only_cell hO hne h.c0, only_cell hO hne h.c1, only_cell hO hne h.c2, only_cell hO hne h.c3, fun o => only_frozen hO hne h.lt (h.f o)⟩
/-- Pages lie apart from dice: a dice block has two cells, of which the first one is no number. -/
theorem R3.dice {w w' : World} {p g : Nat} {aa a : Option Addr} {cap n k m : Nat} {xs I S C : Nat → Int} (D : DiceAt w p g aa cap n xs k) (hF : ∀ x : Addr, x ≠ ⟨p, 1, none⟩ → w'.cell? x = w.cell? x) (R : R3 w a m I S C) : R3 w' a m I S C := by
  obtain ⟨b, o, h1, h2⟩ := R
  refine ⟨b, o, h1, fun j hj => ?_⟩
  obtain ⟨c0, c1, c2⟩ := h2 j hj
  have k0 := D.c0
  have k2 := D.c2
  refine ⟨(hF _ fun e => ?_).trans c0, (hF _ fun e => ?_).trans c1, (hF _ fun e => ?_).trans c2⟩
  · injection e with e1 e2
    rw [show o + j * 3 + 1 = 2 by omega, e1, k2] at c1
    cases c1
  · injection e with e1 e2
    rw [show o + j * 3 = 0 by omega, e1, k0] at c0
    cases c0
  · injection e with e1 e2
    omega
/-- A run between two ticks. -/
structure RunS (w wr : World) (p g : Nat) (aa : Option Addr) (cap n kd B : Nat) (cy mo tr : Int) (xs : Nat → Int) (a : Option Addr) (m c : Nat) (I S C : Nat → Int) : Prop where
  bel : Below w.heap.size w wr
  x : Bx wr B cy mo tr (.slice a m c)
  r : R3 wr a m I S C
  ok : CapOk m c
  a0 : a = none → m = 0
  m16 : m ≤ 16
  d : DiceAt wr p g aa cap n xs kd
  lt : w.heap.size ≤ p ∧ p < B ∧ g < B
section
variable {w wr w' : World} {p g : Nat} {aa : Option Addr} {cap n kd kd' B : Nat} {cy mo tr : Int} {xs : Nat → Int} {a : Option Addr} {m c : Nat} {I S C : Nat → Int}
theorem RunS.mono (R : RunS w wr p g aa cap n kd B cy mo tr xs a m c I S C) (hb : Below wr.heap.size wr w') : RunS w w' p g aa cap n kd B cy mo tr xs a m c I S C :=
  ⟨bthen R.bel hb R.bel.size, R.x.mono hb, R.r.mono hb, R.ok, R.a0, R.m16, R.d.mono hb, R.lt⟩
theorem RunS.dice (R : RunS w wr p g aa cap n kd B cy mo tr xs a m c I S C) (hd : DiceAt w' p g aa cap n xs kd') (hO : OnlyP wr w' p) (hF : ∀ x : Addr, x ≠ ⟨p, 1, none⟩ → w'.cell? x = wr.cell? x) : RunS w w' p g aa cap n kd' B cy mo tr xs a m c I S C :=
  ⟨R.bel.trans (only_below hO R.lt.1 R.bel.size), R.x.only hO (by have := R.lt; omega), R.r.dice R.d hF, R.ok, R.a0, R.m16, hd, R.lt⟩
theorem RunS.step (R : RunS w wr p g aa cap n kd B cy mo tr xs a m c I S C) (hb : Below wr.heap.size wr w') {P : List Pg} {a1 : Option Addr} {c1 : Nat} (h1 : CapOk P.length c1) (h2 : a1 = none → P.length = 0) (h3 : R3 w' a1 P.length (pI P) (pS P) (pC P)) (h4 : P.length ≤ 16) :
    RunS w (rebox w' B cy mo tr (.slice a1 P.length c1)) p g aa cap n kd B cy mo tr xs a1 P.length c1 (pI P) (pS P) (pC P) := by
  have R' := R.mono hb
  have l := R.lt
  have nv : ∀ y, (Value.slice a m c) ≠ .int .i64 y := fun y e => by cases e
  have hp : B ≠ p := by omega
  have hg : B ≠ g := by omega
  exact ⟨below_rebox R'.bel (by omega), R'.x.re _, R'.x.r3 nv _ h3, h1, h2, h4, (((R'.d.setFar hp hg 0 _).setFar hp hg 1 _).setFar hp hg 2 _).setFar hp hg 3 _, l⟩
end
set_option maxRecDepth 100000 in
set_option maxHeartbeats 8000000 in
theorem runs5 (a : Option Addr) (b m n c : Nat) (xs : Nat → Int) (w : World) (L : ListIn w a b m n c xs) (hn : n ≤ 140737488351232) :
    Calls Try.prog 5 #[.slice a n c] w fun e w' => e = .returned (.bool true) ∧ Below w.heap.size w w' := by
  have HL := Lib.hid L
  clear L
  by_cases h300 : n ≤ 300
  · have hd : decide (n ≤ 300) = true := by simpa using h300
    go_enter Try.func5, Try.ntmps5
    go_wp2_with fail
    refine (light_any a n c _).mono ?_
    rw [hd]
    rintro e w' ⟨rfl, rfl⟩
    go_wp2_with fail
    refine (roll_any _ a b m n c xs h300 HL.out.hc HL.out.h0 HL.out.ha HL.out.hx).mono ?_
    rintro e w1 ⟨p, g, aa, cap, rfl, hD, hp, hB⟩
    have HB := Lib.hid hB
    have HD := Lib.hid hD
    clear hB hD hd
    go_wp2_with fail
    refine (dice_next p g aa cap n xs 0 9 _ (by omega) h300 HD.out).mono ?_
    have bv1 := dval_bd xs n 0 9 (by omega)
    have lk1 : dnext n 0 ≤ n := dnext_le (Nat.zero_le n)
    generalize dval xs n 0 9 = v1 at *
    generalize dnext n 0 = k1 at *
    rintro e w2 ⟨rfl, hD, hO, -⟩
    have HB2 := Lib.hid (HB.out.trans (only_below hO hp HB.out.size))
    have HD2 := Lib.hid hD
    clear hD hO HB HD
    go_wp2_with fail
    refine (dice_next p g aa cap n xs k1 3 _ (by omega) h300 HD2.out).mono ?_
    have bv2 := dval_bd xs n k1 3 (by omega)
    have lk2 : dnext n k1 ≤ n := dnext_le lk1
    generalize dval xs n k1 3 = v2 at *
    generalize dnext n k1 = k2 at *
    rintro e w3 ⟨rfl, hD, hO, -⟩
    have HB3 := Lib.hid (HB2.out.trans (only_below hO hp HB2.out.size))
    have HD3 := Lib.hid hD
    clear hD hO HB2 HD2
    go_wp2_with fail
    refine (dice_next p g aa cap n xs k2 4 _ (by omega) h300 HD3.out).mono ?_
    have bv3 := dval_bd xs n k2 4 (by omega)
    have lk3 : dnext n k2 ≤ n := dnext_le lk2
    generalize dval xs n k2 4 = v3 at *
    generalize dnext n k2 = k3 at *
    rintro e w4 ⟨rfl, hD, hO, -⟩
    have hB4 := HB3.out.trans (only_below hO hp HB3.out.size)
    have lp := lt_of_cell hD.c0
    have lg := hD.gl
    have hbn := blA w4 (.cells #[.int .i64 (1 + v1), .int .i64 (1 + v2), .int .i64 (1 + v3), .slice none 0 0] 25)
    have HS0 := Lib.hid (show RunS w' (w4.alloc (.cells #[.int .i64 (1 + v1), .int .i64 (1 + v2), .int .i64 (1 + v3), .slice none 0 0] 25)) p g aa cap n k3 w4.heap.size (1 + v1) (1 + v2) (1 + v3) xs none 0 0 zf zf zf from
      ⟨bthen hB4 hbn hB4.size, Bx.new _ _ _ _ _, R3.zero _ _ _ _ _, ⟨Nat.le_refl _, by omega⟩, fun _ => rfl, by omega, hD.alloc _, ⟨hp, lp, lg⟩⟩)
    clear hD hO HB3 HD3 hB4 lp lg hbn
    go_upto_region 5 with fail
    generalize (w4.alloc (.cells #[.int .i64 (1 + v1), .int .i64 (1 + v2), .int .i64 (1 + v3), .slice none 0 0] 25)) = w5 at *
    generalize w4.heap.size = B at *
    generalize 1 + v1 = cy at *
    generalize 1 + v2 = mo at *
    generalize 1 + v3 = tr at *
    go_wp2_with fail
    go_loopw [5] (fun s5 wx => ∃ (i kd : Nat) (a : Option Addr) (m c : Nat) (I S C : Nat → Int), s5 = .int .i64 i ∧ i ≤ 60 ∧ kd ≤ n ∧ RunS w' wx p g aa cap n kd B cy mo tr xs a m c I S C) (fun s5 _ => 60 - (intOf s5).toNat)
    case atStart => exact ⟨0, k3, none, 0, 0, zf, zf, zf, rfl, by omega, lk3, HS0.out⟩
    case round =>
      clear HS0
      obtain ⟨i, kd, a, m, c, I, S, C, rfl, hi, hkd, hS⟩ := hrel
      have HS := Lib.hid hS
      have hsr := hS.bel.size
      have hm16 := hS.m16
      clear hS
      by_cases hlt : i < 60
      · have d0 : decide (i < 60) = true := decide_eq_true hlt
        have i2 : (i : Int) < 60 := by omega
        go_wp2_with fail
        refine (dice_rest p g aa cap n xs kd _ hkd h300 HS.out.d).mono ?_
        rintro e w2 ⟨rfl, q, rfl⟩
        have HS2 := Lib.hid (HS.out.mono (below_drewN (Below.refl _ _) q))
        have hs2 := HS2.out.bel.size
        clear HS
        generalize wr.drewN q = w2 at *
        by_cases hkn : kd < n
        · have hpos : (0 : Int) < (n : Int) - kd := by omega
          go_wp2_with fail
          refine (dice_next p g aa cap n xs kd 40 _ (by omega) h300 HS2.out.d).mono ?_
          have bv := dval_bd xs n kd 40 (by omega)
          have lk : dnext n kd ≤ n := dnext_le hkd
          generalize dval xs n kd 40 = id at *
          generalize dnext n kd = k1 at *
          rintro e w3 ⟨rfl, hD, hO, hF⟩
          have hS3 := HS2.out.dice hD hO hF
          have HS3 := Lib.hid hS3
          have hs3 := hS3.bel.size
          have K1 := Lib.hid (agree10 cy mo tr id (i : Int) a m c I S C w3 hS3.r hS3.ok.1 hS3.ok.2 hS3.a0 (by omega))
          have x0 := hS3.x.c0
          have x1 := hS3.x.c1
          have x2 := hS3.x.c2
          have x3 := hS3.x.c3
          clear hD hO hF HS2 hS3
          unfold gv at *
          go_wp2_with fail
          refine K1.out.mono ?_
          rintro e w4 ⟨rfl, hb⟩
          have HS4 := Lib.hid (HS3.out.mono hb)
          have hs4 := HS4.out.bel.size
          clear hb K1 HS3 x0 x1 x2 x3
          go_wp2_with fail
          refine (dice_next p g aa cap n xs k1 4 _ (by omega) h300 HS4.out.d).mono ?_
          have bv4 := dval_bd xs n k1 4 (by omega)
          have lk4 : dnext n k1 ≤ n := dnext_le lk
          generalize dval xs n k1 4 = sw at *
          generalize dnext n k1 = k2 at *
          rintro e w5 ⟨rfl, hD, hO, hF⟩
          have hS5 := HS4.out.dice hD hO hF
          have HS5 := Lib.hid hS5
          have hs5 := hS5.bel.size
          have hB5 := hS5.x.lt
          have x0 := hS5.x.c0
          have x1 := hS5.x.c1
          have x2 := hS5.x.c2
          have x3 := hS5.x.c3
          by_cases h0 : sw = 0
          · have d4 : (sw == 0) = true := beq_iff_eq.2 h0
            clear h0
            have K1 := Lib.hid (answer15 cy mo tr id a m c I S C w5 hS5.r hS5.ok.1 hS5.ok.2 hS5.a0)
            clear hD hO hF HS4 hS5
            unfold gv at *
            go_wp2_with fail
            refine K1.out.mono ?_
            rintro e w6 ⟨P, a1, c1, hP, rfl, hc1, hA1, hR1, hb⟩
            have hPl : P.length ≤ m := by rw [hP]; exact anO_len cy mo tr id m I S C
            have hS6 := HS5.out.mono hb
            have HS7 := Lib.hid (HS5.out.step hb hc1 hA1 hR1 (by omega))
            have hs6 := hS6.bel.size
            have y0 := hS6.x.c0
            have y1 := hS6.x.c1
            have y2 := hS6.x.c2
            have y3 := hS6.x.c3
            have g0 := hS6.x.f 0
            have g1 := hS6.x.f 1
            have g2 := hS6.x.f 2
            have g3 := hS6.x.f 3
            have hB6 := hS6.x.lt
            clear hb K1 hP hR1 hA1 hS6 HS5 x0 x1 x2 x3
            unfold gv at *
            go_upto_region 15 with fail
            have e7 : (((w6.setCell ⟨B, 0, none⟩ (.int .i64 cy)).setCell ⟨B, 1, none⟩ (.int .i64 mo)).setCell ⟨B, 2, none⟩ (.int .i64 tr)).setCell ⟨B, 3, none⟩ (.slice a1 P.length c1) = rebox w6 B cy mo tr (.slice a1 P.length c1) := rfl
            rw [e7]
            clear e7 y0 y1 y2 y3 g0 g1 g2 g3 hB6
            generalize rebox w6 B cy mo tr (.slice a1 P.length c1) = w7 at *
            have hS7 := HS7.out
            have hs7 := hS7.bel.size
            have x0 := hS7.x.c0
            have x1 := hS7.x.c1
            have x2 := hS7.x.c2
            have x3 := hS7.x.c3
            have K1 := Lib.hid (tick17 cy mo tr (i : Int) a1 P.length c1 _ _ _ w7 hS7.r hS7.ok.1 hS7.ok.2 hS7.a0)
            clear hS7
            unfold gv at *
            go_wp2_with fail
            refine K1.out.mono ?_
            rintro e w8 ⟨P2, A2, L2, a2, b2, d2, c2, e2, f2, hP, rfl, hc1, hA1, hR1, -, -, hb⟩
            have hP16 := HS7.out.m16
            have hPl : P2.length ≤ P.length := by have := (tkO_len cy mo tr (i : Int) P.length (pI P) (pS P) (pC P)).1; rw [← hP] at this; exact this
            have hS6 := HS7.out.mono hb
            have HS9 := Lib.hid (HS7.out.step hb hc1 hA1 hR1 (Nat.le_trans hPl hP16))
            have hs6 := hS6.bel.size
            have y0 := hS6.x.c0
            have y1 := hS6.x.c1
            have y2 := hS6.x.c2
            have y3 := hS6.x.c3
            have g0 := hS6.x.f 0
            have g1 := hS6.x.f 1
            have g2 := hS6.x.f 2
            have g3 := hS6.x.f 3
            have hB6 := hS6.x.lt
            clear hb K1 hP hR1 hA1 hS6 HS7 x0 x1 x2 x3
            unfold gv at *
            go_wp2_with fail
            have e7 : (((w8.setCell ⟨B, 0, none⟩ (.int .i64 cy)).setCell ⟨B, 1, none⟩ (.int .i64 mo)).setCell ⟨B, 2, none⟩ (.int .i64 tr)).setCell ⟨B, 3, none⟩ (.slice a2 P2.length c2) = rebox w8 B cy mo tr (.slice a2 P2.length c2) := rfl
            go_roundw
            case rel => exact ⟨i + 1, k2, a2, P2.length, c2, _, _, _, by go_num, by omega, lk4, HS9.out⟩
            case measure => simp [intOf]; omega
          · have d4 : (sw == 0) = false := beq_eq_false_iff_ne.2 h0
            clear h0
            have K1 := Lib.hid (call16 cy mo tr id (i : Int) a m c I S C w5 hS5.r hS5.ok.1 hS5.ok.2 hS5.a0)
            clear hD hO hF HS4 hS5
            unfold gv at *
            go_wp2_with fail
            refine K1.out.mono ?_
            rintro e w6 ⟨P, a1, c1, hP, rfl, hc1, hA1, hR1, hb⟩
            have hPl : P.length ≤ 16 := by rw [hP]; exact clO_le hm16
            have hS6 := HS5.out.mono hb
            have HS7 := Lib.hid (HS5.out.step hb hc1 hA1 hR1 (hPl))
            have hs6 := hS6.bel.size
            have y0 := hS6.x.c0
            have y1 := hS6.x.c1
            have y2 := hS6.x.c2
            have y3 := hS6.x.c3
            have g0 := hS6.x.f 0
            have g1 := hS6.x.f 1
            have g2 := hS6.x.f 2
            have g3 := hS6.x.f 3
            have hB6 := hS6.x.lt
            clear hb K1 hP hR1 hA1 hS6 HS5 x0 x1 x2 x3
            unfold gv at *
            go_upto_region 15 with fail
            have e7 : (((w6.setCell ⟨B, 0, none⟩ (.int .i64 cy)).setCell ⟨B, 1, none⟩ (.int .i64 mo)).setCell ⟨B, 2, none⟩ (.int .i64 tr)).setCell ⟨B, 3, none⟩ (.slice a1 P.length c1) = rebox w6 B cy mo tr (.slice a1 P.length c1) := rfl
            rw [e7]
            clear e7 y0 y1 y2 y3 g0 g1 g2 g3 hB6
            generalize rebox w6 B cy mo tr (.slice a1 P.length c1) = w7 at *
            have hS7 := HS7.out
            have hs7 := hS7.bel.size
            have x0 := hS7.x.c0
            have x1 := hS7.x.c1
            have x2 := hS7.x.c2
            have x3 := hS7.x.c3
            have K1 := Lib.hid (tick17 cy mo tr (i : Int) a1 P.length c1 _ _ _ w7 hS7.r hS7.ok.1 hS7.ok.2 hS7.a0)
            clear hS7
            unfold gv at *
            go_wp2_with fail
            refine K1.out.mono ?_
            rintro e w8 ⟨P2, A2, L2, a2, b2, d2, c2, e2, f2, hP, rfl, hc1, hA1, hR1, -, -, hb⟩
            have hP16 := HS7.out.m16
            have hPl : P2.length ≤ P.length := by have := (tkO_len cy mo tr (i : Int) P.length (pI P) (pS P) (pC P)).1; rw [← hP] at this; exact this
            have hS6 := HS7.out.mono hb
            have HS9 := Lib.hid (HS7.out.step hb hc1 hA1 hR1 (Nat.le_trans hPl hP16))
            have hs6 := hS6.bel.size
            have y0 := hS6.x.c0
            have y1 := hS6.x.c1
            have y2 := hS6.x.c2
            have y3 := hS6.x.c3
            have g0 := hS6.x.f 0
            have g1 := hS6.x.f 1
            have g2 := hS6.x.f 2
            have g3 := hS6.x.f 3
            have hB6 := hS6.x.lt
            clear hb K1 hP hR1 hA1 hS6 HS7 x0 x1 x2 x3
            unfold gv at *
            go_wp2_with fail
            have e7 : (((w8.setCell ⟨B, 0, none⟩ (.int .i64 cy)).setCell ⟨B, 1, none⟩ (.int .i64 mo)).setCell ⟨B, 2, none⟩ (.int .i64 tr)).setCell ⟨B, 3, none⟩ (.slice a2 P2.length c2) = rebox w8 B cy mo tr (.slice a2 P2.length c2) := rfl
            go_roundw
            case rel => exact ⟨i + 1, k2, a2, P2.length, c2, _, _, _, by go_num, by omega, lk4, HS9.out⟩
            case measure => simp [intOf]; omega
        · have hpos : ¬ (0 : Int) < (n : Int) - kd := by omega
          go_wp2_with fail
          refine (awake9 _).mono ?_
          rintro e w3 ⟨rfl, hb⟩
          have HB3 := Lib.hid (bthen HS2.out.bel hb hs2)
          clear hb
          go_wp2
          go_ret
          exact ⟨rfl, HB3.out⟩
      · have d0 : decide (i < 60) = false := decide_eq_false hlt
        have i2 : ¬ (i : Int) < 60 := by omega
        go_wp2_with fail
        refine (awake9 _).mono ?_
        rintro e w3 ⟨rfl, hb⟩
        have HB3 := Lib.hid (bthen HS.out.bel hb hsr)
        clear hb
        go_wp2
        go_ret
        exact ⟨rfl, HB3.out⟩
  · have hd : decide (n ≤ 300) = false := by simpa using h300
    go_enter Try.func5, Try.ntmps5
    go_wp2_with (first
      | (go_at_call 11; refine (light_any a n c _).mono ?_; rw [hd]; rintro e w' ⟨rfl, rfl⟩)
      | (go_at_call 9; refine (awake9 _).mono ?_; rintro e w' ⟨rfl, hb⟩))
    go_ret
    exact ⟨rfl, hb⟩
end Go.Proofs.Ytobmnajgbhgdlaa
