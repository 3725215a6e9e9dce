/- Layer 33: the walk of GuaranteePlans. -/
import Derived.Test.YteokhadpenalaaaL5
namespace Go.Proofs.Yteokhadpenalaaa
set_option linter.unusedVariables false
set_option linter.unusedSimpArgs false
open Go.RowKit Go.Sort
attribute [local go_sem] gcell

/-- One by one along the list of a tick, the counts grow as they grew when the list was made. -/
theorem ls_steps {F W B g : Nat → Int} {n : Nat} {t : Int} : ∀ N : Nat,
    ((ls F W B n g t N).length = N ∨ (nx F W B (gs F W B n g t N) t n).2 = 0) ∧ gs F W B n g t N = gs F W B n g t (ls F W B n g t N).length ∧ ∀ k, k < (ls F W B n g t N).length → gs F W B n g t (k + 1) = bump (gs F W B n g t k) ((ls F W B n g t N).getD k 0)
  | 0 => ⟨.inl rfl, rfl, fun k hk => absurd hk (Nat.not_lt_zero _)⟩
  | N + 1 => by
    obtain ⟨h1, h2, h3⟩ := ls_steps N (F := F) (W := W) (B := B) (g := g) (n := n) (t := t)
    by_cases h0 : (nx F W B (gs F W B n g t N) t n).2 = 0
    · obtain ⟨e1, e2⟩ := gs_stop h0 1
      rw [e1, e2]
      exact ⟨.inr h0, h2, h3⟩
    · obtain ⟨e1, e2⟩ := gs_go h0
      have hl : (ls F W B n g t N).length = N := h1.resolve_right h0
      have hl2 : (ls F W B n g t (N + 1)).length = N + 1 := by rw [e2]; simp [hl]
      refine ⟨.inl hl2, by rw [hl2], fun k hk => ?_⟩
      rw [hl2] at hk
      by_cases hkN : k = N
      · subst hkN
        rw [e1, e2]
        simp [List.getD, hl]
      · rw [h3 k (by omega), e2]
        simp [List.getD, List.getElem?_append_left (show k < (ls F W B n g t N).length by omega)]
theorem bump_self (g : Nat → Int) (y : Nat) : bump g y y = g y + 1 := by simp [bump]
/-- What is kept is what is feasible. -/
theorem kept_fs {n r h : Nat} {F W B : Nat → Int} (hv : ∀ k, k < n → vg (F k) (W k) (B k) = true) (hp : plB n F W B r h = true) : fsB n F W B r h = keptB n F W B r h := by
  have hF : ∀ i, i < n → 0 ≤ F i := fun i hi => (vg_true (hv i hi)).1
  have hW : ∀ i, i < n → 1 ≤ W i := fun i hi => (vg_true (hv i hi)).2.2.1
  have hB : ∀ i, i < n → 0 ≤ B i := fun i hi => (vg_true (hv i hi)).2.2.2.2.1
  rw [Bool.eq_iff_iff, fsB_iff, keptB_iff]
  exact ⟨fun h => edf_if F W B n hF hW hB h.2, fun h => ⟨hp, fun a b hab hb => edf_only F W B n hF hW hB h (Nat.le_of_lt hab) hb⟩⟩
set_option maxRecDepth 100000 in
set_option maxHeartbeats 1600000 in
theorem plans5 (a : Option Addr) (b m n c : Nat) (xs : Nat → Int) (x1 : Int) (w : World) (L : ListIn w a b m n c xs) (hn : n ≤ 140737488351232) (b1 : 0 ≤ x1 ∧ x1 ≤ 255) :
    Calls Try.prog 5 #[.slice a n c, .int .u8 x1] w fun e w' => e = .returned (.bool true) ∧ Below w.heap.size w w' := by
  have HL := Lib.hid L
  clear L
  by_cases h300 : n ≤ 300
  · have hd : decide (n ≤ 300) = true := by simpa using h300
    have m1 : 0 ≤ x1 % 60 ∧ x1 % 60 ≤ 59 := by omega
    obtain ⟨i0, hi, hz0, hz1, hz2⟩ := info_split gInfo
    have HI := Lib.hid hi
    have HZ0 := Lib.hid hz0
    have HZ1 := Lib.hid hz1
    have HZ2 := Lib.hid hz2
    clear hi hz0 hz1 hz2
    go_enter Try.func5, Try.ntmps5
    go_wp2_with fail
    refine (light_any a n c _).mono ?_
    rw [hd]
    rintro e w' ⟨rfl, rfl⟩
    go_wp2_with fail
    refine (roll_any _ a b m n c xs h300 HL.out.hc HL.out.h0 HL.out.ha HL.out.hx).mono ?_
    rintro e w0 ⟨p, g, aa, cap, rfl, hD, hp, hB⟩
    have HB0 := Lib.hid hB
    have HD0 := Lib.hid hD
    clear hB hD hd
    go_wp2_with fail
    refine (dice_next p g aa cap n xs 0 4 _ (by omega) h300 HD0.out).mono ?_
    have bv := dval_bd xs n 0 4 (by omega)
    generalize dval xs n 0 4 = v1 at *
    have hk1 : dnext n 0 ≤ n := dnext_le (by omega)
    generalize dnext n 0 = k1 at *
    rintro e w1 ⟨rfl, hD, hO⟩
    have HB1 := Lib.hid (HB0.out.trans (only_below hO hp HB0.out.size))
    have HD1 := Lib.hid hD
    clear hD hO HD0 HB0
    go_wp2_with fail
    refine (guarantees14 p g aa cap n xs k1 (1 + v1) _ (by omega) h300 hk1 HD1.out).mono ?_
    rintro e w2 ⟨N, gb, gc, kd, F, W, B, rfl, ⟨hN1, hN4, hNc⟩, ⟨hgb1, hgb2⟩, hcells, hmade, hD, hkd, hO⟩
    have HB2 := Lib.hid (HB1.out.trans (only_below hO hp HB1.out.size))
    have z2 := HB2.out.size
    have HC := Lib.hid hcells
    have hvg : ∀ k, k < N → vg (F k) (W k) (B k) = true := fun k hk => (hmade k hk).vg (by omega)
    have HV := Lib.hid hvg
    clear hcells hmade hO hD HB1 HD1 hvg
    go_upto_region 7 with fail
    generalize x1 % 60 = y1 at *
    obtain ⟨H, rfl⟩ : ∃ u : Nat, y1 = u := ⟨y1.toNat, by omega⟩
    obtain ⟨r, hr⟩ : ∃ r : Int, 1 + v1 = r := ⟨_, rfl⟩
    have br : 1 ≤ r ∧ r ≤ 4 := by omega
    rw [hr]
    clear hr bv
    have hml : N ≤ maxLen := by unfold maxLen; omega
    have hp : plB N F W B r H = true := plB_mk (ck_all hN4 HV.out) (by omega) (by omega)
    obtain ⟨R, rfl⟩ : ∃ u : Nat, r = u := ⟨r.toNat, by omega⟩
    have k15 := plan15 (some ⟨gb, 0, none⟩) N gc F W B R H w2 (R3.of HC.out) hml
    have KF := Lib.hid (kept_fs HV.out hp)
    have K15 := Lib.hid k15
    have HP := Lib.hid hp
    clear k15 hp
    go_wp2_with fail
    refine K15.out.mono ?_
    rintro e w3 ⟨v, rfl, hR, hb⟩
    rw [HP.out, Int.toNat_natCast, Int.toNat_natCast, Bool.true_and]
    rw [HP.out, if_pos rfl, Int.toNat_natCast, Int.toNat_natCast] at hR
    have HB3 := Lib.hid (bthen HB2.out hb HB2.out.size)
    have z3 := HB3.out.size
    have HC3 := Lib.hid ((R3.of HC.out).mono hb)
    have k16 := feasible16 (some ⟨gb, 0, none⟩) N gc F W B R H w3 ((R3.of HC.out).mono hb) hml
    rw [KF.out] at k16
    have K16 := Lib.hid k16
    obtain ⟨va, vc, vb, vo, A, C, rfl, v0, v2⟩ := hR
    have HR := Lib.hid v2
    have H0 := Lib.hid v0
    clear hb k16 K15 v0 v2
    go_wp2_with fail
    refine K16.out.mono ?_
    rintro e w4 ⟨rfl, hb⟩
    have HB4 := Lib.hid (bthen HB3.out hb z3)
    have HR4 := Lib.hid fun t ht => (⟨up hb (HR.out t ht).1, (HR.out t ht).2.mono hb⟩ : w4.cell? ⟨vb, vo + t, none⟩ = some (.slice (A t) (who N F W B R t).length (C t)) ∧ Row w4 (A t) (who N F W B R t).length (nums (who N F W B R t)))
    have HC4 := Lib.hid (HC3.out.mono hb)
    clear hb HR
    obtain ⟨j0, hj, hy0, hy1, hy2⟩ := info_split intInfo
    have HJ := Lib.hid hj
    have HY0 := Lib.hid hy0
    have HY1 := Lib.hid hy1
    have HY2 := Lib.hid hy2
    clear hj hy0 hy1 hy2
    go_upto_region 10 with fail
    go_wp2_with (refine wpList_make_full _ rfl (.tmp 56) (.tmp 56) 23 rfl w4.heap.size 3 j0 (.int .i64 0) 1 Try.underlying23 HJ.out HY0.out HY1.out .i64 .i64 (N : Int) (N : Int) N rfl rfl rfl rfl ?d1 ?d2 (Nat.le_refl _) ?_)
    case d1 => rw [HY2.out]; omega
    case d2 => exact hml
    intro w5 hown hgrow
    have hbw := below_of_grown hgrow
    have hG : VAt w5 w4.heap.size N (iv (got F W B N R 0)) := VAt.made hown
    have HB5 := Lib.hid hbw
    have HG0 := Lib.hid hG
    have z4 := HB4.out.size
    have z5 := hbw.size
    clear hown hgrow hbw hG
    generalize hGG : w4.heap.size = G at *
    go_wp2_with fail
    go_loopw [12] (fun s12 wr => ∃ t : Nat, s12 = .int .i64 t ∧ t ≤ H ∧ Below G w4 wr ∧ VAt wr G N (iv (got F W B N R t))) (fun s12 _ => H - (intOf s12).toNat)
    case atStart => exact ⟨0, rfl, Nat.zero_le _, HB5.out, HG0.out⟩
    case round =>
      clear HG0 HB5
      obtain ⟨t, rfl, ht, hb, hg⟩ := hrel
      have HX := Lib.hid hb
      have HG := Lib.hid hg
      clear hb hg
      by_cases hlt : t < H
      · obtain rfl := H0.out (by omega)
        go_wp2_with fail
        go_loopw [13] (fun s13 wx => ∃ i : Nat, s13 = .int .i64 i ∧ i ≤ N ∧ Below G w4 wx ∧ VAt wx G N (iv (upto i (rst F W (got F W B N R t) t) (got F W B N R t)))) (fun s13 _ => N - (intOf s13).toNat)
        case atStart => exact ⟨0, rfl, Nat.zero_le _, HX.out, HG.out.congr fun j _ => by unfold iv; rw [upto_ge _ _ (Nat.zero_le _)]⟩
        case round =>
          clear HX HG
          obtain ⟨i, rfl, hi, hb, hg⟩ := hrel
          have HX := Lib.hid hb
          have HG := Lib.hid hg
          by_cases hin : i < N
          · obtain ⟨cb, cm, g1, g2⟩ := HC4.out.mono (show Below w4.heap.size w4 wr from hGG ▸ hb)
            obtain rfl | h := g1 (by omega)
            obtain ⟨c0, c1, c2⟩ := g2 i hin
            simp only [Nat.zero_add] at c0 c1 c2
            have hv := HV.out i hin
            have i1 : (0 : Int) ≤ (i : Int) := by omega
            have i2 : (i : Int) < (N : Int) := by omega
            have K := window17 (F i) (W i) (B i) t
            have hsz : G ≤ wr.heap.size := by have := hb.size; omega
            have hGi := hg.c i hin
            unfold iv at hGi
            rw [upto_ge _ _ (Nat.le_refl i)] at hGi
            clear hb hg g1 g2
            rcases win_cases hv (show t ≤ 600 by omega) with ⟨hF, hw, hr0, hr1, hr2⟩ | ⟨hF, hw⟩
            · rw [hw] at K
              unfold gvv at K
              have HKW := Lib.hid K
              clear K hw hv
              go_wp2_with fail
              refine (HKW.out _).mono ?_
              rintro e w6 ⟨rfl, hb⟩
              have HX6 := Lib.hid (bthen HX.out hb hsz)
              have HG6 := Lib.hid (HG.out.mono hb)
              have d0 := up hb hGi
              have d1 := HG6.out.fr i
              clear hb c0 c1 c2 HX HG hGi
              by_cases hrt : rel (F i) (W i) t = t
              · have q1 : (rel (F i) (W i) t == (t : Int)) = true := by rw [hrt]; exact beq_self_eq_true _
                have hx : (0 : Int) = rst F W (got F W B N R t) t i := by unfold rst; rw [if_pos ⟨hF, hrt⟩]
                have HG7 := Lib.hid ((HG6.out.setI i 0).congr fun j _ => show iv _ j = iv _ j from congrArg (Value.int .i64) (upto_put hx j))
                have HX7 := Lib.hid (HX6.out.setCell (p := ⟨G, i, none⟩) (Nat.le_refl G) (.int .i64 0))
                have p1 : 0 < rel (F i) (W i) t + W i := by omega
                clear hx hrt
                go_wp2_with fail
                exact ⟨⟨i + 1, by go_num, by omega, HX7.out, HG7.out⟩, by simp [intOf]; omega⟩
              · have q1 : (rel (F i) (W i) t == (t : Int)) = false := beq_eq_false_iff_ne.2 hrt
                have hx : got F W B N R t i = rst F W (got F W B N R t) t i := by unfold rst; rw [if_neg (fun h => hrt h.2)]
                have HG7 := Lib.hid (HG6.out.congr fun j _ => show iv _ j = iv _ j from congrArg (Value.int .i64) (upto_keep hx j))
                have p1 : 0 < rel (F i) (W i) t + W i := by omega
                clear hx hrt
                go_wp2_with fail
                exact ⟨⟨i + 1, by go_num, by omega, HX6.out, HG7.out⟩, by simp [intOf]; omega⟩
            · rw [hw] at K
              unfold gvv at K
              have HKW := Lib.hid K
              clear K hw hv
              go_wp2_with fail
              refine (HKW.out _).mono ?_
              rintro e w6 ⟨rfl, hb⟩
              have HX6 := Lib.hid (bthen HX.out hb hsz)
              have HG6 := Lib.hid (HG.out.mono hb)
              have hx : got F W B N R t i = rst F W (got F W B N R t) t i := by unfold rst; rw [if_neg (fun h => absurd h.1 (by omega))]
              have HG7 := Lib.hid (HG6.out.congr fun j _ => show iv _ j = iv _ j from congrArg (Value.int .i64) (upto_keep hx j))
              clear hb hx c0 c1 c2 HX HG hGi
              go_wp2_with fail
              exact ⟨⟨i + 1, by go_num, by omega, HX6.out, HG7.out⟩, by simp [intOf]; omega⟩
          · obtain rfl : i = N := by omega
            have HG1 := Lib.hid (hg.congr fun j hj => show iv (gs F W B i (rst F W (got F W B i R t) t) t 0) j = iv _ j from congrArg (Value.int .i64) (upto_lt _ _ hj).symm)
            have HX1 := Lib.hid hb
            have hB4 : Below w4.heap.size w4 wr := hGG ▸ hb
            obtain ⟨x0, x1⟩ := HR4.out t hlt
            have HW0 := Lib.hid x0
            have HRw := Lib.hid x1
            have x0 := up hB4 x0
            have hll : (who i F W B R t).length ≤ R := ls_len R
            have hlt2 : ∀ x ∈ who i F W B R t, x < i ∧ F x ≤ (t : Int) := ls_lt R
            have hst : got F W B i R (t + 1) = gs F W B i (rst F W (got F W B i R t) t) t (who i F W B R t).length ∧ ∀ k, k < (who i F W B R t).length → gs F W B i (rst F W (got F W B i R t) t) t (k + 1) = bump (gs F W B i (rst F W (got F W B i R t) t) t k) ((who i F W B R t).getD k 0) := (ls_steps R).2
            have hgb := gs_bd F W B i (g := rst F W (got F W B i R t) t) (t := t) (rst_bd F W B i (fun x hx => (vg_true (HV.out x hx)).2.2.2.2.1) (got_bd F W B i (fun x hx => (vg_true (HV.out x hx)).2.2.2.2.1) R t))
            have hke : keptB i F W B R H = true → ∀ q, q < i → F q ≤ t → rel (F q) (W q) t + W q = t + 1 → got F W B i R (t + 1) q = B q := fun hk q hq h1 h2 => by
              have hm := keptB_iff.1 hk t hlt
              have hb := got_bd F W B i (fun x hx => (vg_true (HV.out x hx)).2.2.2.2.1) R (t + 1) q hq
              rcases Int.lt_or_le (got F W B i R (t + 1) q) (B q) with h | h
              · exact absurd ⟨q, hq, h1, h2, h⟩ hm
              · omega
            have HKE := Lib.hid hke
            clear hke
            generalize gs F W B i (rst F W (got F W B i R t) t) t = S at *
            generalize who i F W B R t = l at *
            have HL2 := Lib.hid hlt2
            have HST := Lib.hid hst
            have HGB := Lib.hid hgb
            clear hb hg HG HX x1 hB4 hlt2 hst hgb
            have i1 : (0 : Int) ≤ (t : Int) := by omega
            have i2 : (t : Int) < (H : Int) := by omega
            have q0 : decide (R < l.length) = false := by simp; omega
            go_wp2_with fail
            go_loopw [16] (fun s16 wx => ∃ k : Nat, s16 = .int .i64 k ∧ k ≤ l.length ∧ Below G w4 wx ∧ VAt wx G i (iv (S k))) (fun s16 _ => l.length - (intOf s16).toNat)
            case atStart => exact ⟨0, rfl, Nat.zero_le _, HX1.out, HG1.out⟩
            case round =>
              clear HX1 HG1 x0
              obtain ⟨k, rfl, hk, hb, hg⟩ := hrel
              have HX := Lib.hid hb
              have HG := Lib.hid hg
              have hB4 : Below w4.heap.size w4 wr := hGG ▸ hb
              have x0 := up hB4 HW0.out
              by_cases hkl : k < l.length
              · obtain ⟨rb, ro, r1, r2⟩ := HRw.out.mono hB4
                rw [r1 (by omega)] at x0
                have rk := r2 k hkl
                have hy := HL2.out (l.getD k 0) (by simp [List.getD, hkl])
                have hs1 := HST.out.2 k hkl
                unfold nums at rk
                generalize l.getD k 0 = y at *
                have hgb := HGB.out k y hy.1
                have hgb1 := HGB.out (k + 1) y hy.1
                rw [hs1, bump_self] at hgb1
                have hvB := vg_true (HV.out y hy.1)
                have hc4 := HC4.out.mono hB4
                obtain ⟨cb, cm, g1, g2⟩ := hc4
                obtain rfl | h := g1 (by omega)
                obtain ⟨c0, c1, c2⟩ := g2 y hy.1
                simp only [Nat.zero_add] at c0 c2
                have d0 := hg.c y hy.1
                have d1 := hg.fr y
                unfold iv at d0
                have HX6 := Lib.hid (hb.setCell (p := ⟨G, y, none⟩) (Nat.le_refl G) (.int .i64 (S k y + 1)))
                have HG6 := Lib.hid ((hg.setI y (S k y + 1)).congr fun j _ => show iv (S (k + 1)) j = _ from by rw [hs1]; exact congrArg (Value.int .i64) (bump_put _ _ _))
                have j1 : (0 : Int) ≤ (y : Int) := by omega
                have j2 : (y : Int) < (i : Int) := by omega
                have k1 : (0 : Int) ≤ (k : Int) := by omega
                have k2 : (k : Int) < (l.length : Int) := by omega
                have HE6 := Lib.hid (show S (k + 1) y = S k y + 1 by rw [hs1, bump_self])
                clear hb hg r1 r2 g1 g2 hs1 hB4 c1
                generalize hgy : S k y = gy at *
                have hgy2 : gy + 1 ≤ 1000 ∧ 0 ≤ gy := by omega
                have q1 : decide ((i : Int) ≤ (y : Int)) = false := by simp; omega
                have q2 : decide ((t : Int) < F y) = false := by simp; omega
                go_upto_region 29 with fail
                clear d0 d1 c0 c2 x0 rk
                generalize wr.setCell ⟨G, y, none⟩ (.int .i64 (gy + 1)) = w6 at *
                have d0 := HG6.out.c y hy.1
                unfold iv at d0
                rw [HE6.out] at d0
                obtain ⟨cb, cm, g1, g2⟩ := HC4.out.mono (show Below w4.heap.size w4 w6 from hGG ▸ HX6.out)
                obtain rfl | h := g1 (by omega)
                obtain ⟨c0, c1, c2⟩ := g2 y hy.1
                simp only [Nat.zero_add] at c2
                have q3 : decide (B y < gy + 1) = false := by simp; omega
                clear g1 g2 c0 c1
                go_quiet (fail)
                clear d0 c2
                go_wp2_with fail
                go_roundw
                case rel => exact ⟨k + 1, by go_num, by omega, bthen HX6.out (below_drewN (Below.refl _ _) _) (by have := HX6.out.size; omega), HG6.out.mono (below_drewN (Below.refl _ _) _)⟩
                case measure => simp [intOf]; omega
              · obtain rfl : k = l.length := by omega
                rw [← HST.out.1] at hg
                have HG9 := Lib.hid hg
                have HX9 := Lib.hid hb
                clear hb hg hB4 HX HG HST HGB HL2
                generalize hgt : got F W B i R (t + 1) = gt at *
                generalize hKB : keptB i F W B R H = KB at *
                have HGT := Lib.hid hgt
                have HKB := Lib.hid hKB
                clear hgt hKB
                go_wp2_with fail
                go_loopw [18] (fun s18 wx => ∃ q : Nat, s18 = .int .i64 q ∧ q ≤ i ∧ Below G w4 wx ∧ VAt wx G i (iv gt)) (fun s18 _ => i - (intOf s18).toNat)
                case atStart => exact ⟨0, rfl, Nat.zero_le _, HX9.out, HG9.out⟩
                case round =>
                  clear HX9 HG9 x0
                  obtain ⟨q, rfl, hq, hb, hg⟩ := hrel
                  have HX := Lib.hid hb
                  have HG := Lib.hid hg
                  by_cases hqi : q < i
                  · obtain ⟨cb, cm, g1, g2⟩ := HC4.out.mono (show Below w4.heap.size w4 wr from hGG ▸ hb)
                    obtain rfl | h := g1 (by omega)
                    obtain ⟨c0, c1, c2⟩ := g2 q hqi
                    simp only [Nat.zero_add] at c0 c1 c2
                    have hv := HV.out q hqi
                    have K := window17 (F q) (W q) (B q) t
                    have j1 : (0 : Int) ≤ (q : Int) := by omega
                    have j2 : (q : Int) < (i : Int) := by omega
                    have e1 : IntKind.i64.wrap ((t : Int) + 1) = (t : Int) + 1 := IntWalk.i64_in _ (by omega)
                    have hsz : G ≤ wr.heap.size := by have := hb.size; omega
                    have hke := fun h1 => HKE.out h1 q hqi
                    have HKQ := Lib.hid hke
                    clear hb hg g1 g2 hke
                    rcases win_cases hv (show t ≤ 600 by omega) with ⟨hF, hw, hr0, hr1, hr2⟩ | ⟨hF, hw⟩
                    · rw [hw] at K
                      unfold gvv at K
                      have HKW := Lib.hid K
                      have HFF := Lib.hid hF
                      clear K hw hv hF
                      generalize rel (F q) (W q) t + W q = y at *
                      generalize rel (F q) (W q) t = y0 at *
                      go_wp2_with fail
                      refine (HKW.out _).mono ?_
                      rintro e w8 ⟨rfl, hb⟩
                      have HX8 := Lib.hid (bthen HX.out hb hsz)
                      have hg8 := HG.out.mono hb
                      have HG8 := Lib.hid hg8
                      have d0 := hg8.c q hqi
                      unfold iv at d0
                      have c2 := up hb c2
                      have hs8 : G ≤ w8.heap.size := by have := hb.size; omega
                      clear hb hg8 c0 c1 HX HG
                      cases KB
                      · go_wp2_with fail
                        go_quiet (fail)
                        go_wp2_with fail
                        go_roundw
                        case rel => exact ⟨q + 1, by go_num, by omega, bthen HX8.out (below_drewN (Below.refl _ _) _) hs8, HG8.out.mono (below_drewN (Below.refl _ _) _)⟩
                        case measure => simp [intOf]; omega
                      · by_cases hy : y = (t : Int) + 1
                        · have q1 : (y == (t : Int) + 1) = true := by rw [hy]; exact beq_self_eq_true _
                          have hgq := HKQ.out rfl HFF.out hy
                          rw [hgq] at d0
                          have q2 : (B q == B q) = true := beq_self_eq_true _
                          have q3 : (B q != B q) = false := by simp
                          clear hy hgq
                          generalize B q = bq at *
                          go_wp2_with fail
                          go_quiet (fail)
                          go_wp2_with fail
                          go_roundw
                          case rel => exact ⟨q + 1, by go_num, by omega, bthen HX8.out (below_drewN (Below.refl _ _) _) hs8, HG8.out.mono (below_drewN (Below.refl _ _) _)⟩
                          case measure => simp [intOf]; omega
                        · have q1 : (y == (t : Int) + 1) = false := beq_eq_false_iff_ne.2 hy
                          clear hy
                          go_wp2_with fail
                          go_quiet (fail)
                          go_wp2_with fail
                          go_roundw
                          case rel => exact ⟨q + 1, by go_num, by omega, bthen HX8.out (below_drewN (Below.refl _ _) _) hs8, HG8.out.mono (below_drewN (Below.refl _ _) _)⟩
                          case measure => simp [intOf]; omega
                    · rw [hw] at K
                      unfold gvv at K
                      have HKW := Lib.hid K
                      have q1 : ((0 : Int) == (t : Int) + 1) = false := beq_eq_false_iff_ne.2 (by omega)
                      clear K hw hv hF
                      go_wp2_with fail
                      refine (HKW.out _).mono ?_
                      rintro e w8 ⟨rfl, hb⟩
                      have HX8 := Lib.hid (bthen HX.out hb hsz)
                      have HG8 := Lib.hid (HG.out.mono hb)
                      have hs8 : G ≤ w8.heap.size := by have := hb.size; omega
                      clear hb c0 c1 c2 HX HG
                      cases KB
                      all_goals
                        go_wp2_with fail
                        go_quiet (fail)
                        go_wp2_with fail
                        go_roundw
                        case rel => exact ⟨q + 1, by go_num, by omega, bthen HX8.out (below_drewN (Below.refl _ _) _) hs8, HG8.out.mono (below_drewN (Below.refl _ _) _)⟩
                        case measure => simp [intOf]; omega
                  · obtain rfl : q = i := by omega
                    have hKB := HKB.out
                    subst hKB
                    go_wp2_with fail
                    go_roundw
                    case rel => exact ⟨t + 1, by go_num, by omega, HX.out, by rw [HGT.out]; exact HG.out⟩
                    case measure => simp [intOf]; omega
      · obtain rfl : t = H := by omega
        have HB6 := Lib.hid (bthen HB4.out (show Below w4.heap.size w4 wr from hGG ▸ HX.out) (hGG ▸ z4))
        go_wp2_with fail
        refine (awake10 _).mono ?_
        rintro e w7 ⟨rfl, hb⟩
        have HB7 := Lib.hid (bthen HB6.out hb HB6.out.size)
        clear hb
        go_wp2
        go_ret
        exact ⟨rfl, HB7.out⟩
  · have hd : decide (n ≤ 300) = false := by simpa using h300
    go_enter Try.func5, Try.ntmps5
    go_wp2_with (first
      | (go_at_call 11; refine (light_any a n c _).mono ?_; rw [hd]; rintro e w' ⟨rfl, rfl⟩)
      | (go_at_call 10; refine (awake10 _).mono ?_; rintro e w' ⟨rfl, hb⟩))
    go_ret
    exact ⟨rfl, hb⟩
end Go.Proofs.Yteokhadpenalaaa
