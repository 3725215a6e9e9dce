/- Layer 25: the walk of PriorityShares. -/
import Derived.Test.YtgcplboiodnfpaaP9
namespace Go.Proofs.Ytgcplboiodnfpaa
set_option linter.unusedVariables false
set_option linter.unusedSimpArgs false
open Go.RowKit Go.Sort
attribute [local go_sem] gcell

structure ListIn (w : World) (a : Option Addr) (b m n c : Nat) (xs : Nat → Int) : Prop where
  hc : n ≤ c
  h0 : a = none → c = 0
  ha : 0 < c → a = some ⟨b, m, none⟩
  hx : ∀ i, i < n → w.cell? ⟨b, m + i, none⟩ = some (.int .i64 (xs i))
theorem sumI_bd {f : Nat → Int} {B : Int} : ∀ {n : Nat}, (∀ i, i < n → 0 ≤ f i ∧ f i ≤ B) → 0 ≤ B → 0 ≤ sumI f n ∧ sumI f n ≤ n * B
  | 0, _, _ => by simp [sumI]
  | n + 1, h, hB => by
    have ih := sumI_bd (n := n) (fun i hi => h i (by omega)) hB
    have := h n (by omega)
    unfold sumI
    rw [show ((n + 1 : Nat) : Int) = (n : Int) + 1 by omega, Int.add_mul, Int.one_mul]
    omega
set_option maxRecDepth 100000 in
set_option maxHeartbeats 8000000 in
theorem shares3 (a : Option Addr) (b m n c : Nat) (xs : Nat → Int) (x : Int) (w : World) (L : ListIn w a b m n c xs) (hn : n ≤ 140737488351232) (bx : -9223372036854775808 ≤ x ∧ x ≤ 9223372036854775807) :
    Calls Try.prog 3 #[.slice a n c, .int .i64 x] w fun e w' => e = .returned (.bool true) ∧ Below w.heap.size w w' := by
  have HL := Lib.hid L
  clear L
  by_cases h300 : n ≤ 300
  · have hd : decide (n ≤ 300) = true := by simpa using h300
    go_enter Try.func3, Try.ntmps3
    go_wp2_with fail
    refine (light_any a n c _).mono ?_
    rw [hd]
    rintro e w' ⟨rfl, rfl⟩
    go_wp2_with fail
    refine (roll_any _ a b m n c xs h300 HL.out.hc HL.out.h0 HL.out.ha HL.out.hx).mono ?_
    rintro e w0 ⟨p, g, aa, cap, rfl, hD, hp, hB⟩
    have HB0 := Lib.hid hB
    have HD0 := Lib.hid hD
    clear hB hD hd
    go_wp2_with fail
    refine (buckets11 p g aa cap n xs 0 _ h300 (Nat.zero_le _) HD0.out).mono ?_
    rintro e w1 ⟨N, u, v, kd, P, R, M, T, W, rfl, hN, hU, hV, hA, hm, hD, hkd, hO⟩
    have HB1 := Lib.hid (HB0.out.trans (only_below hO hp HB0.out.size))
    obtain ⟨ua, uc, ub, rfl, u1, u2, u3⟩ := own_cellsK hU
    obtain ⟨va, vc, rfl, v1, v2⟩ := own_row hV
    have hR : R4 w1 ua N P R M T := R4.of_cells u3 fun h0 => (u2 h0).1
    have hua : ua = none → N = 0 := fun h => by rw [(u2 (by omega)).1] at h; cases h
    have HM := Lib.hid hm
    have hs1 := HB1.out.size
    clear hU hV hA hD hO u2 u3 HB0 HD0
    go_wp2_with fail
    refine (mod_any x 257 (by omega) _).mono ?_
    have bs := modp_bd x 257 (by omega)
    generalize modp x 257 = s at *
    rintro e w2 ⟨rfl, rfl⟩
    have hok : okB N P R M T = true := okB_mk (by omega) fun k hk => by
      have := hm k hk
      unfold BMade at this
      unfold vb btw
      simp
      omega
    have hWe : Row w2 va N (fun k => if k < N then W k else 0) := v2.congr rfl fun k hk => (if_pos hk).symm
    generalize hW' : (fun k => if k < N then W k else 0) = W' at *
    have hWk : ∀ k, k < N → W' k = W k := fun k hk => by rw [← hW']; exact if_pos hk
    have hWb : ∀ k, 0 ≤ W' k ∧ W' k ≤ 79 := fun k => by
      rcases Nat.lt_or_ge k N with h | h
      · rw [hWk k h]; have := (hm k h).2.2.2.2; omega
      · rw [← hW']; simp only [if_neg (show ¬ k < N by omega)]; omega
    have hW0 : ∀ i, N ≤ i → W' i = 0 := fun i hi => by rw [← hW']; exact if_neg (by omega)
    have hE : eS N N true W' s = 0 := by
      unfold eS
      rw [if_neg (by simp), if_neg (by simp), if_neg]
      rw [btw_true.2 (by omega), anyB_false.2]
      · simp
      · intro k hk
        unfold badW
        rw [btw_true.2 (by have := hWb k; omega)]
        rfl
    have hOrd := ord_of (n := N) (k := P) fun k hk => by have := (hm k hk).1; omega
    have hWn : ∀ i, 0 ≤ W' i := fun i => (hWb i).1
    have K1 := share14 ua N uc va N vc P R M T W' s w2 (by omega) (by omega) hua hR hWe hW0
    unfold ShareR at K1
    rw [hok, hE] at K1
    have HK1 := Lib.hid K1
    have hgb := fun i (hi : i < N) => gAll_bd (T := T) hOrd bs.1 hWn hi
    have hgs := gAll_sum (T := T) hOrd bs.1 hWn
    have hgy := fun i q (hi : i < N) (hq : q < N) => gAll_beyond (T := T) hOrd bs.1 hWn hi hq
    generalize gAll W' T (ordP P N 16) N s = G at *
    have HGB := Lib.hid hgb
    have HGS := Lib.hid hgs
    have HGY := Lib.hid hgy
    have HRW := Lib.hid hWe
    have HR := Lib.hid hR
    have HWB := Lib.hid hWb
    have hS1 := fun k (hk : k ≤ N) => sumI_bd (f := G) (B := 79) (n := k) (fun i hi => by have := hgb i (by omega); have := hWb i; omega) (by omega)
    have hS2 := fun k => sumI_bd (f := W') (B := 79) (n := k) (fun i hi => hWb i) (by omega)
    have HS1 := Lib.hid hS1
    have HS2 := Lib.hid hS2
    clear hok hWe hWk hWb hW0 hE hOrd hWn K1 hgb hgs hgy hR v2 hm hS1 hS2 hW' hua
    go_wp2_with fail
    refine HK1.out.mono ?_
    rintro e w3 ⟨N', a1, a2, c1, c2, rfl, hN', hc1, hA1, hR1, hG1, hb⟩
    obtain rfl : N' = N := hN'
    have HG := Lib.hid hG1
    have HW3 := Lib.hid (HRW.out.mono hb)
    have HR3 := Lib.hid (HR.out.mono hb)
    have HB3 := Lib.hid (bthen HB1.out hb hs1)
    have hs3 := HB3.out.size
    have q1 : ((N' : Int) != (N' : Int)) = false := by simp
    clear hR1 hG1 hb HK1 HRW HR HB1 hA1
    go_wp2_with fail
    go_loopw [11, 12, 13] (fun s11 s12 s13 wx => ∃ i : Nat, s13 = .int .i64 i ∧ i ≤ N' ∧ s11 = .int .i64 (sumI G i) ∧ s12 = .int .i64 (sumI W' i) ∧ Below w3.heap.size w3 wx) (fun _ _ s13 _ => N' - (intOf s13).toNat)
    case atStart => exact ⟨0, rfl, Nat.zero_le _, rfl, rfl, Below.refl _ _⟩
    case round =>
      obtain ⟨i, rfl, hi, rfl, rfl, hb⟩ := hrel
      have HBI := Lib.hid hb
      have hsi := hb.size
      by_cases hin : i < N'
      · obtain ⟨gb, gm, g1', g2'⟩ := HG.out.mono hb
        obtain rfl := g1' (by omega)
        have g0 := g2' i hin
        obtain ⟨wb, wm, w1', w2'⟩ := HW3.out.mono hb
        obtain rfl := w1' (by omega)
        have x0 := w2' i hin
        have hgb := HGB.out i hin
        have hwb := HWB.out i
        have h1 := HS1.out i (by omega)
        have h2 := HS2.out i
        have i1 : (0 : Int) ≤ (i : Int) := by omega
        have i2 : (i : Int) < (N' : Int) := by omega
        have e1 : sumI G (i + 1) = sumI G i + G i := rfl
        have e2 : sumI W' (i + 1) = sumI W' i + W' i := rfl
        have HE1 := Lib.hid e1
        have HE2 := Lib.hid e2
        have h79 : (i : Int) * 79 ≤ 400 := by omega
        have HI := Lib.hid hin
        clear e1 e2 g1' g2' w1' w2' hb
        have HY := Lib.hid fun q hq => HGY.out i q hin hq
        generalize hgi : G i = gi at *
        generalize hwi : W' i = wi at *
        have q3 : decide (gi < 0) = false := by simp; omega
        have q4 : decide (wi < gi) = false := by simp; omega
        generalize sumI G i = sg at *
        generalize sumI W' i = sw at *
        go_wp2_with fail
        go_quiet (fail)
        have hb5 : Below w3.heap.size w3 (wr.drewN nq) := below_drewN HBI.out nq
        have HB5 := Lib.hid hb5
        have g5 := up (below_drewN (Below.refl _ _) nq) g0
        have x5 := up (below_drewN (Below.refl _ _) nq) x0
        clear g0 x0 hb5
        generalize wr.drewN nq = w5 at *
        have e1 : IntKind.i64.wrap (sg + gi) = sg + gi := IntWalk.i64_in _ (by omega)
        have e2 : IntKind.i64.wrap (sw + wi) = sw + wi := IntWalk.i64_in _ (by omega)
        clear q3 q4
        go_wp2_with fail
        go_quiet (fail)
        have HB6 := Lib.hid (below_drewN HB5.out nq)
        clear g5 x5 e1 e2 HB5 HBI
        generalize w5.drewN nq = w6 at *
        go_wp2_with fail
        go_loopw [14] (fun s14 wx => ∃ q : Nat, s14 = .int .i64 q ∧ q ≤ N' ∧ Below w3.heap.size w3 wx) (fun s14 _ => N' - (intOf s14).toNat)
        case atStart => exact ⟨0, rfl, Nat.zero_le _, HB6.out⟩
        case round =>
          clear HB6
          obtain ⟨q, rfl, hq, hb⟩ := hrel
          have HBI := Lib.hid hb
          by_cases hqn : q < N'
          · obtain ⟨gb2, gm2, g1', g2'⟩ := HG.out.mono hb
            have hge := g1' (by omega)
            have hge2 := Option.some.inj hge
            obtain ⟨rfl, rfl⟩ : gb2 = gb ∧ gm2 = gm := by
              injection hge2 with h1 h2
              exact ⟨h1.symm, h2.symm⟩
            have gi0 := g2' i hin
            have gq0 := g2' q hqn
            obtain ⟨wb2, wm2, w1', w2'⟩ := HW3.out.mono hb
            have hwe2 := Option.some.inj (w1' (by omega))
            obtain ⟨rfl, rfl⟩ : wb2 = wb ∧ wm2 = wm := by
              injection hwe2 with h1 h2
              exact ⟨h1.symm, h2.symm⟩
            have wi0 := w2' i hin
            rw [hgi] at gi0
            rw [hwi] at wi0
            obtain ⟨ub2, um2, r1, r2⟩ := HR3.out.mono hb
            obtain rfl := r1 (by omega)
            have ti0 := (r2 i hin).2.2.2
            have pi0 := (r2 i hin).1
            have tq0 := (r2 q hqn).2.2.2
            have pq0 := (r2 q hqn).1
            have hmi := HM.out i hin
            have hmq := HM.out q hqn
            have hy := HY.out q hqn
            have hgq := HGB.out q hqn
            have hwq := HWB.out q
            unfold BMade at hmi hmq
            have j1 : (0 : Int) ≤ (q : Int) := by omega
            have j2 : (q : Int) < (N' : Int) := by omega
            clear g1' g2' w1' w2' r1 r2 hb hge hge2 hwe2
            generalize T q = tq at *
            generalize T i = ti at *
            generalize G q = gq at *
            generalize P q = pq at *
            generalize P i = pi at *
            obtain ⟨mx, hmx⟩ : ∃ mx, (if 0 < tq then tq else 0) = mx := ⟨_, rfl⟩
            obtain ⟨mi, hmi2⟩ : ∃ mi, (if 0 < ti then ti else 0) = mi := ⟨_, rfl⟩
            obtain ⟨mn, hmn⟩ : ∃ mn, (if mi < wi then mi else wi) = mn := ⟨_, rfl⟩
            have f1 : max 0 tq = mx := by rw [← hmx]; split <;> omega
            have f2 : max 0 ti = mi := by rw [← hmi2]; split <;> omega
            have f3 : min wi mi = mn := by rw [← hmn]; split <;> omega
            rw [f1, f2, f3] at hy
            clear f1 f2 f3
            by_cases hbq : mx < gq
            · have d1 : decide (mx < gq) = true := decide_eq_true hbq
              obtain ⟨y1, y2⟩ := hy hbq
              have d2 : decide (gi < mn) = false := decide_eq_false (by omega)
              by_cases hpp : pi < pq
              · have y3 := y2 hpp
                have d3 : decide (pi < pq) = true := decide_eq_true hpp
                have d4 : decide (gi < wi) = false := decide_eq_false (by omega)
                clear hy y1 y2 y3
                go_wp2_with fail
                go_quiet (fail)
                have HB7 := Lib.hid (below_drewN HBI.out nq)
                have u1 := up (below_drewN (Below.refl _ _) nq) gi0
                have u2 := up (below_drewN (Below.refl _ _) nq) wi0
                have u3 := up (below_drewN (Below.refl _ _) nq) ti0
                have u4 := up (below_drewN (Below.refl _ _) nq) pi0
                have u5 := up (below_drewN (Below.refl _ _) nq) pq0
                clear gi0 wi0 ti0 pi0 pq0 gq0 tq0
                generalize wr.drewN nq = w7 at *
                go_wp2_with fail
                go_quiet (fail)
                clear u1 u2 u3 u4 u5
                go_wp2_with fail
                go_roundw
                case rel => exact ⟨q + 1, by go_num, by omega, below_drewN HB7.out nq⟩
                case measure => simp [intOf]; omega
              · have d3 : decide (pi < pq) = false := decide_eq_false hpp
                clear hy y1 y2
                go_wp2_with fail
                go_quiet (fail)
                have HB7 := Lib.hid (below_drewN HBI.out nq)
                have u1 := up (below_drewN (Below.refl _ _) nq) gi0
                have u2 := up (below_drewN (Below.refl _ _) nq) wi0
                have u3 := up (below_drewN (Below.refl _ _) nq) ti0
                have u4 := up (below_drewN (Below.refl _ _) nq) pi0
                have u5 := up (below_drewN (Below.refl _ _) nq) pq0
                clear gi0 wi0 ti0 pi0 pq0 gq0 tq0
                generalize wr.drewN nq = w7 at *
                go_wp2_with fail
                go_quiet (fail)
                clear u1 u2 u3 u4 u5
                go_wp2_with fail
                go_roundw
                case rel => exact ⟨q + 1, by go_num, by omega, below_drewN HB7.out nq⟩
                case measure => simp [intOf]; omega
            · have d1 : decide (mx < gq) = false := decide_eq_false hbq
              clear hy
              go_wp2_with fail
              go_quiet (fail)
              have HB7 := Lib.hid (below_drewN HBI.out nq)
              clear gi0 wi0 ti0 pi0 pq0 gq0 tq0
              generalize wr.drewN nq = w7 at *
              go_wp2_with fail
              go_quiet (fail)
              go_wp2_with fail
              go_roundw
              case rel => exact ⟨q + 1, by go_num, by omega, below_drewN HB7.out nq⟩
              case measure => simp [intOf]; omega
          · obtain rfl : q = N' := by omega
            clear hb
            go_wp2_with fail
            go_roundw
            case rel => exact ⟨i + 1, by go_num, by omega, by rw [HE1.out], by rw [HE2.out], HBI.out⟩
            case measure => simp [intOf]; omega
      · obtain rfl : i = N' := by omega
        have hgs := HGS.out
        generalize sumI G i = sg at *
        generalize sumI W' i = sw at *
        obtain ⟨mn, hmn⟩ : ∃ mn, (if sw < s then sw else s) = mn := ⟨_, rfl⟩
        have f1 : min s sw = mn := by rw [← hmn]; split <;> omega
        rw [f1] at hgs
        subst hgs
        have q5 : (sg == sg) = true := beq_self_eq_true _
        clear f1 hb
        go_wp2_with fail
        refine (awake10 _).mono ?_
        rintro e w7 ⟨rfl, hb⟩
        have HB7 := Lib.hid (bthen HB3.out (bthen HBI.out hb hsi) hs3)
        clear hb
        go_wp2
        go_ret
        exact ⟨rfl, HB7.out⟩
  · have hd : decide (n ≤ 300) = false := by simpa using h300
    go_enter Try.func3, Try.ntmps3
    go_wp2_with (first
      | (go_at_call 9; refine (light_any a n c _).mono ?_; rw [hd]; rintro e w' ⟨rfl, rfl⟩)
      | (go_at_call 10; refine (awake10 _).mono ?_; rintro e w' ⟨rfl, hb⟩))
    go_ret
    exact ⟨rfl, hb⟩
end Go.Proofs.Ytgcplboiodnfpaa
