/- Layer 25: the walk of PrioritySteps. -/
import Derived.Test.YtgcplboiodnfpaaL4
import Derived.Test.YtgcplboiodnfpaaP10
namespace Go.Proofs.Ytgcplboiodnfpaa
set_option linter.unusedVariables false
set_option linter.unusedSimpArgs false
open Go.RowKit Go.Sort
attribute [local go_sem] gcell

theorem g1_bd {W T : Nat → Int} {L : List Nat} {n : Nat} {s : Int} (hs : 0 ≤ s) (hW : ∀ i, 0 ≤ W i) (i : Nat) : 0 ≤ g1 W T L n s i ∧ g1 W T L n s i ≤ max (T i) 0 := by
  have h := gv_bd (L := L) hs (cap1_nn (T := T) hW) n i
  have : cap1 W T i ≤ max (T i) 0 := by unfold cap1; omega
  unfold g1
  omega
/-- A run between two steps. -/
structure Rn (w wr : World) (p g : Nat) (aa : Option Addr) (cap n kd B bb zb N : Nat) (xs P R M T W : Nat → Int) : Prop where
  bel : Below w.heap.size w wr
  bk : B4 wr bb N P R M T
  wt : VAt wr zb N (iv W)
  tb : ∀ k, k < N → (0 ≤ P k ∧ P k ≤ 3) ∧ (0 ≤ R k ∧ R k ≤ 29) ∧ (0 ≤ M k ∧ M k ≤ 89) ∧ -30 ≤ T k ∧ T k ≤ M k
  wb : ∀ k, k < N → 0 ≤ W k ∧ W k ≤ 89
  d : DiceAt wr p g aa cap n xs kd
  lt : w.heap.size ≤ p ∧ p < B ∧ g < B ∧ B ≤ bb ∧ B ≤ zb ∧ bb ≠ zb
theorem Rn.mono {w wr w' : World} {p g : Nat} {aa : Option Addr} {cap n kd B bb zb N : Nat} {xs P R M T W : Nat → Int} (S : Rn w wr p g aa cap n kd B bb zb N xs P R M T W) (hb : Below wr.heap.size wr w') : Rn w w' p g aa cap n kd B bb zb N xs P R M T W :=
  ⟨bthen S.bel hb S.bel.size, S.bk.mono hb, S.wt.mono hb, S.tb, S.wb, S.d.mono hb, S.lt⟩
theorem Rn.dice {w wr w' : World} {p g : Nat} {aa : Option Addr} {cap n kd kd' B bb zb N : Nat} {xs P R M T W : Nat → Int} (S : Rn w wr p g aa cap n kd B bb zb N xs P R M T W) (hd : DiceAt w' p g aa cap n xs kd') (hO : OnlyP wr w' p) : Rn w w' p g aa cap n kd' B bb zb N xs P R M T W :=
  ⟨S.bel.trans (only_below hO S.lt.1 S.bel.size), VAt.grown S.bk hO (by have := S.lt; omega), S.wt.grown hO (by have := S.lt; omega), S.tb, S.wb, hd, S.lt⟩

set_option maxRecDepth 100000 in
set_option maxHeartbeats 8000000 in
theorem steps6 (a : Option Addr) (b m n c : Nat) (xs : Nat → Int) (w : World) (L : ListIn w a b m n c xs) (hn : n ≤ 140737488351232) :
    Calls Try.prog 6 #[.slice a n c] w fun e w' => e = .returned (.bool true) ∧ Below w.heap.size w w' := by
  have HL := Lib.hid L
  clear L
  by_cases h300 : n ≤ 300
  · have hd : decide (n ≤ 300) = true := by simpa using h300
    go_enter Try.func6, Try.ntmps6
    go_wp2_with fail
    refine (light_any a n c _).mono ?_
    rw [hd]
    rintro e w' ⟨rfl, rfl⟩
    go_wp2_with fail
    refine (roll_any _ a b m n c xs h300 HL.out.hc HL.out.h0 HL.out.ha HL.out.hx).mono ?_
    rintro e w0 ⟨p, g, aa, cap, rfl, hD, hp, hB⟩
    have HB0 := Lib.hid hB
    have HD0 := Lib.hid hD
    have lp := lt_of_cell hD.c0
    have lg := hD.gl
    clear hB hD hd
    go_wp2_with fail
    refine (buckets11 p g aa cap n xs 0 _ h300 (Nat.zero_le _) HD0.out).mono ?_
    rintro e w1 ⟨N, u, v, kd, P, R, M, T, W, rfl, hN, hU, hV, hA, hm, hD, hkd, hO⟩
    obtain ⟨ua, uc, ub, rfl, u1, u2, u3⟩ := own_cellsK hU
    obtain ⟨va, vc, vb', rfl, v1, v2, v3⟩ := own_cellsK (s := 1) (by simpa using hV)
    obtain ⟨rfl, u4, u5, u6⟩ := u2 (by omega)
    obtain ⟨rfl, v4, v5, v6⟩ := v2 (by omega)
    have hne : ub ≠ vb' := fun e => hA ub rfl (by rw [e]; rfl)
    have HS0 := Lib.hid (show Rn w' w1 p g aa cap n kd w0.heap.size ub vb' N xs P R M T W from
      ⟨HB0.out.trans (only_below hO hp HB0.out.size), ⟨u3, u6, u5⟩, ⟨fun j hj => v3 j (by omega), v6, v5⟩, fun k hk => ⟨(hm k hk).1, (hm k hk).2.1, (hm k hk).2.2.1, (hm k hk).2.2.2.1.1, (hm k hk).2.2.2.1.2⟩, fun k hk => ⟨(hm k hk).2.2.2.2.1, by have := (hm k hk).2.2.2.2.2; omega⟩, hD, ⟨hp, lp, lg, u4, v4, hne⟩⟩)
    clear hU hV hA hm hD hO u2 u3 u4 u5 u6 v2 v3 v4 v5 v6 hne HB0 HD0 lp lg
    generalize w0.heap.size = B0 at *
    go_wp2_with fail
    go_loopw [4, 6] (fun s4 s6 wx => ∃ (i kd bb c : Nat) (T W : Nat → Int), s6 = .int .i64 i ∧ i ≤ 20 ∧ kd ≤ n ∧ s4 = .slice (some ⟨bb, 0, none⟩) N c ∧ Rn w' wx p g aa cap n kd B0 bb vb' N xs P R M T W) (fun _ s6 _ => 20 - (intOf s6).toNat)
    case atStart => exact ⟨0, kd, ub, uc, T, W, rfl, by omega, hkd, rfl, HS0.out⟩
    case round =>
      clear HS0
      obtain ⟨i, kd, bb, c', T, W, rfl, hi, hkd, rfl, hS⟩ := hrel
      have HS := Lib.hid hS
      have hsr := hS.bel.size
      clear hS
      by_cases hlt : i < 20
      · have d0 : decide (i < 20) = true := decide_eq_true hlt
        have i2 : (i : Int) < 20 := by omega
        go_wp2_with fail
        refine (dice_rest p g aa cap n xs kd _ hkd h300 HS.out.d).mono ?_
        rintro e w2 ⟨rfl, q, rfl⟩
        have HS2 := Lib.hid (HS.out.mono (below_drewN (Below.refl _ _) q))
        have hs2 := HS2.out.bel.size
        clear HS
        generalize wr.drewN q = w2 at *
        by_cases hkn : kd < n
        · have hpos : (0 : Int) < (n : Int) - kd := by omega
          go_wp2_with fail
          refine (dice_next p g aa cap n xs kd 120 _ (by omega) h300 HS2.out.d).mono ?_
          have bv := dval_bd xs n kd 120 (by omega)
          have lk : dnext n kd ≤ n := dnext_le hkd
          generalize dval xs n kd 120 = s at *
          generalize dnext n kd = k1 at *
          rintro e w3 ⟨rfl, hD, hO⟩
          have hS3 := HS2.out.dice hD hO
          have HS3 := Lib.hid hS3
          have hs3 := hS3.bel.size
          clear hD hO HS2
          have K1 := Lib.hid (agree15 (some ⟨bb, 0, none⟩) N c' (some ⟨vb', 0, none⟩) N vc P R M T W s w3 (by omega) (by omega) (fun h => by simp at h) hS3.bk.r4 hS3.wt.row)
          clear hS3
          go_wp2_with fail
          refine K1.out.mono ?_
          rintro e w4 ⟨rfl, hb⟩
          have hS4 := HS3.out.mono hb
          have HS4 := Lib.hid hS4
          have hs4 := hS4.bel.size
          have hok : okB N P R M T = true := okB_mk (by omega) fun k hk => by
            have := hS4.tb k hk
            unfold vb btw
            simp
            omega
          have hWr : Row w4 (some ⟨vb', 0, none⟩) N (fun k => if k < N then W k else 0) := hS4.wt.row.congr rfl fun k hk => (if_pos hk).symm
          have hW0 : ∀ k, 0 ≤ (fun k => if k < N then W k else 0) k := fun k => by
            show 0 ≤ (if k < N then W k else 0)
            split
            · rename_i h; exact (hS4.wb k h).1
            · omega
          have hE : eS N N true (fun k => if k < N then W k else 0) s = 0 := by
            unfold eS
            rw [if_neg (by simp), if_neg (by simp), if_neg]
            rw [btw_true.2 (by omega), anyB_false.2]
            · simp
            · intro k hk
              unfold badW
              simp only [if_pos hk]
              rw [btw_true.2 (by have := hS4.wb k hk; omega)]
              rfl
          have K2 := share18 (some ⟨bb, 0, none⟩) N c' (some ⟨vb', 0, none⟩) N vc P R M T (fun k => if k < N then W k else 0) s w4 (by omega) (by omega) (fun h => by simp at h) hS4.bk.r4 hWr (fun k hk => if_neg (by omega))
          unfold ShareR at K2
          rw [hok, hE] at K2
          have HK2 := Lib.hid K2
          have hg := fun k => g1_bd (W := fun k => if k < N then W k else 0) (T := T) (L := ordP P N 16) (n := N) bv.1 hW0 k
          generalize g1 (fun k => if k < N then W k else 0) T (ordP P N 16) N s = G at *
          have HG := Lib.hid hg
          clear hb K1 HS3 hS4 hok hWr hW0 hE K2 hg
          go_wp2_with fail
          refine HK2.out.mono ?_
          rintro e w5 ⟨N', a1, a2, c1, c2, rfl, hN', hc1, hA1, hR1, hG1, hb⟩
          obtain rfl : N' = N := hN'
          have hS5 := HS4.out.mono hb
          have HS5 := Lib.hid hS5
          have hs5 := hS5.bel.size
          have hok : okB N' P R M (fun i => T i - G i) = true := okB_mk (by omega) fun k hk => by
            have := hS5.tb k hk
            have := HG.out k
            unfold vb btw
            simp
            omega
          have K3 := Lib.hid (tick19f a1 N' c1 P R M (fun i => T i - G i) w5 (by omega) hA1 hR1 hok (by omega))
          clear hb HK2 HS4 hS5 hok hR1 hG1 hA1
          go_wp2_with fail
          refine K3.out.mono ?_
          rintro e w6 ⟨c3, b3, rfl, hb3, hB3, hb⟩
          have hS6 := HS5.out.mono hb
          have lvz := HS5.out.wt.lt
          have lbb := HS5.out.lt
          have HS6 := Lib.hid (show Rn w' w6 p g aa cap n k1 B0 b3 vb' N' xs P R M (tk R M fun i => T i - G i) W from
            ⟨hS6.bel, hB3, hS6.wt, fun k hk => by
              obtain ⟨h1, h2, h3, h4, h5⟩ := hS6.tb k hk
              have := HG.out k
              refine ⟨h1, h2, h3, ?_⟩
              show -30 ≤ min (T k - G k + R k) (M k) ∧ min (T k - G k + R k) (M k) ≤ M k
              omega, hS6.wb, hS6.d, ⟨lbb.1, lbb.2.1, lbb.2.2.1, by omega, lbb.2.2.2.2.1, by omega⟩⟩)
          have hs6 := HS6.out.bel.size
          clear hb K3 HS5 hS6 hB3 lvz lbb HG
          generalize (tk R M fun i => T i - G i) = T2 at *
          have bN := dval_bd xs n k1 N' (by omega)
          have lk2 : dnext n k1 ≤ n := dnext_le lk
          have KA := Lib.hid fun W5 (D : DiceAt W5 p g aa cap n xs k1) => dice_next p g aa cap n xs k1 (N' : Int) W5 (by omega) h300 D
          generalize dval xs n k1 N' = y at *
          generalize dnext n k1 = k2 at *
          have b90 := dval_bd xs n k2 90 (by omega)
          have lk3 : dnext n k2 ≤ n := dnext_le lk2
          have KB := Lib.hid fun W5 (D : DiceAt W5 p g aa cap n xs k2) => dice_next p g aa cap n xs k2 90 W5 (by omega) h300 D
          generalize dval xs n k2 90 = z at *
          generalize dnext n k2 = k3 at *
          obtain ⟨Y, rfl⟩ : ∃ Y : Nat, y = Y := ⟨y.toNat, by omega⟩
          go_wp2_with fail
          refine (KA.out _ HS6.out.d).mono ?_
          rintro e w7 ⟨rfl, hD, hO⟩
          have HS7 := Lib.hid (HS6.out.dice hD hO)
          clear hD hO HS6 KA
          go_wp2_with fail
          refine (KB.out _ HS7.out.d).mono ?_
          rintro e w8 ⟨rfl, hD, hO⟩
          have hS8 := HS7.out.dice hD hO
          have HS8 := Lib.hid hS8
          have hs8 := hS8.bel.size
          have y0 := hS8.wt.c Y (by omega)
          have yf := hS8.wt.fr Y
          have lz := hS8.lt
          have HS9 := Lib.hid (show Rn w' (w8.setCell ⟨vb', Y, none⟩ (.int .i64 z)) p g aa cap n k3 B0 b3 vb' N' xs P R M T2 (putI W Y z) from
            ⟨hS8.bel.setCell (p := ⟨vb', Y, none⟩) (show w'.heap.size ≤ vb' by omega) _, VAt.far hS8.bk (Ne.symm lz.2.2.2.2.2), hS8.wt.setI Y z, hS8.tb, fun k hk => by
              unfold putI
              split
              · omega
              · exact hS8.wb k hk, hS8.d.low ((Below.refl B0 w8).setCell (p := ⟨vb', Y, none⟩) lz.2.2.2.2.1 _) lz.2.1 lz.2.2.1, lz⟩)
          unfold iv at y0
          have j1 : (0 : Int) ≤ (Y : Int) := by omega
          have j2 : (Y : Int) < (N' : Int) := by omega
          clear hD hO HS7 KB hS8 HS8
          go_wp2_with fail
          go_roundw
          case rel => exact ⟨i + 1, k3, b3, c3, T2, _, by go_num, by omega, lk3, rfl, HS9.out⟩
          case measure => simp [intOf]; omega
        · have hpos : ¬ (0 : Int) < (n : Int) - kd := by omega
          go_wp2_with fail
          refine (awake10 _).mono ?_
          rintro e w3 ⟨rfl, hb⟩
          have HB3 := Lib.hid (bthen HS2.out.bel hb hs2)
          clear hb
          go_wp2
          go_ret
          exact ⟨rfl, HB3.out⟩
      · have d0 : decide (i < 20) = false := decide_eq_false hlt
        have i2 : ¬ (i : Int) < 20 := by omega
        go_wp2_with fail
        refine (awake10 _).mono ?_
        rintro e w3 ⟨rfl, hb⟩
        have HB3 := Lib.hid (bthen HS.out.bel hb hsr)
        clear hb
        go_wp2
        go_ret
        exact ⟨rfl, HB3.out⟩
  · have hd : decide (n ≤ 300) = false := by simpa using h300
    go_enter Try.func6, Try.ntmps6
    go_wp2_with (first
      | (go_at_call 9; refine (light_any a n c _).mono ?_; rw [hd]; rintro e w' ⟨rfl, rfl⟩)
      | (go_at_call 10; refine (awake10 _).mono ?_; rintro e w' ⟨rfl, hb⟩))
    go_ret
    exact ⟨rfl, hb⟩
end Go.Proofs.Ytgcplboiodnfpaa
