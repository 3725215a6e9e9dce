/- Layer 37: the walk of MeasureHolds. -/
import Derived.Test.YtbhldnfldkjoiaaP5
import Derived.Test.YtbhldnfldkjoiaaL4
import Derived.Test.YtbhldnfldkjoiaaMArgs
import Derived.Deep.DeepCutAuto
import Derived.Deep.RegionHeld3
namespace Go.Proofs.Ytbhldnfldkjoiaa
set_option linter.unusedVariables false
set_option linter.unusedSimpArgs false
open Go.RowKit Go.Sort
attribute [local go_sem] gcell

/-- Behind a step of the program: its error and its measurement. -/
def After (w wx : World) (p g : Nat) (aa : Option Addr) (cap n0 : Nat) (xs : Nat → Int) (zR zS zQ : Nat) (mg bk hd : Int) (a d : Option Addr) (c l : Nat) (fs hs qs : Nat → Int) (s9 s10 : Value) : Prop :=
  ∃ (zX k' : Nat) (a' d' : Option Addr) (c' l' : Nat) (y : Nat → Int), s9 = .pointer (some ⟨zX, 0, none⟩) ∧ s10 = .int .i64 0 ∧ k' ≤ n0 ∧ (∀ j, j < 3 → 0 ≤ y j ∧ y j ≤ 15) ∧ RM w wx p g aa cap n0 xs k' zR zS zQ mg bk hd a d 3 c l fs hs qs ∧
    Sx wx zX a' d' 3 c' 3 l' (f1 fs y) (held (f1 fs y) 1 mg bk hs) ∧ Off [p, zS, zQ] (sv a' d' 3 c' 3 l')

set_option maxRecDepth 100000 in
set_option maxHeartbeats 20000000 in
theorem holds6 (a : Option Addr) (b m n c : Nat) (xs : Nat → Int) (w : World) (L : ListIn w a b m n c xs) (hn : n ≤ 140737488351232) :
    Calls Try.prog 6 #[.slice a n c] w fun e w' => e = .returned (.bool true) ∧ Below w.heap.size w w' := by
  have HL := Lib.hid L
  clear L
  by_cases h300 : n ≤ 300
  · have hd : decide (n ≤ 300) = true := by simpa using h300
    go_enter Try.func6, Try.ntmps6
    go_wp2_with fail
    refine (light_any a n c _).mono ?_
    rw [hd]
    rintro e w' ⟨rfl, rfl⟩
    go_wp2_with fail
    refine (roll_any _ a b m n c xs h300 HL.out.hc HL.out.h0 HL.out.ha HL.out.hx).mono ?_
    rintro e w1 ⟨p, g, aa, cap, rfl, hD, hp, hB⟩
    have HB1 := Lib.hid hB
    have HD1 := Lib.hid hD
    clear hB hD
    go_wp2_with fail
    refine (dice_next p g aa cap n xs 0 6 _ (by omega) h300 HD1.out).mono ?_
    have bv1 := dval_bd xs n 0 6 (by omega)
    generalize dval xs n 0 6 = v1 at *
    obtain ⟨k1, hk1⟩ : ∃ j, dnext n 0 = j := ⟨_, rfl⟩
    have lk1 : k1 ≤ n := hk1 ▸ dnext_le (by omega)
    rw [hk1]
    clear hk1
    rintro e w2 ⟨rfl, hD, hO⟩
    have HB2 := Lib.hid (HB1.out.trans (only_below hO hp HB1.out.size))
    have HD2 := Lib.hid hD
    clear hD hO HB1 HD1
    go_wp2_with fail
    refine (dice_next p g aa cap n xs k1 4 _ (by omega) h300 HD2.out).mono ?_
    have bv2 := dval_bd xs n k1 4 (by omega)
    generalize dval xs n k1 4 = v2 at *
    obtain ⟨k2, hk2⟩ : ∃ j, dnext n k1 = j := ⟨_, rfl⟩
    have lk2 : k2 ≤ n := hk2 ▸ dnext_le (by omega)
    rw [hk2]
    clear hk2
    rintro e w3 ⟨rfl, hD, hO⟩
    have HB3 := Lib.hid (HB2.out.trans (only_below hO hp HB2.out.size))
    have HD3 := Lib.hid hD
    clear hD hO HB2 HD2
    go_wp2_with fail
    refine (dice_next p g aa cap n xs k2 5 _ (by omega) h300 HD3.out).mono ?_
    have bv3 := dval_bd xs n k2 5 (by omega)
    generalize dval xs n k2 5 = v3 at *
    obtain ⟨k3, hk3⟩ : ∃ j, dnext n k2 = j := ⟨_, rfl⟩
    have lk3 : k3 ≤ n := hk3 ▸ dnext_le (by omega)
    rw [hk3]
    clear hk3
    rintro e w4 ⟨rfl, hD, hO⟩
    have HB4 := Lib.hid (HB3.out.trans (only_below hO hp HB3.out.size))
    have HD4 := Lib.hid hD
    clear hD hO HB3 HD3
    have lp := lt_of_cell HD4.out.c0
    have lg := HD4.out.gl
    have zz4 := HB4.out.size
    have R4 := Lib.hid (Rb.new w4 v1 v2 (1 + v3))
    have HBa := Lib.hid (HB4.out.alloc zz4 (.cells #[.int .i64 v1, .int .i64 v2, .int .i64 (1 + v3)] 23))
    have HDa := Lib.hid (HD4.out.alloc (.cells #[.int .i64 v1, .int .i64 v2, .int .i64 (1 + v3)] 23))
    have k10 := new9L 3
    rw [show newN 3 = 3 from rfl, show newE 3 = 0 from rfl] at k10
    have K10 := Lib.hid k10
    clear k10 HB4 HD4
    go_wp2_with (go_at_call 9; refine (K10.out _).mono ?_)
    intro e w6 h
    obtain ⟨v, rfl, s6, hb, hf⟩ := h
    have S6 := s6
    obtain ⟨a1, d1, c1, l1, rfl, _⟩ := s6
    have hA := below_alloc w6 (.cells #[.slice a1 3 c1, .slice d1 3 l1] 26)
    have hA2 := below_alloc (w6.alloc (.cells #[.slice a1 3 c1, .slice d1 3 l1] 26)) (.cells #[.int .i64 0, .int .i64 0, .int .i64 0] 41)
    have z65 := hb.size
    simp at z65
    have hB6 := bthen HBa.out hb HBa.out.size
    have z6 := hB6.size
    have hRM : RM w' ((w6.alloc (.cells #[.slice a1 3 c1, .slice d1 3 l1] 26)).alloc (.cells #[.int .i64 0, .int .i64 0, .int .i64 0] 41)) p g aa cap n xs k3 w4.heap.size w6.heap.size (w6.heap.size + 1) v1 v2 (1 + v3) a1 d1 3 c1 l1 zz zz zz := by
      refine ⟨((HDa.out.mono hb).alloc _).alloc _, ((R4.out.mono hb).mono hA).mono hA2, (Sx.new S6 rfl).mono hA2, hf.off' S6 fun b hb => ?_, ⟨fun k hk => ?_, fun k => ?_, by simp⟩, (hB6.alloc z6 _).alloc (by simp; omega) _, ⟨hp, z6, by omega⟩, by omega⟩
      · simp at hb ⊢; omega
      · match k, hk with
        | 0, _ => simp [go_sem, zz]
        | 1, _ => simp [go_sem, zz]
        | 2, _ => simp [go_sem, zz]
      · simp [go_sem]
    have HRM0 := Lib.hid hRM
    clear hRM hA hA2 hB6 hb hf S6 HBa HDa R4 z65
    unfold sv
    go_wp2_with fail
    generalize w4.heap.size = zR at *
    generalize hzS : w6.heap.size = zS at *
    generalize hzQ : zS + 1 = zQ at *
    clear hzS hzQ
    go_loopw [8] (fun s8 wr => ∃ (t k : Nat) (a d : Option Addr) (c l : Nat) (fs hs qs : Nat → Int), s8 = .int .i64 t ∧ t ≤ 50 ∧ k ≤ n ∧ RM w' wr p g aa cap n xs k zR zS zQ v1 v2 (1 + v3) a d 3 c l fs hs qs ∧ ∀ j, j < 3 → (0 ≤ fs j ∧ fs j ≤ 240) ∧ (0 ≤ hs j ∧ hs j ≤ t) ∧ qs j = hs j) (fun s8 _ => 50 - (intOf s8).toNat)
    case atStart => exact ⟨0, k3, _, _, _, _, _, _, _, rfl, by omega, lk3, HRM0.out, fun j hj => ⟨⟨by simp [zz], by simp [zz]⟩, ⟨by simp [zz], by simp [zz]⟩, rfl⟩⟩
    case round =>
      clear HRM0
      obtain ⟨t, k, a2, d2, c2, l2, fs, hs, qs, rfl, ht, hk, hS, hG⟩ := hrel
      have HS := Lib.hid hS
      have HG := Lib.hid hG
      clear hS hG
      by_cases hT : t < 50
      · by_cases hlt : k < n
        · have hgt : (0 : Int) < (n : Int) - k := by omega
          go_wp2_with fail
          refine (dice_rest p g aa cap n xs k _ hk h300 HS.out.D).mono ?_
          rintro e w7 ⟨rfl, q, rfl⟩
          have HS1 := Lib.hid (HS.out.mono (below_drewN (Below.refl _ _) q))
          clear HS
          go_upto_region 10 with fail
          generalize hW : wr.drewN q = W at *
          clear hW
          go_cut [9, 10] (fun s9 s10 wx => After w' wx p g aa cap n xs zR zS zQ v1 v2 (1 + v3) a2 d2 c2 l2 fs hs qs s9 s10)
          case first =>
            have hS := HS1.out
            have r0 := hS.R.r0
            have r1 := hS.R.r1
            have r2 := hS.R.r2
            have c0 := hS.S.b.c0
            have c1' := hS.S.b.c1
            have HS := Lib.hid (hS.mono (Below.refl _ _).drew)
            have HS0 := Lib.hid hS
            have lt1 := lt_of_cell r0
            have lt2 := lt_of_cell c0
            obtain ⟨Y, hY⟩ : ∃ Y : Nat → Int, (fun j : Nat => if j = 0 then dval xs n k 16 else if j = 1 then dval xs n (dnext n k) 16 else dval xs n (dnext n (dnext n k)) 16) = Y := ⟨_, rfl⟩
            have hYb : ∀ j, j < 3 → 0 ≤ Y j ∧ Y j ≤ 15 := fun j hj => by
              have y1 := dval_bd xs n k 16 (by omega)
              have y2 := dval_bd xs n (dnext n k) 16 (by omega)
              have y3 := dval_bd xs n (dnext n (dnext n k)) 16 (by omega)
              rw [← hY]
              match j, hj with
              | 0, _ => simp; omega
              | 1, _ => simp; omega
              | 2, _ => simp; omega
            have hck : chk v1 v2 (1 + v3) 3 3 fs hs = 0 := chk_good (by omega) (by omega) (by omega) (fun j hj => (HG.out j hj).1) (fun j hj => by have := (HG.out j hj).2.1; omega)
            have hst := step_good hck hYb
            have k18 : ∀ (x : Option Addr) (W : World), Sg W (sv a2 d2 3 c2 3 l2) 3 3 fs hs → Row W x 3 Y → Calls Try.prog 18 #[rv v1 v2 (1 + v3), sv a2 d2 3 c2 3 l2, .int .i64 1, .slice x 3 3] W (SRL (Fr W.heap.size) 3 3 (f1 fs Y) (held (f1 fs Y) 1 v1 v2 hs) 0 W) := fun x W S RQ => by
              have h := step18L v1 v2 (1 + v3) 1 (sv a2 d2 3 c2 3 l2) x 3 3 3 3 fs hs Y W S RQ (by omega) (by omega) (by omega)
              have e1 : stepF v1 v2 (1 + v3) 3 3 fs hs 1 3 Y = f1 fs Y := by unfold stepF; rw [hst, if_pos rfl]
              have e2 : stepH v1 v2 (1 + v3) 3 3 fs hs 1 3 Y = held (f1 fs Y) 1 v1 v2 hs := by unfold stepH; rw [hst, if_pos rfl]; rfl
              rw [hst, e1, e2] at h
              exact h
            have K18 := Lib.hid k18
            have HYB := Lib.hid hYb
            have HY := Lib.hid hY
            unfold rv sv at K18
            clear hS HS1 hY hYb hck hst k18
            go_region_held3 (fun w' => w'.cell? ⟨zR, 0, none⟩ = some (.int .i64 v1) ∧ w'.cell? ⟨zR, 1, none⟩ = some (.int .i64 v2) ∧ w'.cell? ⟨zR, 2, none⟩ = some (.int .i64 (1 + v3)) ∧ w'.cell? ⟨zS, 0, none⟩ = some (.slice a2 3 c2) ∧ w'.cell? ⟨zS, 1, none⟩ = some (.slice d2 3 l2)) (first | (go_keep; done)   | exact ⟨HS.out.R.r0, HS.out.R.r1, HS.out.R.r2, HS.out.S.b.c0, HS.out.S.b.c1⟩   | exact ⟨(HS.out.mono (below_alloc _ _)).R.r0, (HS.out.mono (below_alloc _ _)).R.r1, (HS.out.mono (below_alloc _ _)).R.r2, (HS.out.mono (below_alloc _ _)).S.b.c0, (HS.out.mono (below_alloc _ _)).S.b.c1⟩   | exact ⟨((HS.out.mono (below_alloc _ _)).mono (below_alloc _ _)).R.r0, ((HS.out.mono (below_alloc _ _)).mono (below_alloc _ _)).R.r1, ((HS.out.mono (below_alloc _ _)).mono (below_alloc _ _)).R.r2, ((HS.out.mono (below_alloc _ _)).mono (below_alloc _ _)).S.b.c0, ((HS.out.mono (below_alloc _ _)).mono (below_alloc _ _)).S.b.c1⟩   | exact ⟨set2_other (lt_of_cell HS.out.R.r0) (HS.out.mono (below_alloc _ _)).R.r0, set2_other (lt_of_cell HS.out.R.r0) (HS.out.mono (below_alloc _ _)).R.r1, set2_other (lt_of_cell HS.out.R.r0) (HS.out.mono (below_alloc _ _)).R.r2, set2_other (lt_of_cell HS.out.S.b.c0) (HS.out.mono (below_alloc _ _)).S.b.c0, set2_other (lt_of_cell HS.out.S.b.c0) (HS.out.mono (below_alloc _ _)).S.b.c1⟩   | exact ⟨set2_other BXl.2.2.1 HS.out.R.r0, set2_other BXl.2.2.1 HS.out.R.r1, set2_other BXl.2.2.1 HS.out.R.r2, set2_other BXl.2.2.2.1 HS.out.S.b.c0, set2_other BXl.2.2.2.1 HS.out.S.b.c1⟩) ((first   | (go_at_call 15; (first       | ((with_reducible refine (dice_next p g aa cap n xs _ 16 _ (by omega) h300 HS.out.D).mono ?_); rintro e wq ⟨rfl, hD, hO⟩; (first | (have BXn := Lib.hid (BX.out.only0 hO (Nat.ne_of_gt BXl.1)); clear BX; have BX := BXn; clear BXn) | skip); have HSn := Lib.hid (HS.out.only hD hO); clear HS hD hO; have HS := HSn; clear HSn)       | ((with_reducible refine (dice_next p g aa cap n xs _ 16 _ (by omega) h300 (HS.out.D.alloc _)).mono ?_); rintro e wq ⟨rfl, hD, hO⟩; have BXl := HS.out.lts; have BX := Lib.hid ((Sx.new0 _ _ rfl).only0 hO (Nat.ne_of_gt BXl.1)); have HSn := Lib.hid ((HS.out.mono (below_alloc _ _)).only hD hO); clear HS hD hO; have HS := HSn; clear HSn) | ((with_reducible refine (dice_next p g aa cap n xs _ 16 _ (by omega) h300 (HS0.out.D.alloc _).drew).mono ?_); rintro e wq ⟨rfl, hD, hO⟩; have BXl := HS0.out.lts; have BX := Lib.hid (((Sx.new0 _ _ rfl).mono (Below.refl _ _).drew).only0 hO (Nat.ne_of_gt BXl.1)); have HSn := Lib.hid (((HS0.out.mono (below_alloc _ _)).mono (Below.refl _ _).drew).only hD hO); clear HS hD hO; have HS := HSn; clear HSn)))   | (go_at_call 18; refine (K18.out _ _ (by first | exact (HS.out.mono (below_alloc _ _)).S.b.s | exact ((HS.out.mono (below_alloc _ _)).mono (below_alloc _ _)).S.b.s) (HY.out ▸ row3 (x := dval xs n k 16) (y := dval xs n (dnext n k) 16) (z := dval xs n (dnext n (dnext n k)) 16) (by simp [go_sem]) (by simp [go_sem]) (by simp [go_sem]))).mono ?_; intro e w18 h; obtain ⟨v', rfl, s', hb, hf⟩ := h; have S' := s'; obtain ⟨a', d', c', l', rfl, _⟩ := s'; (first | (have BXn := Lib.hid ((BX.out.mono (below_alloc _ _)).mono hb); clear BX; have BX := BXn; clear BXn) | (have BX := Lib.hid (((Sx.new0 _ _ rfl).mono (below_alloc _ _)).mono hb); have BXl := HS.out.lts) | (have BX := Lib.hid ((Sx.new0 _ _ rfl).mono hb); have BXl := HS.out.lts2 (o := .cells #[.int .i64 0] 3); simp only [World.size_alloc] at BXl BX) | skip); have HOF := Lib.hid (hf.off (bs := [p, zS, zQ]) fun b hb => by have := HS.out.lts; simp at hb ⊢; omega); (first | (have HSn := Lib.hid ((HS.out.mono (below_alloc _ _)).mono hb); clear HS; have HS := HSn; clear HSn) | (have HSn := Lib.hid (((HS.out.mono (below_alloc _ _)).mono (below_alloc _ _)).mono hb); clear HS; have HS := HSn; clear HSn)); have HS' := Lib.hid S'; clear S' hb hf; (first | (have x0 := BX.out.b.c0; have x1 := BX.out.b.c1; have g0 := BX.out.f0; have g1 := BX.out.f1; try simp only [World.size_alloc] at x0 x1 g0 g1) | skip); unfold sv)))
            all_goals
              go_wp2_with fail
              go_meet
              first
                | exact ⟨_, _, _, _, _, _, Y, rfl, rfl, dnext_le (dnext_le (dnext_le hk)), HYB.out, HS.out.mono (below_alloc _ _), Sx.new HS'.out rfl, HOF.out⟩
                | exact ⟨_, _, _, _, _, _, Y, rfl, rfl, dnext_le (dnext_le (dnext_le hk)), HYB.out, HS.out.put2 BX.out BXl _ _, BX.out.put HS'.out, HOF.out⟩
          case rest =>
            clear HS1
            obtain ⟨zX, k', a3, d3, c3, l3, y, rfl, rfl, hk', hy, hrm, hx, hof⟩ := hcut
            have hF : ∀ j, j < 3 → 0 ≤ f1 fs y j ∧ f1 fs y j ≤ 240 := fun j hj => f1_bd (HG.out j hj).1 (hy j hj)
            have hH : ∀ j, j < 3 → 0 ≤ held (f1 fs y) 1 v1 v2 hs j ∧ held (f1 fs y) 1 v1 v2 hs j ≤ (t : Int) + 1 := fun j hj => held_bd (HG.out j hj).2.1 (by omega)
            have hck := chk_good (mg := v1) (bk := v2) (hd := 1 + v3) (fs := f1 fs y) (hs := held (f1 fs y) 1 v1 v2 hs) (by omega) (by omega) (by omega) hF (fun j hj => by have := hH j hj; omega)
            have hQ : ∀ j, j < 3 → held (f1 fs y) 1 v1 v2 hs j = cnt (f1 fs y) v1 v2 qs j := fun j hj => by
              have hg := HG.out j hj
              rw [cnt_held (by omega)]
              unfold cnt
              rw [hg.2.2]
            obtain ⟨H, eH⟩ : ∃ H, held (f1 fs y) 1 v1 v2 hs = H := ⟨_, rfl⟩
            rw [eH] at hx hH hck hQ
            generalize f1 fs y = F at *
            have HF := Lib.hid hF
            have HH := Lib.hid hH
            have HCK := Lib.hid hck
            have HQ := Lib.hid hQ
            have HS2 := Lib.hid (hrm.setS hx.b.s hof)
            have c0 := hx.b.c0
            have c1' := hx.b.c1
            have b0 := hrm.S.b.c0
            have b1 := hrm.S.b.c1
            have f0 := hrm.S.f0
            have f1' := hrm.S.f1
            clear hF hH hck hQ eH hrm hx hof hy
            go_wp2_with fail
            generalize hW2 : (wc.setCell ⟨zS, 0, none⟩ (.slice a3 3 c3)).setCell ⟨zS, 1, none⟩ (.slice d3 3 l3) = W2 at *
            clear hW2 c0 c1' b0 b1 f0 f1'
            go_loopw [11] (fun s11 wx => ∃ i : Nat, s11 = .int .i64 i ∧ i ≤ 3 ∧ RM w' wx p g aa cap n xs k' zR zS zQ v1 v2 (1 + v3) a3 d3 3 c3 l3 F H (upto i (cnt F v1 v2 qs) qs)) (fun s11 _ => 3 - (intOf s11).toNat)
            case atStart => exact ⟨0, rfl, by omega, HS2.out.congrQ fun j _ => if_neg (Nat.not_lt_zero _)⟩
            case round =>
              clear HS2
              obtain ⟨i, rfl, hi, hS⟩ := hrel
              have HS := Lib.hid hS
              by_cases hi3 : i < 3
              · obtain ⟨b, o, h1, h2⟩ := hS.S.b.s.rows1
                obtain rfl := h1 (by omega)
                have x := h2 i hi3
                have x1 := h2 1 (by omega)
                have c0 := hS.S.b.c0
                have r0 := hS.R.r0
                have r1 := hS.R.r1
                have q0 := hS.Q.c i hi3
                have q1 := hS.Q.f i
                rw [upto_at] at q0
                have hq := (HG.out i hi3).2
                have bx := HF.out i hi3
                have bo := HF.out 1 (by omega)
                obtain ⟨V, hV⟩ : ∃ V, V = cnt F v1 v2 qs i := ⟨_, rfl⟩
                have hv := hV
                unfold cnt at hv
                have HV := Lib.hid hV
                have n1 := hS.ne.1.2.2
                have n2 := hS.ne.2.1.2.1
                have n3 : b ≠ zQ := by
                  obtain ⟨_, _, _, _, _, _, e, o1, _⟩ := hS.O
                  unfold sv at e
                  simp at e
                  obtain ⟨⟨rfl, rfl, rfl⟩, rfl, rfl, rfl⟩ := e
                  have := o1 b o (by omega) rfl
                  simp at this
                  exact this.2.2
                have n4 := Ne.symm n1
                have n5 := Ne.symm n2
                have n6 := Ne.symm n3
                have bq : 0 ≤ qs i ∧ qs i ≤ 50 := by omega
                obtain ⟨Q, hQi⟩ : ∃ Q, qs i = Q := ⟨_, rfl⟩
                rw [hQi] at q0 bq hv
                have HQi := Lib.hid hQi
                clear hQi
                generalize F i = u at *
                generalize hy1 : F 1 = yy at *
                have HV2 := Lib.hid hv
                clear hS h1 h2 hV hv hq hy1
                have i1 : (0 : Int) ≤ (i : Int) := by omega
                have i2 : (i : Int) < 3 := by omega
                have e1 : IntKind.i64.wrap (v1 - v2) = v1 - v2 := IntWalk.i64_in _ (by omega)
                have e2 : IntKind.i64.wrap (16 * (v1 - v2)) = 16 * (v1 - v2) := IntWalk.i64_in _ (by omega)
                have e3 : IntKind.i64.wrap (yy + 16 * (v1 - v2)) = yy + 16 * (v1 - v2) := IntWalk.i64_in _ (by omega)
                have e4 : IntKind.i64.wrap (16 * v1) = 16 * v1 := IntWalk.i64_in _ (by omega)
                have e5 : IntKind.i64.wrap (yy + 16 * v1) = yy + 16 * v1 := IntWalk.i64_in _ (by omega)
                by_cases hj : i = 1
                · have k1 : ((i : Int) == 1) = true := by rw [hj]; rfl
                  have k2 : ((i : Int) != 1) = false := by rw [hj]; rfl
                  have hv : V = 0 := by rw [HV2.out, if_pos (.inl hj)]
                  have HS3 := Lib.hid fun q => ((HS.out.mono (below_drewN (Below.refl _ _) q)).setQ i 0).congrQ fun j _ => putN_upto (hv ▸ HV.out) j
                  clear hv hj
                  go_wp2_with fail
                  go_quiet (fail)
                  go_wp2_with fail
                  go_quiet (fail)
                  go_wp2_with fail
                  exact ⟨⟨i + 1, by simp, by omega, by first | exact (HS3.out _).mono (below_drewN (Below.refl _ _) _) | exact HS3.out _⟩, by simp [intOf]; omega⟩
                · have k1 : ((i : Int) == 1) = false := beq_eq_false_iff_ne.2 (by omega)
                  have k2 : ((i : Int) != 1) = true := by rw [bne_iff_ne]; omega
                  by_cases h2 : u ≤ yy + 16 * (v1 - v2)
                  · have hv : V = 0 := by rw [HV2.out, if_pos (.inr h2)]
                    have HS3 := Lib.hid fun q => ((HS.out.mono (below_drewN (Below.refl _ _) q)).setQ i 0).congrQ fun j _ => putN_upto (hv ▸ HV.out) j
                    have h3 : ¬ yy + 16 * v1 < u := by omega
                    clear hv
                    go_wp2_with fail
                    go_quiet (fail)
                    go_wp2_with fail
                    go_quiet (fail)
                    go_wp2_with fail
                    exact ⟨⟨i + 1, by simp, by omega, by first | exact (HS3.out _).mono (below_drewN (Below.refl _ _) _) | exact HS3.out _⟩, by simp [intOf]; omega⟩
                  · by_cases h3 : yy + 16 * v1 < u
                    · have hv : V = Q + 1 := by rw [HV2.out, if_neg (by omega), if_pos h3]
                      have HS3 := Lib.hid fun q => ((HS.out.mono (below_drewN (Below.refl _ _) q)).setQ i (Q + 1)).congrQ fun j _ => putN_upto (hv ▸ HV.out) j
                      clear hv
                      go_wp2_with fail
                      go_quiet (fail)
                      go_wp2_with fail
                      go_quiet (fail)
                      go_wp2_with fail
                      exact ⟨⟨i + 1, by simp, by omega, by first | exact (HS3.out _).mono (below_drewN (Below.refl _ _) _) | exact HS3.out _⟩, by simp [intOf]; omega⟩
                    · have hv : V = Q := by rw [HV2.out, if_neg (by omega), if_neg h3]
                      have HS3 := Lib.hid fun q => (HS.out.mono (below_drewN (Below.refl _ _) q)).congrQ fun j _ => keep_upto (HQi.out.trans (hv.symm.trans HV.out)) j
                      clear hv
                      go_wp2_with fail
                      go_quiet (fail)
                      go_wp2_with fail
                      go_quiet (fail)
                      go_wp2_with fail
                      exact ⟨⟨i + 1, by simp, by omega, by first | exact (HS3.out _).mono (below_drewN (Below.refl _ _) _) | exact HS3.out _⟩, by simp [intOf]; omega⟩
              · obtain rfl : i = 3 := by omega
                have hQ3 : ∀ j, j < 3 → upto 3 (cnt F v1 v2 qs) qs j = H j := fun j hj => by rw [upto_lt _ _ hj]; exact (HQ.out j hj).symm
                have hS3 := hS.congrQ (qs' := H) fun j hj => (hQ3 j hj).symm
                have HS3 := Lib.hid hS3
                have k19 := fun W S => report19 v1 v2 (1 + v3) 1 (sv a3 d3 3 c3 3 l3) 3 3 F H W S (by omega) (by omega)
                have b0 := (HH.out 0 (by omega)).1
                have b2 := (HH.out 2 (by omega)).1
                clear hS HS hQ3
                rcases rep_three HCK.out with ⟨hr, h1, h2⟩ | ⟨hr, h1⟩ | ⟨hr, h2⟩
                all_goals
                  rw [hr] at k19
                  have K19 := Lib.hid k19
                  unfold rv sv at K19
                  clear k19 hr
                  have r0 := hS3.R.r0
                  have r1 := hS3.R.r1
                  have r2 := hS3.R.r2
                  have c0 := hS3.S.b.c0
                  have c1' := hS3.S.b.c1
                  have lt1 := lt_of_cell r0
                  have lt2 := lt_of_cell c0
                  clear hS3
                  go_wp2_with fail
                  refine (K19.out _ HS3.out.S.b.s).mono ?_
                  rintro e w20 ⟨rfl, hb⟩
                  have hS4 := HS3.out.mono hb
                  have HS4 := Lib.hid hS4
                  clear r0 r1 r2 c0 c1' lt1 lt2 HS3 hb
                  have r2 := hS4.R.r2
                  have q0 := hS4.Q.c 0 (by omega)
                  have q2 := hS4.Q.c 2 (by omega)
                  have lt1 := lt_of_cell r2
                  have lt2 := lt_of_cell q0
                  have hgood : ∀ j, j < 3 → (0 ≤ F j ∧ F j ≤ 240) ∧ (0 ≤ H j ∧ H j ≤ ((t + 1 : Nat) : Int)) ∧ H j = H j := fun j hj => ⟨HF.out j hj, by have := HH.out j hj; omega, rfl⟩
                  have HGN := Lib.hid hgood
                  clear hS4 hgood
                  generalize H 0 = x0 at *
                  generalize H 2 = x2 at *
                  go_upto_region 22 with fail
                · have d1 : decide (1 + v3 ≤ x0) = false := by simp; omega
                  have d3 : decide (x0 < 1 + v3) = true := by simp; omega
                  have d2 : decide (1 + v3 ≤ x2) = false := by simp; omega
                  have d4 : decide (x2 < 1 + v3) = true := by simp; omega
                  go_quiet (fail)
                  go_wp2_with fail
                  exact ⟨⟨t + 1, k', _, _, _, _, _, _, _, by simp, by omega, hk', HS4.out.mono (below_drewN (Below.refl _ _) _), fun j hj => ⟨(HGN.out j hj).1, (HGN.out j hj).2.1, rfl⟩⟩, by simp [intOf]; omega⟩
                · have d1 : decide (1 + v3 ≤ x0) = true := by simpa using h1
                  have d3 : decide (x0 < 1 + v3) = false := by simp; omega
                  go_quiet (fail)
                  go_wp2_with fail
                  exact ⟨⟨t + 1, k', _, _, _, _, _, _, _, by simp, by omega, hk', HS4.out.mono (below_drewN (Below.refl _ _) _), fun j hj => ⟨(HGN.out j hj).1, (HGN.out j hj).2.1, rfl⟩⟩, by simp [intOf]; omega⟩
                · by_cases h0 : 1 + v3 ≤ x0
                  · have d1 : decide (1 + v3 ≤ x0) = true := by simpa using h0
                    have d3 : decide (x0 < 1 + v3) = false := by simp; omega
                    have d2 : decide (1 + v3 ≤ x2) = true := by simpa using h2
                    have d4 : decide (x2 < 1 + v3) = false := by simp; omega
                    go_quiet (fail)
                    go_wp2_with fail
                    exact ⟨⟨t + 1, k', _, _, _, _, _, _, _, by simp, by omega, hk', HS4.out.mono (below_drewN (Below.refl _ _) _), fun j hj => ⟨(HGN.out j hj).1, (HGN.out j hj).2.1, rfl⟩⟩, by simp [intOf]; omega⟩
                  · have d1 : decide (1 + v3 ≤ x0) = false := by simp; omega
                    have d3 : decide (x0 < 1 + v3) = true := by simp; omega
                    have d2 : decide (1 + v3 ≤ x2) = true := by simpa using h2
                    have d4 : decide (x2 < 1 + v3) = false := by simp; omega
                    go_quiet (fail)
                    go_wp2_with fail
                    exact ⟨⟨t + 1, k', _, _, _, _, _, _, _, by simp, by omega, hk', HS4.out.mono (below_drewN (Below.refl _ _) _), fun j hj => ⟨(HGN.out j hj).1, (HGN.out j hj).2.1, rfl⟩⟩, by simp [intOf]; omega⟩
        · have hgt : ¬ (0 : Int) < (n : Int) - k := by omega
          go_wp2_with fail
          refine (dice_rest p g aa cap n xs k _ hk h300 HS.out.D).mono ?_
          rintro e w7 ⟨rfl, q, rfl⟩
          have HB := Lib.hid (below_drewN HS.out.bel q)
          go_wp2_with fail
          refine (awake8 _).mono ?_
          rintro e w8 ⟨rfl, hb⟩
          have HB2 := Lib.hid (bthen HB.out hb HB.out.size)
          clear hb
          go_wp2
          go_ret
          exact ⟨rfl, HB2.out⟩
      · have HB := Lib.hid HS.out.bel
        go_wp2_with fail
        refine (awake8 _).mono ?_
        rintro e w8 ⟨rfl, hb⟩
        have HB2 := Lib.hid (bthen HB.out hb HB.out.size)
        clear hb
        go_wp2
        go_ret
        exact ⟨rfl, HB2.out⟩
  · have hd : decide (n ≤ 300) = false := by simpa using h300
    go_enter Try.func6, Try.ntmps6
    go_wp2_with (first
      | (go_at_call 13; refine (light_any a n c _).mono ?_; rw [hd]; rintro e w' ⟨rfl, rfl⟩)
      | (go_at_call 8; refine (awake8 _).mono ?_; rintro e w' ⟨rfl, hb⟩))
    go_ret
    exact ⟨rfl, hb⟩
end Go.Proofs.Ytbhldnfldkjoiaa
