/- Layer 35: the walk of SleepCosts. -/
import Derived.Test.YtjbokpejfifamaaP1
import Derived.Deep.DeepCutAuto
namespace Go.Proofs.Ytjbokpejfifamaa
open Go.RowKit Go.Sort
attribute [local go_sem] gcell
set_option linter.unusedVariables false

/-- A state in a variable. -/
structure Svar (w : World) (b : Nat) (x y : Int) : Prop where
  s0 : w.cell? ⟨b, 0, none⟩ = some (.int .i64 x)
  s1 : w.cell? ⟨b, 1, none⟩ = some (.int .i64 y)
  f : ∀ o, w.frozen? ⟨b, o, none⟩ = false
theorem Svar.mono {w w' : World} {b : Nat} {x y : Int} (S : Svar w b x y) (hb : Below w.heap.size w w') : Svar w' b x y :=
  ⟨up hb S.s0, up hb S.s1, fun o => upf hb (lt_of_cell S.s0) (S.f o)⟩
theorem Svar.far {w : World} {b q : Nat} {x y : Int} (S : Svar w b x y) (h : q ≠ b) (i : Nat) (v : Value) : Svar (w.setCell ⟨q, i, none⟩ v) b x y :=
  ⟨by rw [cell_set, if_neg (by simp [h])]; exact S.s0, by rw [cell_set, if_neg (by simp [h])]; exact S.s1, fun o => by rw [World.frozen?_setCell]; exact S.f o⟩
theorem Svar.set {w : World} {b : Nat} {x y : Int} (S : Svar w b x y) (x' y' : Int) : Svar ((w.setCell ⟨b, 0, none⟩ (.int .i64 x')).setCell ⟨b, 1, none⟩ (.int .i64 y')) b x' y' :=
  ⟨by simp [cell_set, S.s0], by simp [cell_set, S.s1], fun o => by simp [World.frozen?_setCell, S.f]⟩
theorem Rbox.far {w : World} {b q : Nat} {c o n l s h : Int} (R : Rbox w b c o n l s h) (hb : q ≠ b) (i : Nat) (v : Value) : Rbox (w.setCell ⟨q, i, none⟩ v) b c o n l s h := by
  refine ⟨?_, ?_, ?_, ?_, ?_, ?_⟩
  all_goals (rw [cell_set, if_neg (by simp [hb])]; first | exact R.r0 | exact R.r1 | exact R.r2 | exact R.r3 | exact R.r4 | exact R.r5)

/-- What lies in memory at a round's head: the rhythm, the full state, both states. -/
structure CW (w wr : World) (rb fb a b : Nat) (c o n l s h la ba lb bb : Int) : Prop where
  r : Rbox wr rb c o n l s h
  full : Svar wr fb (-1) 524288
  sa : Svar wr a la ba
  sb : Svar wr b lb bb
  bel : Below w.heap.size w wr
  ar : w.heap.size ≤ a ∧ a ≠ rb ∧ a ≠ fb ∧ a ≠ b
  br : w.heap.size ≤ b ∧ b ≠ rb ∧ b ≠ fb
theorem CW.mono {w wr w' : World} {rb fb a b : Nat} {c o n l s h la ba lb bb : Int} (C : CW w wr rb fb a b c o n l s h la ba lb bb) (hb : Below wr.heap.size wr w') : CW w w' rb fb a b c o n l s h la ba lb bb :=
  ⟨C.r.mono hb, C.full.mono hb, C.sa.mono hb, C.sb.mono hb, bthen C.bel hb C.bel.size, C.ar, C.br⟩
theorem CW.setA {w wr : World} {rb fb a b : Nat} {c o n l s h la ba lb bb : Int} (C : CW w wr rb fb a b c o n l s h la ba lb bb) (x y : Int) : CW w ((wr.setCell ⟨a, 0, none⟩ (.int .i64 x)).setCell ⟨a, 1, none⟩ (.int .i64 y)) rb fb a b c o n l s h x y lb bb :=
  ⟨(C.r.far C.ar.2.1 _ _).far C.ar.2.1 _ _, (C.full.far C.ar.2.2.1 _ _).far C.ar.2.2.1 _ _, C.sa.set x y, (C.sb.far C.ar.2.2.2 _ _).far C.ar.2.2.2 _ _, (C.bel.setCell C.ar.1 _).setCell C.ar.1 _, C.ar, C.br⟩
theorem CW.setB {w wr : World} {rb fb a b : Nat} {c o n l s h la ba lb bb : Int} (C : CW w wr rb fb a b c o n l s h la ba lb bb) (x y : Int) : CW w ((wr.setCell ⟨b, 0, none⟩ (.int .i64 x)).setCell ⟨b, 1, none⟩ (.int .i64 y)) rb fb a b c o n l s h la ba x y :=
  ⟨(C.r.far C.br.2.1 _ _).far C.br.2.1 _ _, (C.full.far C.br.2.2 _ _).far C.br.2.2 _ _, (C.sa.far (Ne.symm C.ar.2.2.2) _ _).far (Ne.symm C.ar.2.2.2) _ _, C.sb.set x y, (C.bel.setCell C.br.1 _).setCell C.br.1 _, C.ar, C.br⟩

/-- What the two copies leave. -/
def TwoCopies (w w0 : World) (rb fb : Nat) (c o n l s h : Int) (s12 s13 : Value) (wx : World) : Prop :=
  ∃ a b : Nat, s12 = .pointer (some ⟨a, 0, none⟩) ∧ s13 = .pointer (some ⟨b, 0, none⟩) ∧ CW w wx rb fb a b c o n l s h (-1) 524288 (-1) 524288

set_option maxRecDepth 100000 in
set_option maxHeartbeats 4000000 in
theorem costs7 (a : Option Addr) (b m n c : Nat) (xs : Nat → Int) (fr cy : Int) (ao : Option Addr) (gn gc gb gm : Nat) (gs : Nat → Bool) (w : World) (L : ListIn w a b m n c xs) (hn64 : n ≤ 140737488351232) (hg64 : gn ≤ 140737488351232) (f0 : 0 ≤ fr ∧ fr ≤ 65535) (c0 : 0 ≤ cy ∧ cy ≤ 255)
    (ha : 0 < gn → ao = some ⟨gb, gm, none⟩) (hgs : ∀ k, k < gn → w.cell? ⟨gb, gm + k, none⟩ = some (.bool (gs k))) :
    Calls Try.prog 7 #[.slice a n c, .int .u16 fr, .int .u8 cy, .slice ao gn gc] w fun e w' => e = .returned (.bool true) ∧ Below w.heap.size w w' := by
  have HL := Lib.hid L
  have HA := Lib.hid ha
  have HG := Lib.hid hgs
  clear L ha hgs
  by_cases h300 : n ≤ 300 ∧ gn ≤ 200
  · obtain ⟨h300, h200⟩ := h300
    have hd : decide (n ≤ 300) = true := by simpa using h300
    go_enter Try.func7, Try.ntmps7
    go_wp2_with fail
    refine (light_any a n c _).mono ?_
    rw [hd]
    rintro e w' ⟨rfl, rfl⟩
    go_wp2_with fail
    refine (roll_any _ a b m n c xs h300 HL.out.hc HL.out.h0 HL.out.ha HL.out.hx).mono ?_
    rintro e w1 ⟨p, g, aa, cap, rfl, hD, hp, hB⟩
    have HB := Lib.hid hB
    go_wp2_with fail
    refine (rhythm10 p g aa cap n xs 0 _ h300 hD).mono ?_
    rintro e w2 ⟨c', o, m', l, s, h, k, rfl, hr, hD2, hO⟩
    have hok := ok_of hr
    obtain ⟨C, rfl⟩ := Int.eq_ofNat_of_zero_le (show 0 ≤ c' by omega)
    obtain ⟨O, rfl⟩ := Int.eq_ofNat_of_zero_le (show 0 ≤ o by omega)
    obtain ⟨M, rfl⟩ := Int.eq_ofNat_of_zero_le (show 0 ≤ m' by omega)
    obtain ⟨F, rfl⟩ := Int.eq_ofNat_of_zero_le (show 0 ≤ fr by omega)
    have HOK := Lib.hid hok
    clear hok
    replace HB := Lib.hid (HB.out.trans (only_below hO hp (HB.out.size)))
    clear hD hD2 hO hB
    have hq : ∃ q : Nat, cy % 6 = q := ⟨(cy % 6).toNat, by omega⟩
    obtain ⟨q, hq⟩ := hq
    have hq6 : q < 6 := by omega
    have hR0 : Rbox (w2.alloc (.cells #[.int .i64 C, .int .i64 O, .int .i64 M, .int .i64 l, .int .i64 s, .int .i64 h] 27)) w2.heap.size C O M l s h := Rbox.new _ _ _ _ _ _ _ _
    have hR1 := hR0.mono ((Below.refl _ _).alloc (Nat.le_refl _) (.cells #[.int .i64 (-1), .int .i64 524288] 36))
    have HR := Lib.hid hR1
    have HB2 := Lib.hid ((HB.out.alloc HB.out.size (.cells #[.int .i64 C, .int .i64 O, .int .i64 M, .int .i64 l, .int .i64 s, .int .i64 h] 27)).alloc (by have := HB.out.size; simp; omega) (.cells #[.int .i64 (-1), .int .i64 524288] 36))
    clear hR0 hR1
    go_upto_region 6 with fail
    go_cut [12, 13] (fun s12 s13 wx => TwoCopies w' w2 w2.heap.size (w2.heap.size + 1) C O M l s h s12 s13 wx)
    case first =>
      go_region
      all_goals
        go_wp2_with fail
        go_meet
        refine ⟨_, _, rfl, rfl, ⟨HR.out.mono ((((Below.refl _ _).alloc (Nat.le_refl _) _).alloc (by simp) _).drew), ⟨by simp [go_sem], by simp [go_sem], fun o => by simp [go_sem]⟩, ⟨by simp [go_sem], by simp [go_sem], fun o => by simp [go_sem]⟩, ⟨by simp [go_sem], by simp [go_sem], fun o => by simp [go_sem]⟩, ((HB2.out.alloc HB2.out.size _).alloc (by have := HB2.out.size; simp at this ⊢; omega) _).drew, ?_, ?_⟩⟩
        all_goals (have := HB.out.size; omega)
    case rest =>
      obtain ⟨a1, b1, rfl, rfl, hC⟩ := hcut
      have HC := Lib.hid hC
      have HQ := Lib.hid hq
      have p1 : 0 ≤ cy % 6 * (C : Int) := Int.mul_nonneg (by omega) (by omega)
      have p2 : cy % 6 * (C : Int) ≤ 5 * 40 := Int.mul_le_mul (by omega) (by omega) (by omega) (by omega)
      clear hC hq HR HB2 HB
      go_wp2_with fail
      go_loopw [14] (fun t wr => ∃ (K : Nat) (ba lb bb : Int), t = .int .i64 K ∧ (K : Int) ≤ cy % 6 * (C : Int) ∧ CW w' wr w2.heap.size (w2.heap.size + 1) a1 b1 C O M l s h (-1) ba lb bb ∧ Bats C O M F K ba lb bb) (fun t _ => 1000 - (intOf t).toNat)
      case atStart => exact ⟨0, 524288, -1, 524288, rfl, by omega, HC.out, Bats.start _ _ _ _⟩
      case round =>
        clear HC
        obtain ⟨K, ba, lb, bb, rfl, hK, hC, hB⟩ := hrel
        have HC := Lib.hid hC
        have HB := Lib.hid hB
        have hba := hB.a
        have habd := acc_bd C M (F + C - O) K
        have hbb := hB.b
        have hb0 : ba ≤ 524288 ∧ 0 ≤ ba ∧ 0 ≤ bb := by have := hB.bl; omega
        clear hC hB hba habd
        have d0 := HC.out.r.r0
        have d1 := HC.out.r.r1
        have d2 := HC.out.r.r2
        have d3 := HC.out.r.r3
        have d4 := HC.out.r.r4
        have d5 := HC.out.r.r5
        have e0 := HC.out.sa.s0
        have e1 := HC.out.sa.s1
        by_cases hlt : (K : Int) < cy % 6 * (C : Int)
        · skip
          have HNX := Lib.hid (fun got => Bats.next (got := got) (l := l) (s := s) (h := h) HB.out (by omega) HOK.out (by omega) (by omega))
          have hx := (HNX.out true).1
          go_wp2_with fail
          refine (step17 _ _ _ _ _ _ _ _ _ _ _ (by omega)).mono ?_
          rw [hx]
          generalize hA : stepS ⟨C, O, M, l, s, h⟩ (-1) ba (F + K) false = sA at *
          clear hx
          have HSA := Lib.hid hA
          clear hA
          rintro e w3 ⟨rfl, hb3⟩
          have HC3 := Lib.hid (HC.out.mono hb3)
          clear hb3 d0 d1 d2 d3 d4 d5 e0 e1
          have e0 := HC3.out.sa.s0
          have e1 := HC3.out.sa.s1
          have ef := HC3.out.sa.f
          go_wp2_with fail
          have hC4 := HC3.out.setA (-1) sA.2
          generalize (w3.setCell ⟨a1, 0, none⟩ (.int .i64 (-1))).setCell ⟨a1, 1, none⟩ (.int .i64 sA.2) = w4 at *
          have HC4 := Lib.hid hC4
          clear hC4 e0 e1 ef
          have d0 := HC4.out.r.r0
          have d1 := HC4.out.r.r1
          have d2 := HC4.out.r.r2
          have d3 := HC4.out.r.r3
          have d4 := HC4.out.r.r4
          have d5 := HC4.out.r.r5
          have e0 := HC4.out.sb.s0
          have e1 := HC4.out.sb.s1
          have lt0 := lt_of_cell d0
          have lt1 := lt_of_cell e0
          have i1 : (0 : Int) ≤ (K : Int) := by omega
          by_cases hg : K < gn
          · obtain rfl := HA.out (by omega)
            have cg : w4.cell? ⟨gb, gm + K, none⟩ = some (.bool (gs K)) := up HC4.out.bel (HG.out K hg)
            have lt2 := lt_of_cell cg
            have i2 : (K : Int) < (gn : Int) := by omega
            have dg : decide ((K : Int) < (gn : Int)) = true := by simpa using i2
            have dg2 : decide (K < gn) = true := by simpa using hg
            go_wp2_with fail
            refine wp_region_grown_tail 17 (by kernel_rfl) (by kernel_rfl) ?_
            simp only [List.take_succ_cons, List.take_zero, List.drop_succ_cons, List.drop_zero]
            repeat (go_big_quiet_step ((go_at_call 17; exact Calls.regrown_of (step17 _ _ _ _ _ _ _ _ _ _ _ (by omega)))))
            refine wpQuiet_nil ?_
            intro w5 hw5
            have hN := (HNX.out (gs K)).2
            generalize stepS ⟨C, O, M, l, s, h⟩ lb bb (F + K) (gs K) = sB at *
            have HN := Lib.hid hN
            have HC5 := Lib.hid (HC4.out.mono (below_of_regrown hw5))
            clear hw5 d0 d1 d2 d3 d4 d5 e0 e1 lt0 lt1 cg lt2 hN
            have e0 := HC5.out.sb.s0
            have e1 := HC5.out.sb.s1
            have ef := HC5.out.sb.f
            go_wp2
            go_roundw
            case rel => exact ⟨K + 1, sA.2, sB.1, sB.2, by go_num, by omega, HC5.out.setB _ _, HN.out⟩
            case measure => simp [intOf] <;> omega
          · have dg : decide ((K : Int) < (gn : Int)) = false := by simp; omega
            have dg2 : decide (K < gn) = false := by simp; omega
            go_wp2_with fail
            refine wp_region_grown_tail 17 (by kernel_rfl) (by kernel_rfl) ?_
            simp only [List.take_succ_cons, List.take_zero, List.drop_succ_cons, List.drop_zero]
            repeat (go_big_quiet_step ((go_at_call 17; exact Calls.regrown_of (step17 _ _ _ _ _ _ _ _ _ _ _ (by omega)))))
            refine wpQuiet_nil ?_
            intro w5 hw5
            have hN := (HNX.out false).2
            generalize stepS ⟨C, O, M, l, s, h⟩ lb bb (F + K) false = sB at *
            have HN := Lib.hid hN
            have HC5 := Lib.hid (HC4.out.mono (below_of_regrown hw5))
            clear hw5 d0 d1 d2 d3 d4 d5 e0 e1 lt0 lt1 hN
            have e0 := HC5.out.sb.s0
            have e1 := HC5.out.sb.s1
            have ef := HC5.out.sb.f
            go_wp2
            go_roundw
            case rel => exact ⟨K + 1, sA.2, sB.1, sB.2, by go_num, by omega, HC5.out.setB _ _, HN.out⟩
            case measure => simp [intOf] <;> omega
        · have hKq : (K : Int) = cy % 6 * (C : Int) := by omega
          have hdone : 524288 - ba = cost ⟨C, O, M, l, s, h⟩ (cy % 6) := by
            rw [HQ.out]
            have e : K = q * C := by rw [HQ.out] at hKq; exact_mod_cast hKq
            have hB := HB.out
            rw [e] at hB
            exact hB.done (by omega) HOK.out hq6
          have HDN := Lib.hid hdone
          have HCB := Lib.hid HC.out.bel
          have e2 := HC.out.full.s1
          have e3 := HC.out.sb.s1
          have lt0 := lt_of_cell d0
          have lt1 := lt_of_cell e0
          have lt2 := lt_of_cell e2
          have lt3 := lt_of_cell e3
          have bq : IntKind.i64.wrap (524288 - ba) = 524288 - ba := IntWalk.i64_in _ (by omega)
          have eqc : ((524288 - ba : Int) == cost ⟨C, O, M, l, s, h⟩ (cy % 6)) = true := by rw [HDN.out]; simp
          have dl : decide (bb ≤ ba) = true := by simpa using hbb
          clear hdone hKq
          go_wp2_with fail
          refine wp_region_quiet_below (by kernel_rfl) (by kernel_rfl) ?_
          repeat (go_big_quiet_step (first | (go_at_call 18; exact Calls.regrown_of (cost18 _ _ _ _ _ _ _ _)) | (go_at_call 9; exact Calls.regrown_of (awake9 _))))
          refine wpQuiet_nil ?_
          intro w5 hw5
          go_wp2
          go_ret
          exact ⟨rfl, bthen HCB.out (below_of_regrown hw5) HCB.out.size⟩
  · by_cases hn3 : n ≤ 300
    · have hd : decide (n ≤ 300) = true := by simpa using hn3
      have hg2 : ¬ gn ≤ 200 := by omega
      go_enter Try.func7, Try.ntmps7
      go_wp2_with (first
        | (go_at_call 8; refine (light_any a n c _).mono ?_; rw [hd]; rintro e w' ⟨rfl, rfl⟩)
        | (go_at_call 9; refine (awake9 _).mono ?_; rintro e w' ⟨rfl, hb⟩))
      go_ret
      exact ⟨rfl, hb⟩
    · have hd : decide (n ≤ 300) = false := by simpa using hn3
      go_enter Try.func7, Try.ntmps7
      go_wp2_with (first
        | (go_at_call 8; refine (light_any a n c _).mono ?_; rw [hd]; rintro e w' ⟨rfl, rfl⟩)
        | (go_at_call 9; refine (awake9 _).mono ?_; rintro e w' ⟨rfl, hb⟩))
      go_ret
      exact ⟨rfl, hb⟩
end Go.Proofs.Ytjbokpejfifamaa
