/- Layer 27: the walk of SoftHolds. -/
import Derived.Test.YtdhfadmeablkpaaL1
import Derived.Test.YtdhfadmeablkpaaMod
namespace Go.Proofs.Ytdhfadmeablkpaa
open Go.RowKit Go.Sort
attribute [local go_sem] gcell
set_option linter.unusedVariables false

def bit (l : Nat → Bool) (k : Nat) : Int := if l k then 1 else 0
def noiseOf (xs : Nat → Int) (g : Int) (k : Nat) : Int := modp (xs k) (2 * g - 1) - (g - 1)
theorem noise_bd (xs : Nat → Int) (g : Int) (k : Nat) (h : 1 ≤ g) : -(g - 1) ≤ noiseOf xs g k ∧ noiseOf xs g k ≤ g - 1 := by
  have := modp_bd (xs k) (2 * g - 1) (by omega)
  unfold noiseOf; omega

/-- What Of makes of bits and little noise. -/
theorem of_ok (n m : Nat) (g : Int) (l : Nat → Bool) (xs : Nat → Int) (h : 1 ≤ g) (h2 : g ≤ 127) : ofE n m g (bit l) (noiseOf xs g) = 0 ∧ ofN n m g (bit l) (noiseOf xs g) = n := by
  have e : ofE n m g (bit l) (noiseOf xs g) = 0 := by
    unfold ofE
    rw [if_neg, anyB_false.2 fun k _ => by unfold bad bit; split <;> simp]
    · rfl
    · rw [anyB_false.2 fun k _ => by have := noise_bd xs g k h; unfold out; simp; omega]
      simp; omega
  exact ⟨e, by unfold ofN; rw [if_pos e]⟩
theorem of_val (m : Nat) (g : Int) (l : Nat → Bool) (xs : Nat → Int) (h : 1 ≤ g) (h2 : g ≤ 127) (k : Nat) : (-127 ≤ ofV m g (bit l) (noiseOf xs g) k ∧ ofV m g (bit l) (noiseOf xs g) k ≤ 127) ∧ (bit l k = 0 → 1 ≤ ofV m g (bit l) (noiseOf xs g) k) ∧ (bit l k = 1 → ofV m g (bit l) (noiseOf xs g) k ≤ -1) := by
  have h3 := noise_bd xs g k h
  refine ⟨clip_bd _, fun hb => ?_, fun hb => ?_⟩
  all_goals
    unfold ofV clip
    rw [hb]
    split <;> omega
theorem bit_or (l : Nat → Bool) (k : Nat) : bit l k = 0 ∨ bit l k = 1 := by unfold bit; split <;> simp
theorem comb_ok (n : Nat) (xs ys : Nat → Int) (hx : ∀ k, -127 ≤ xs k ∧ xs k ≤ 127) (hy : ∀ k, -127 ≤ ys k ∧ ys k ≤ 127) : combE n n xs ys = 0 ∧ combN n n xs ys = n := by
  have e : combE n n xs ys = 0 := by
    unfold combE
    rw [if_pos rfl, anyB_false.2 fun k _ => by have := hx k; unfold out; simp; omega, anyB_false.2 fun k _ => by have := hy k; unfold out; simp; omega]
    rfl
  exact ⟨e, by unfold combN; rw [if_pos e]⟩

set_option maxRecDepth 100000 in
set_option maxHeartbeats 8000000 in
theorem holds4 (al ap aq : Option Addr) (nl np nq cl cp cq bl ol bp op' bq oq : Nat) (l : Nat → Bool) (gain : Int) (ps qs : Nat → Int) (w : World)
    (hal : 0 < nl → al = some ⟨bl, ol, none⟩) (hl : ∀ k, k < nl → w.cell? ⟨bl, ol + k, none⟩ = some (.bool (l k)))
    (hap : 0 < np → ap = some ⟨bp, op', none⟩) (hp : ∀ k, k < np → w.cell? ⟨bp, op' + k, none⟩ = some (.int .i16 (ps k)) ∧ -32768 ≤ ps k ∧ ps k ≤ 32767)
    (haq : 0 < nq → aq = some ⟨bq, oq, none⟩) (hq : ∀ k, k < nq → w.cell? ⟨bq, oq + k, none⟩ = some (.int .i16 (qs k)) ∧ -32768 ≤ qs k ∧ qs k ≤ 32767)
    (h1 : nl ≤ 140737488351232) (h2 : np ≤ 140737488351232) (h3 : nq ≤ 140737488351232) (hg : 0 ≤ gain ∧ gain ≤ 255) :
    Calls Try.prog 4 #[.slice al nl cl, .int .u8 gain, .slice ap np cp, .slice aq nq cq] w fun e w' => e = .returned (.bool true) ∧ Below w.heap.size w w' := by
  have HAL := Lib.hid hal
  have HL := Lib.hid hl
  have HAP := Lib.hid hap
  have HP := Lib.hid hp
  have HAQ := Lib.hid haq
  have HQ := Lib.hid hq
  clear hal hl hap hp haq hq
  by_cases hs : nl ≤ 200 ∧ np + nq ≤ 400
  · obtain ⟨hs1, hs2⟩ := hs
    obtain ⟨g, hgd⟩ : ∃ g : Int, g = 1 + gain % 127 := ⟨_, rfl⟩
    have g1 : 1 ≤ g := by omega
    have g2 : g ≤ 127 := by omega
    have ht : gain.tmod 127 = gain % 127 := Int.tmod_eq_emod_of_nonneg hg.1
    go_enter Try.func4, Try.ntmps4
    go_wp2
    rw [← hgd]
    clear hgd ht
    go_loopw [10, 13] (fun v i wr => ∃ k : Nat, k ≤ nl ∧ i = .int .i64 k ∧ Out w wr v k (bit l)) (fun _ i _ => nl - (intOf i).toNat)
    case atStart => exact ⟨0, Nat.zero_le _, rfl, Out.start _ _⟩
    case round =>
      obtain ⟨k, hk, rfl, O⟩ := hrel
      have HO := Lib.hid O

      clear O
      by_cases hlt : k < nl
      · have hlk := up HO.out.bel (HL.out k hlt)
        have hak := HAL.out (by omega)
        subst hak
        cases hb : l k
        all_goals
          rw [hb] at hlk
          go_wp2_with (at_builtin; refine wpList_append1 _ w w.heap.size rfl (.tmp 51) (.tmp 53) 22 rfl 3 (.int .i64 0) 8 Try.underlying22 intInfo rfl (by decide) _ k (fun i => .int .i64 (bit l i)) rfl _ rfl HO.out.own HO.out.bel HO.out.bel.size (show Value.int .i64 _ = .int .i64 (bit l k) by unfold bit; rw [hb]; rfl) rfl (by omega) ?_; intro v' w4 hown hB4 hb4 _ _; have HO4 := Lib.hid (show Out w w4 v' (k + 1) (bit l) from ⟨hown, hB4⟩); clear hown hB4)
          go_wp2
          go_roundw
          case rel => exact ⟨k + 1, by omega, by go_num, HO4.out⟩
          case measure => simp [intOf]; omega
      · have : k = nl := by omega
        subst this
        obtain ⟨a1, c1, rfl, hc1, r1⟩ := own_row HO.out.own
        have hB1 := HO.out.bel
        have HR1 := Lib.hid r1
        have HB1 := Lib.hid hB1
        obtain ⟨w1, hw1⟩ : ∃ w1, w1 = wr := ⟨_, rfl⟩
        rw [← hw1] at HR1 HB1 hB1 ⊢
        clear hw1
        have z1 := hB1.size
        clear r1 hB1 HO
        go_wp2
        go_loopw [11, 15] (fun v i wx => ∃ q : Nat, q ≤ np ∧ i = .int .i64 q ∧ Out w1 wx v q (noiseOf ps g)) (fun _ i _ => np - (intOf i).toNat)
        case atStart => exact ⟨0, Nat.zero_le _, rfl, Out.start _ _⟩
        case round =>
          obtain ⟨q, hq, rfl, O⟩ := hrel
          have HO := Lib.hid O
          clear O
          by_cases hlt : q < np
          · obtain ⟨hx, hx1, hx2⟩ := HP.out q hlt
            have hxk := up HO.out.bel (up HB1.out hx)
            have hak := HAP.out (by omega)
            subst hak
            have hm := modp_bd (ps q) (2 * g - 1) (by omega)
            go_wp2_with (first | (go_at_call 16; refine (mod_any _ _ (by omega) _).mono ?_; rintro e wz ⟨rfl, rfl⟩) | (at_builtin; refine wpList_append1 _ w1 w1.heap.size rfl (.tmp 61) (.tmp 74) 22 rfl 3 (.int .i64 0) 8 Try.underlying22 intInfo rfl (by decide) _ q (fun i => .int .i64 (noiseOf ps g i)) rfl _ rfl HO.out.own HO.out.bel HO.out.bel.size (show Value.int .i64 _ = .int .i64 (noiseOf ps g q) by rfl) rfl (by omega) ?_; intro v' w4 hown hB4 hb4 _ _; have HO4 := Lib.hid (show Out w1 w4 v' (q + 1) (noiseOf ps g) from ⟨hown, hB4⟩); clear hown hB4))
            go_wp2
            go_roundw
            case rel => exact ⟨q + 1, by omega, by go_num, HO4.out⟩
            case measure => simp [intOf]; omega
          · have : q = np := by omega
            subst this
            obtain ⟨a2, c2, rfl, hc2, r2⟩ := own_row HO.out.own
            have HR2 := Lib.hid r2
            have HR12 := Lib.hid (HR1.out.mono HO.out.bel)
            have hB2 := bthen HB1.out HO.out.bel z1
            have HB2 := Lib.hid hB2
            have z2 := hB2.size
            clear r2 hB2 HO HR1 HB1
            obtain ⟨w2, hw2⟩ : ∃ w2, w2 = wr := ⟨_, rfl⟩
            rw [← hw2] at HR2 HR12 HB2 z2 ⊢
            clear hw2
            go_wp2
            go_loopw [12, 16] (fun v i wx => ∃ r : Nat, r ≤ nq ∧ i = .int .i64 r ∧ Out w2 wx v r (noiseOf qs g)) (fun _ i _ => nq - (intOf i).toNat)
            case atStart => exact ⟨0, Nat.zero_le _, rfl, Out.start _ _⟩
            case round =>
              obtain ⟨r, hr, rfl, O⟩ := hrel
              have HO := Lib.hid O
              clear O
              by_cases hlt : r < nq
              · obtain ⟨hx, hx1, hx2⟩ := HQ.out r hlt
                have hxk := up HO.out.bel (up HB2.out hx)
                have hak := HAQ.out (by omega)
                subst hak
                have hm := modp_bd (qs r) (2 * g - 1) (by omega)
                go_wp2_with (first | (go_at_call 16; refine (mod_any _ _ (by omega) _).mono ?_; rintro e wz ⟨rfl, rfl⟩) | (at_builtin; refine wpList_append1 _ w2 w2.heap.size rfl (.tmp 82) (.tmp 95) 22 rfl 3 (.int .i64 0) 8 Try.underlying22 intInfo rfl (by decide) _ r (fun i => .int .i64 (noiseOf qs g i)) rfl _ rfl HO.out.own HO.out.bel HO.out.bel.size (show Value.int .i64 _ = .int .i64 (noiseOf qs g r) by rfl) rfl (by omega) ?_; intro v' w4 hown hB4 hb4 _ _; have HO4 := Lib.hid (show Out w2 w4 v' (r + 1) (noiseOf qs g) from ⟨hown, hB4⟩); clear hown hB4))
                go_wp2
                go_roundw
                case rel => exact ⟨r + 1, by omega, by go_num, HO4.out⟩
                case measure => simp [intOf]; omega
              · have : r = nq := by omega
                subst this
                obtain ⟨a3, c3, rfl, hc3, r3⟩ := own_row HO.out.own
                have HR33 := Lib.hid r3
                have HR13 := Lib.hid (HR12.out.mono HO.out.bel)
                have HR23 := Lib.hid (HR2.out.mono HO.out.bel)
                have hB3 := bthen HB2.out HO.out.bel z2
                have HB3 := Lib.hid hB3
                have z3 := hB3.size
                clear r3 hB3 HO HR12 HR2 HB2
                obtain ⟨w3, hw3⟩ : ∃ w3, w3 = wr := ⟨_, rfl⟩
                rw [← hw3] at HR33 HR13 HR23 HB3 z3 ⊢
                clear hw3
                have V1 := of_val q g l ps g1 g2
                have V2 := of_val r g l qs g1 g2
                have O1 := of_ok k q g l ps g1 g2
                have O2 := of_ok k r g l qs g1 g2
                have hV1 := Lib.hid V1
                have hV2 := Lib.hid V2
                have hO1 := Lib.hid O1
                have hO2 := Lib.hid O2
                clear V1 V2 O1 O2
                go_wp2_with (go_at_call 7; refine (of7 _ _ k _ q _ g (bit l) (noiseOf ps g) _ HR13.out HR23.out (by omega) (by omega)).mono ?_)
                intro e w4 h
                obtain ⟨b1, d1, rfl, hd1, s1, hb⟩ := h
                rw [hO1.out.2] at hd1 s1
                rw [hO1.out.1, hO1.out.2]
                have HR14 := Lib.hid (HR13.out.mono hb)
                have HR34 := Lib.hid (HR33.out.mono hb)
                have HX4 := Lib.hid s1
                have hB := bthen HB3.out hb z3
                have HB4 := Lib.hid hB
                have z4 := hB.size
                clear HR13 HR23 HR33 s1 hb hB HB3
                go_wp2_with (go_at_call 7; refine (of7 _ _ k _ r _ g (bit l) (noiseOf qs g) _ HR14.out HR34.out (by omega) (by omega)).mono ?_)
                intro e w5 h
                obtain ⟨b2, d2, rfl, hd2, s2, hb⟩ := h
                rw [hO2.out.2] at hd2 s2
                rw [hO2.out.1, hO2.out.2]
                have HR15 := Lib.hid (HR14.out.mono hb)
                have HX5 := Lib.hid (HX4.out.mono hb)
                have HY5 := Lib.hid s2
                have hB := bthen HB4.out hb z4
                have HB5 := Lib.hid hB
                have z5 := hB.size
                clear HR14 HR34 HX4 s2 hb hB HB4 hO1 hO2
                generalize ofV q g (bit l) (noiseOf ps g) = X at hV1 HX5
                generalize ofV r g (bit l) (noiseOf qs g) = Y at hV2 HY5
                have hc1 := comb_ok k X Y (fun k => (hV1.out k).1) (fun k => (hV2.out k).1)
                have hc2 := comb_ok k Y X (fun k => (hV2.out k).1) (fun k => (hV1.out k).1)
                have HC1 := Lib.hid hc1
                have HC2 := Lib.hid hc2
                have j1 : same k k (fun i => hard1 (X i)) (bit l) = true := same_true rfl fun i _ => by
                  have h := hV1.out i
                  have hb := bit_or l i
                  unfold hard1; split <;> omega
                have j2 : same k k (fun i => hard1 (clip (X i + Y i))) (bit l) = true := same_true rfl fun i _ => by
                  have h := hV1.out i
                  have h' := hV2.out i
                  have hb := bit_or l i
                  unfold hard1 clip; split <;> omega
                have j3 : same k k (fun i => clip (X i + Y i)) (fun i => clip (Y i + X i)) = true := same_true rfl fun i _ => by rw [Int.add_comm]
                have J1 := Lib.hid j1
                have J2 := Lib.hid j2
                have J3 := Lib.hid j3
                have kl : k ≤ maxLen := by unfold maxLen; omega
                clear hc1 hc2 j1 j2 j3
                go_wp2_with (go_at_call 9; refine (combine9 _ _ k _ k _ X Y _ HX5.out HY5.out (by omega) (by omega)).mono ?_)
                intro e w6 h
                obtain ⟨b3, d3, rfl, hd3, s3, hb⟩ := h
                rw [HC1.out.2] at hd3 s3
                rw [HC1.out.1, HC1.out.2]
                have HR16 := Lib.hid (HR15.out.mono hb)
                have HX6 := Lib.hid (HX5.out.mono hb)
                have HY6 := Lib.hid (HY5.out.mono hb)
                have HS6 := Lib.hid s3
                have hB := bthen HB5.out hb z5
                have HB6 := Lib.hid hB
                have z6 := hB.size
                clear HR15 HX5 HY5 s3 hb hB HB5 HC1
                go_wp2_with (go_at_call 9; refine (combine9 _ _ k _ k _ Y X _ HY6.out HX6.out (by omega) (by omega)).mono ?_)
                intro e w7 h
                obtain ⟨b4, d4, rfl, hd4, s4, hb⟩ := h
                rw [HC2.out.2] at hd4 s4
                rw [HC2.out.1, HC2.out.2]
                have HR17 := Lib.hid (HR16.out.mono hb)
                have HX7 := Lib.hid (HX6.out.mono hb)
                have HS7 := Lib.hid (HS6.out.mono hb)
                have HT7 := Lib.hid s4
                have hB := bthen HB6.out hb z6
                have HB7 := Lib.hid hB
                have z7 := hB.size
                clear HR16 HX6 HY6 HS6 s4 hb hB HB6 HC2
                go_wp2_with (go_at_call 12; refine (hard12 _ k _ X _ HX7.out (by omega)).mono ?_)
                intro e w8 h
                obtain ⟨g8, rfl, s8, hb⟩ := h
                have HR18 := Lib.hid (HR17.out.mono hb)
                have HS8 := Lib.hid (HS7.out.mono hb)
                have HT8 := Lib.hid (HT7.out.mono hb)
                have HH8 := Lib.hid s8
                have hB := bthen HB7.out hb z7
                have HB8 := Lib.hid hB
                have z8 := hB.size
                clear HR17 HX7 HS7 HT7 s8 hb hB HB7
                go_wp2_with (go_at_call 11; refine (same11 _ _ k _ k _ _ _ _ HH8.out HR18.out kl kl).mono ?_)
                rw [J1.out]
                intro e w9 h
                obtain ⟨rfl, hb⟩ := h
                have HR19 := Lib.hid (HR18.out.mono hb)
                have HS9 := Lib.hid (HS8.out.mono hb)
                have HT9 := Lib.hid (HT8.out.mono hb)
                have hB := bthen HB8.out hb z8
                have HB9 := Lib.hid hB
                have z9 := hB.size
                clear HR18 HH8 HS8 HT8 hb hB HB8
                go_wp2_with (go_at_call 12; refine (hard12 _ k _ _ _ HS9.out (by omega)).mono ?_)
                intro e w10 h
                obtain ⟨g10, rfl, s10, hb⟩ := h
                have HR110 := Lib.hid (HR19.out.mono hb)
                have HS10 := Lib.hid (HS9.out.mono hb)
                have HT10 := Lib.hid (HT9.out.mono hb)
                have HH10 := Lib.hid s10
                have hB := bthen HB9.out hb z9
                have HB10 := Lib.hid hB
                have z10 := hB.size
                clear HR19 HS9 HT9 s10 hb hB HB9
                go_wp2_with (go_at_call 11; refine (same11 _ _ k _ k _ _ _ _ HH10.out HR110.out kl kl).mono ?_)
                rw [J2.out]
                intro e w11 h
                obtain ⟨rfl, hb⟩ := h
                have HS11 := Lib.hid (HS10.out.mono hb)
                have HT11 := Lib.hid (HT10.out.mono hb)
                have hB := bthen HB10.out hb z10
                have HB11 := Lib.hid hB
                have z11 := hB.size
                clear HR110 HS10 HT10 HH10 hb hB HB10
                go_wp2_with (go_at_call 11; refine (same11 _ _ k _ k _ _ _ _ HS11.out HT11.out kl kl).mono ?_)
                rw [J3.out]
                intro e w12 h
                obtain ⟨rfl, hb⟩ := h
                have hB := bthen HB11.out hb z11
                have HB12 := Lib.hid hB
                have z12 := hB.size
                clear HS11 HT11 hb hB HB11
                go_wp2_with (go_at_call 6; refine (awake6 _).mono ?_; intro e w13 h; obtain ⟨rfl, hb10⟩ := h; have HB13 := Lib.hid (bthen HB12.out hb10 z12); clear hb10)
                go_ret
                exact ⟨rfl, HB13.out⟩
  · have h6 : 200 < nl ∨ 400 < np + nq := by omega
    by_cases h5 : nl ≤ 200
    · have h7 : 400 < np + nq := by omega
      go_enter Try.func4, Try.ntmps4
      go_wp2_with (go_at_call 6; refine (awake6 _).mono ?_; intro e w10 h; obtain ⟨rfl, hb10⟩ := h; have HB10 := Lib.hid hb10; clear hb10)
      go_ret
      exact ⟨rfl, HB10.out⟩
    · go_enter Try.func4, Try.ntmps4
      go_wp2_with (go_at_call 6; refine (awake6 _).mono ?_; intro e w10 h; obtain ⟨rfl, hb10⟩ := h; have HB10 := Lib.hid hb10; clear hb10)
      go_ret
      exact ⟨rfl, HB10.out⟩
end Go.Proofs.Ytdhfadmeablkpaa
