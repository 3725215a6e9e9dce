/- Layer 33: the reference's Feasible. -/
import Derived.Test.YteokhadpenalaaaG6
import Derived.RegionTactic
import Derived.OwnWalk
namespace Go.Proofs.Yteokhadpenalaaa
set_option linter.unusedVariables false
set_option linter.unusedSimpArgs false
open Go.RowKit Go.Sort
attribute [local go_sem] gcell

theorem intInfo : (Try.prog.info? 3).map (fun i => (i.zero, i.size, i.bytes)) = some (some (.int .i64 0), 1, 8) := by kernel_rfl
theorem dem_bd {F W B : Nat → Int} {a b : Nat} (hb : b ≤ 1048576) : ∀ n : Nat, (∀ i, i < n → vg (F i) (W i) (B i) = true) → 0 ≤ dem F W B n a b ∧ dem F W B n a b ≤ n * 805306368
  | 0, _ => ⟨Int.le_refl _, by show (0 : Int) ≤ _; omega⟩
  | n + 1, h => by
    have ih := dem_bd (a := a) hb n fun i hi => h i (by omega)
    have h1 := cw_bd (a := a) (h n (by omega)) hb
    show 0 ≤ dem F W B n a b + cntR (F n) (W n) a b * B n ∧ dem F W B n a b + cntR (F n) (W n) a b * B n ≤ _
    omega
/-- The sums while guarantee i is being added: up to T. -/
def part (F W B : Nat → Int) (a i T : Nat) (b : Nat) : Int := dueK F W B a b i + if b < T then ends (F i) (W i) a b * B i else 0
theorem part_start {F W B : Nat → Int} {a i T : Nat} (h : ∀ b, b < T → ends (F i) (W i) a b = 0) (b : Nat) : part F W B a i T b = dueK F W B a b i := by
  unfold part
  split
  · rw [h b ‹_›, Int.zero_mul, Int.add_zero]
  · rw [Int.add_zero]
theorem part_end {F W B : Nat → Int} {a i T b : Nat} (h : b < T) : part F W B a i T b = dueK F W B a b (i + 1) := by
  unfold part
  rw [if_pos h]
  rfl
theorem part_next {F W B : Nat → Int} {a i T u : Nat} (hW : 1 ≤ W i) (hu : (u : Int) = W i) (h : End (F i) (W i) a T) (b : Nat) : part F W B a i (T + u) b = putI (part F W B a i T) T (part F W B a i T T + B i) b := by
  unfold putI
  by_cases e : b = T
  · subst e
    rw [if_pos rfl]
    unfold part
    rw [if_pos (by omega), if_neg (by omega), h.one hW]
    omega
  · rw [if_neg e]
    unfold part
    by_cases c : b < T
    · rw [if_pos (by omega), if_pos c]
    · rw [if_neg c]
      by_cases c2 : b < T + u
      · rw [if_pos c2, h.none hW (by omega) (by omega), Int.zero_mul]
      · rw [if_neg c2]
theorem part_at {F W B : Nat → Int} {a i T : Nat} : part F W B a i T T = dueK F W B a T i := by
  unfold part
  rw [if_neg (by omega), Int.add_zero]

set_option maxRecDepth 100000 in
set_option maxHeartbeats 8000000 in
theorem feasible27 (a : Option Addr) (n c : Nat) (F W B : Nat → Int) (r h : Int) (w : World) (R : R3 w a n F W B) (hn : n ≤ maxLen) :
    Calls Try.prog 27 #[.slice a n c, .int .i64 r, .int .i64 h] w fun e w' => e = .returned (.bool (fsB n F W B r h)) ∧ Below w.heap.size w w' := by
  have K := right31 a n c F W B r h w R hn
  have HR := Lib.hid R
  clear R
  unfold fsB
  cases hp : plB n F W B r h
  · rw [hp] at K
    have HK := Lib.hid K
    clear K hp
    go_enter Try.func27, Try.ntmps27
    go_wp2_with fail
    refine HK.out.mono ?_
    rintro e w1 ⟨rfl, hb⟩
    have HB := Lib.hid hb
    clear hb
    go_wp2
    go_ret
    exact ⟨rfl, HB.out⟩
  · rw [hp] at K
    obtain ⟨hc, hr, hh⟩ := plB_true hp
    obtain ⟨H, rfl⟩ : ∃ H : Nat, h = H := ⟨h.toNat, by omega⟩
    rw [Bool.true_and]
    simp only [Int.toNat_natCast]
    have HK := Lib.hid K
    obtain ⟨ok1, ok2⟩ := ck_ok hc
    have OK2 := Lib.hid ok2
    obtain ⟨i0, hi, hz0, hz1, hz2⟩ := info_split intInfo
    have HI := Lib.hid hi
    have HZ0 := Lib.hid hz0
    have HZ1 := Lib.hid hz1
    have HZ2 := Lib.hid hz2
    clear K hp hc ok2 hi hz0 hz1 hz2
    go_enter Try.func27, Try.ntmps27
    go_wp2_with fail
    refine HK.out.mono ?_
    rintro e w1 ⟨rfl, hb⟩
    have HB1 := Lib.hid hb
    clear hb
    go_wp2_with fail
    go_loopw [7] (fun s7 wr => ∃ k : Nat, s7 = .int .i64 k ∧ k ≤ H ∧ anyB (fun a => anyB (over n F W B r a) (H + 1)) k = false ∧ Below w.heap.size w wr) (fun s7 _ => H - (intOf s7).toNat)
    case atStart => exact ⟨0, rfl, Nat.zero_le _, rfl, HB1.out⟩
    case round =>
      obtain ⟨k, rfl, hk, hf, hB⟩ := hrel
      have HB := Lib.hid hB
      have HF := Lib.hid hf
      have z0 := hB.size
      clear hB hf
      by_cases hlt : k < H
      · go_wp2_with (refine wpList_make_full _ rfl (.tmp 24) (.tmp 24) 23 rfl wr.heap.size 3 i0 (.int .i64 0) 1 Try.underlying23 HI.out HZ0.out HZ1.out .i64 .i64 ((H : Int) + 1) ((H : Int) + 1) (H + 1) rfl rfl (by omega) (by omega) ?c1 ?c2 (Nat.le_refl _) ?_)
        case c1 => rw [HZ2.out]; omega
        case c2 => unfold maxLen; omega
        intro w2 hown hgrow
        have HV := Lib.hid (VAt.made hown)
        have HB2 := Lib.hid (bthen HB.out (below_of_grown hgrow) z0)
        clear hown hgrow
        generalize wr.heap.size = z at *
        have HV0 := Lib.hid (show VAt w2 z (H + 1) (iv fun b => dueK F W B k b 0) from HV.out.congr fun _ _ => rfl)
        clear HV
        go_wp2_with fail
        go_loopw [9] (fun s9 wx => ∃ i : Nat, s9 = .int .i64 i ∧ i ≤ n ∧ VAt wx z (H + 1) (iv fun b => dueK F W B k b i) ∧ Below w.heap.size w wx) (fun s9 _ => n - (intOf s9).toNat)
        case atStart => exact ⟨0, rfl, Nat.zero_le _, HV0.out, HB2.out⟩
        case round =>
          clear HV0 HB2
          obtain ⟨i, rfl, hi, hV, hB⟩ := hrel
          have HV := Lib.hid hV
          have HB3 := Lib.hid hB
          clear hV hB
          by_cases hin : i < n
          · obtain ⟨b, m, g1, g2⟩ := HR.out.mono HB3.out
            obtain rfl := g1 (by omega)
            obtain ⟨c0, c1, c2⟩ := g2 i hin
            have hvg := vg_true (OK2.out i hin)
            have i1 : (0 : Int) ≤ (i : Int) := by omega
            have i2 : (i : Int) < (n : Int) := by omega
            obtain ⟨T, hT, hE, h0⟩ := first_end (F := F i) (W := W i) (by omega) (by omega) k
            have HT := Lib.hid hT
            have HE := Lib.hid hE
            have H0 := Lib.hid h0
            obtain ⟨u, hu⟩ : ∃ u : Nat, W i = u := ⟨(W i).toNat, by omega⟩
            have HU := Lib.hid hu
            rw [hu] at c1 hvg hT
            clear g1 g2 hE h0
            generalize hf : F i = f at *
            generalize hv : B i = v at *
            have HF' := Lib.hid hf
            have HV' := Lib.hid hv
            have nz : ((u : Int) == 0) = false := beq_eq_false_iff_ne.2 (by omega)
            have n1 : ((u : Int) == -1) = false := beq_eq_false_iff_ne.2 (by omega)
            have lb : b < w.heap.size := by
              obtain ⟨b', m', g1, g2⟩ := HR.out
              have e := g1 (by omega)
              injection e with e
              injection e with e1 e2
              subst e1
              exact lt_of_cell (g2 i hin).1
            have nb : b ≠ z := by omega
            have nb' : z ≠ b := by omega
            have hbd := dueK_bd (F := F) (W := W) (B := B) (k := i) (fun j hj => by have := vg_true (OK2.out j (by omega)); omega) k
            have HBD := Lib.hid hbd
            clear hf hv hu hbd
            by_cases h4 : f < (k : Int)
            · have hfs : fstW f u k = f + ((k : Int) - f + u - 1) / u * u := if_pos h4
              rw [hfs] at hT
              have hq : 0 ≤ ((k : Int) - f + u - 1) / u := Int.ediv_nonneg (by omega) (by omega)
              have hq2 : ((k : Int) - f + u - 1) / u ≤ (k : Int) - f + u - 1 := Int.ediv_le_self _ (by omega)
              have hqw : 0 ≤ ((k : Int) - f + u - 1) / u * u := Int.mul_nonneg hq (by omega)
              have hqu : ((k : Int) - f + u - 1) / u * u ≤ (k : Int) - f + u - 1 := Int.ediv_mul_le _ (by omega)
              have hTb : T ≤ 1100000 := by omega
              have HTT := Lib.hid hT
              clear hfs hT
              go_upto_region 12 with fail
              have t1 : ((k : Int) - f + u - 1).tdiv u = ((k : Int) - f + u - 1) / u := Int.tdiv_eq_ediv_of_nonneg (by omega)
              have e1 : IntKind.i64.wrap ((k : Int) - f) = (k : Int) - f := IntWalk.i64_in _ (by omega)
              have e2 : IntKind.i64.wrap ((k : Int) - f + u) = (k : Int) - f + u := IntWalk.i64_in _ (by omega)
              have e3 : IntKind.i64.wrap ((k : Int) - f + u - 1) = (k : Int) - f + u - 1 := IntWalk.i64_in _ (by omega)
              have e4 : IntKind.i64.wrap (((k : Int) - f + u - 1) / u) = ((k : Int) - f + u - 1) / u := IntWalk.i64_in _ (by omega)
              have e5 : IntKind.i64.wrap (((k : Int) - f + u - 1) / u * u) = ((k : Int) - f + u - 1) / u * u := IntWalk.i64_in _ (by omega)
              have e6 : IntKind.i64.wrap (f + ((k : Int) - f + u - 1) / u * u) = f + ((k : Int) - f + u - 1) / u * u := IntWalk.i64_in _ (by omega)
              go_quiet (fail)
              clear t1 e1 e2 e3 e4 e5 e6
              go_wp2_with fail
              rw [HTT.out]
              have HVx := Lib.hid (HV.out.mono (below_drewN (Below.refl _ _) nq))
              have HB4 := Lib.hid (below_drewN HB3.out nq)
              clear hq hq2 hqw hqu HV HB3 HTT c0 c1 c2
              go_loopw [10] (fun s10 wx => ∃ T : Nat, s10 = .int .i64 T ∧ T ≤ 1100000 ∧ End f u k T ∧ VAt wx z (H + 1) (iv (part F W B k i T)) ∧ Below w.heap.size w wx) (fun s10 _ => H + 1 - (intOf s10).toNat)
              case atStart => exact ⟨T, rfl, hTb, by rw [← HU.out]; exact HE.out, HVx.out.congr fun b _ => congrArg (Value.int .i64) (part_start (by rw [HF'.out]; exact H0.out) b), HB4.out⟩
              case round =>
                clear HE HVx HB4 HT H0 hTb
                obtain ⟨S, rfl, hSb, hE, hV, hB⟩ := hrel
                have HE := Lib.hid hE
                have HB5 := Lib.hid hB
                by_cases hS : S ≤ H
                · obtain ⟨b', m', g1, g2⟩ := HR.out.mono hB
                  have e := g1 (by omega)
                  injection e with e
                  injection e with e1 e2
                  subst e1 e2
                  obtain ⟨_, c1, c2⟩ := g2 i hin
                  rw [HU.out] at c1
                  rw [HV'.out] at c2
                  have d0 := hV.c S (by omega)
                  have d1 := hV.fr S
                  have bx := HBD.out S
                  have hpa := part_at (F := F) (W := W) (B := B) (a := k) (i := i) (T := S)
                  have hpn := part_next (F := F) (W := W) (B := B) (a := k) (i := i) (T := S) (u := u) (by rw [HU.out]; omega) HU.out.symm (by rw [HF'.out, HU.out]; exact hE)
                  unfold iv at d0
                  rw [hpa, HV'.out] at hpn
                  rw [hpa] at d0
                  have HPN := Lib.hid hpn
                  have HV := Lib.hid hV
                  generalize dueK F W B k S i = x at *
                  clear g1 g2 hE hV hB hpa hpn
                  have lt1 := lt_of_cell c1
                  have lt2 := lt_of_cell d0
                  have j1 : (0 : Int) ≤ (S : Int) := by omega
                  have j2 : (S : Int) < (H : Int) + 1 := by omega
                  have hS' : (S : Int) ≤ H := by omega
                  have e1 : IntKind.i64.wrap (x + v) = x + v := IntWalk.i64_in _ (by omega)
                  have HV2 := Lib.hid ((HV.out.setI S (x + v)).congr fun b _ => congrArg (Value.int .i64) (HPN.out b))
                  have HB6 := Lib.hid (HB5.out.setCell (p := ⟨z, S, none⟩) z0 (.int .i64 (x + v)))
                  go_wp2_with fail
                  go_region
                  all_goals
                    go_wp2_with fail
                    exact ⟨⟨S + u, by go_num, by omega, (HE.out.next (by omega) rfl), HV2.out.mono (Below.refl _ _).drew, HB6.out.drew⟩, by simp [intOf]; omega⟩
                · have hS' : ¬ (S : Int) ≤ H := by omega
                  have HV := Lib.hid hV
                  clear hE hV hB
                  go_wp2_with fail
                  exact ⟨⟨i + 1, by go_num, by omega, HV.out.congr fun b hb => congrArg (Value.int .i64) (part_end (by omega)).symm, HB5.out⟩, by simp [intOf]; omega⟩
            · have hfs : fstW f u k = f := if_neg h4
              rw [hfs] at hT
              have hTb : T ≤ 1100000 := by omega
              have HTT := Lib.hid hT
              clear hfs hT
              go_wp2_with fail
              rw [HTT.out]
              have HVx := HV
              have HB4 := HB3
              clear HV HB3 HTT c0 c1 c2
              go_loopw [10] (fun s10 wx => ∃ T : Nat, s10 = .int .i64 T ∧ T ≤ 1100000 ∧ End f u k T ∧ VAt wx z (H + 1) (iv (part F W B k i T)) ∧ Below w.heap.size w wx) (fun s10 _ => H + 1 - (intOf s10).toNat)
              case atStart => exact ⟨T, rfl, hTb, by rw [← HU.out]; exact HE.out, HVx.out.congr fun b _ => congrArg (Value.int .i64) (part_start (by rw [HF'.out]; exact H0.out) b), HB4.out⟩
              case round =>
                clear HE HVx HB4 HT H0 hTb
                obtain ⟨S, rfl, hSb, hE, hV, hB⟩ := hrel
                have HE := Lib.hid hE
                have HB5 := Lib.hid hB
                by_cases hS : S ≤ H
                · obtain ⟨b', m', g1, g2⟩ := HR.out.mono hB
                  have e := g1 (by omega)
                  injection e with e
                  injection e with e1 e2
                  subst e1 e2
                  obtain ⟨_, c1, c2⟩ := g2 i hin
                  rw [HU.out] at c1
                  rw [HV'.out] at c2
                  have d0 := hV.c S (by omega)
                  have d1 := hV.fr S
                  have bx := HBD.out S
                  have hpa := part_at (F := F) (W := W) (B := B) (a := k) (i := i) (T := S)
                  have hpn := part_next (F := F) (W := W) (B := B) (a := k) (i := i) (T := S) (u := u) (by rw [HU.out]; omega) HU.out.symm (by rw [HF'.out, HU.out]; exact hE)
                  unfold iv at d0
                  rw [hpa, HV'.out] at hpn
                  rw [hpa] at d0
                  have HPN := Lib.hid hpn
                  have HV := Lib.hid hV
                  generalize dueK F W B k S i = x at *
                  clear g1 g2 hE hV hB hpa hpn
                  have lt1 := lt_of_cell c1
                  have lt2 := lt_of_cell d0
                  have j1 : (0 : Int) ≤ (S : Int) := by omega
                  have j2 : (S : Int) < (H : Int) + 1 := by omega
                  have hS' : (S : Int) ≤ H := by omega
                  have e1 : IntKind.i64.wrap (x + v) = x + v := IntWalk.i64_in _ (by omega)
                  have HV2 := Lib.hid ((HV.out.setI S (x + v)).congr fun b _ => congrArg (Value.int .i64) (HPN.out b))
                  have HB6 := Lib.hid (HB5.out.setCell (p := ⟨z, S, none⟩) z0 (.int .i64 (x + v)))
                  go_wp2_with fail
                  go_region
                  all_goals
                    go_wp2_with fail
                    exact ⟨⟨S + u, by go_num, by omega, (HE.out.next (by omega) rfl), HV2.out.mono (Below.refl _ _).drew, HB6.out.drew⟩, by simp [intOf]; omega⟩
                · have hS' : ¬ (S : Int) ≤ H := by omega
                  have HV := Lib.hid hV
                  clear hE hV hB
                  go_wp2_with fail
                  exact ⟨⟨i + 1, by go_num, by omega, HV.out.congr fun b hb => congrArg (Value.int .i64) (part_end (by omega)).symm, HB5.out⟩, by simp [intOf]; omega⟩
          · have : i = n := by omega
            subst this
            have HL := Lib.hid (dem_zero i F W B (fun j hj => by have := vg_true (OK2.out j hj); omega) k k (Nat.le_refl _))
            go_wp2_with fail
            go_loop [11, 12] (fun s11 s12 => ∃ c : Nat, s12 = .int .i64 ((c : Int) + 1) ∧ s11 = .int .i64 (dem F W B i k c) ∧ k ≤ c ∧ c ≤ H ∧ anyB (over i F W B r k) (c + 1) = false) (fun _ s12 => H + 2 - (intOf s12).toNat)
            case atStart =>
              refine ⟨k, rfl, by rw [HL.out], Nat.le_refl _, by omega, anyB_false.2 fun j hj => ?_⟩
              unfold over
              simp
              omega
            case round =>
              clear HL
              obtain ⟨c, rfl, rfl, hc1, hc2, hg⟩ := hrel
              have HG := Lib.hid hg
              clear hg
              have hb0 := dem_bd (a := k) (b := c) (by omega) i (fun j hj => OK2.out j hj)
              by_cases hcH : c < H
              · have d0 : wr.cell? ⟨z, c + 1, none⟩ = some (.int .i64 (dueK F W B k (c + 1) i)) := HV.out.c (c + 1) (by omega)
                have hb1 := dem_bd (a := k) (b := c + 1) (by omega) i (fun j hj => OK2.out j hj)
                have hdd := dem_due i F W B k c
                have ho : over i F W B r k (c + 1) = decide (r * (((c + 1 : Nat) : Int) - k) < dem F W B i k (c + 1)) := by
                  unfold over
                  rw [decide_eq_true (show k < c + 1 by omega)]
                  rfl
                rw [Int.natCast_succ] at ho
                have hP : 0 ≤ r * ((c : Int) + 1 - k) ∧ r * ((c : Int) + 1 - k) ≤ 12 * 600 := mul_bd hr (by omega)
                rw [hdd] at hb1 ho
                have HDD := Lib.hid hdd
                have HO := Lib.hid ho
                have j1 : (0 : Int) ≤ (c : Int) + 1 := by omega
                have j2 : (c : Int) + 1 ≤ H := by omega
                have j3 : ((c : Int) + 1).toNat = c + 1 := by omega
                clear hdd ho
                generalize dueK F W B k (c + 1) i = y at *
                generalize dem F W B i k c = x at *
                by_cases hov : r * ((c : Int) + 1 - k) < x + y
                · have hfz : fz i F W B r H = false := by
                    unfold fz
                    rw [anyB_true (p := fun a => anyB (over i F W B r a) (H + 1)) hlt (anyB_true (p := over i F W B r k) (k := c + 1) (by omega) (by rw [HO.out]; exact decide_eq_true hov))]
                    rfl
                  have HFZ := Lib.hid hfz
                  clear hfz
                  go_wp2
                  go_ret
                  exact ⟨ret_bool HFZ.out.symm, HB3.out⟩
                · go_wp2_with fail
                  exact ⟨⟨c + 1, by go_num, by rw [HDD.out], by omega, by omega, by show (anyB (over i F W B r k) (c + 1) || over i F W B r k (c + 1)) = false; rw [HG.out, HO.out]; simpa using hov⟩, by simp [intOf]; omega⟩
              · obtain rfl : c = H := by omega
                have j2 : ¬ (c : Int) + 1 ≤ c := by omega
                go_wp2_with fail
                exact ⟨⟨k + 1, by go_num, by omega, by show (anyB _ k || anyB (over i F W B r k) (c + 1)) = false; rw [HF.out, HG.out]; rfl, HB3.out⟩, by simp [intOf]; omega⟩
      · have : k = H := by omega
        subst this
        have hfz : fz n F W B r k = true := by unfold fz; rw [HF.out]; rfl
        have HFZ := Lib.hid hfz
        clear hfz
        go_wp2
        go_ret
        exact ⟨ret_bool HFZ.out.symm, HB.out⟩
end Go.Proofs.Yteokhadpenalaaa
