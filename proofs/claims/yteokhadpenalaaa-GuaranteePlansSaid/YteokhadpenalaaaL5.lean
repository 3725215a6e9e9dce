/- Layer 33: the walk of GuaranteeMore. -/
import Derived.Test.YteokhadpenalaaaL4
namespace Go.Proofs.Yteokhadpenalaaa
set_option linter.unusedVariables false
set_option linter.unusedSimpArgs false
open Go.RowKit Go.Sort
attribute [local go_sem] gcell

theorem fsB_iff {n : Nat} {F W B : Nat → Int} {r : Int} {h : Nat} : fsB n F W B r h = true ↔ plB n F W B r h = true ∧ ∀ a b : Nat, a < b → b ≤ h → dem F W B n a b ≤ r * ((b : Int) - a) := by
  unfold fsB
  rw [Bool.and_eq_true, Int.toNat_natCast, fz_iff]
theorem plB_mk {n : Nat} {F W B : Nat → Int} {r h : Int} (h1 : ck n F W B = 0) (h2 : 0 ≤ r ∧ r ≤ 12) (h3 : 0 ≤ h ∧ h ≤ 600) : plB n F W B r h = true := decide_eq_true ⟨h1, h2, h3⟩
theorem cells_fl {w : World} {b n : Nat} {F W B : Nat → Int} (h : ∀ k, k < n → w.cell? ⟨b, k * 3, none⟩ = some (.int .i64 (F k)) ∧ w.cell? ⟨b, k * 3 + 1, none⟩ = some (.int .i64 (W k)) ∧ w.cell? ⟨b, k * 3 + 2, none⟩ = some (.int .i64 (B k))) {j : Nat} (hj : j < n * 3) : w.cell? ⟨b, j, none⟩ = some (.int .i64 (fl F W B j)) := by
  have hk := h (j / 3) (by omega)
  unfold fl
  have h3 : j % 3 = 0 ∨ j % 3 = 1 ∨ j % 3 = 2 := by omega
  rcases h3 with e | e | e
  · rw [if_pos e, ← hk.1]
    congr 2
    omega
  · rw [if_neg (by omega), if_pos e, ← hk.2.1]
    congr 2
    omega
  · rw [if_neg (by omega), if_neg (by omega), ← hk.2.2]
    congr 2
    omega
theorem sumN_nonneg {f : Nat → Int} {n : Nat} (h : ∀ i, i < n → 0 ≤ f i) : 0 ≤ sumN f n := by
  have := sumN_le (f := fun _ => 0) (g := f) (n := n) h
  rw [sumN_zero] at this
  exact this
/-- What is feasible stays so. -/
theorem more_res {n h : Nat} {F W B : Nat → Int} {r : Int} (hr : 1 ≤ r ∧ r ≤ 4) (H : fsB n F W B r h = true) : fsB n F W B (r + 1) h = true := by
  obtain ⟨h1, h2⟩ := fsB_iff.1 H
  obtain ⟨c, _, hh⟩ := plB_true h1
  refine fsB_iff.2 ⟨plB_mk c (by omega) hh, fun a b hab hb => ?_⟩
  have := h2 a b hab hb
  rw [Int.add_mul, Int.one_mul]
  omega
theorem more_near {n h h' : Nat} {F W B : Nat → Int} {r : Int} (hr : 1 ≤ r ∧ r ≤ 4) (H : fsB n F W B r h = true) (hl : h' ≤ h) : fsB n F W B r h' = true := by
  obtain ⟨h1, h2⟩ := fsB_iff.1 H
  obtain ⟨c, _, hh⟩ := plB_true h1
  exact fsB_iff.2 ⟨plB_mk c (by omega) (by omega), fun a b hab hb => h2 a b hab (by omega)⟩
theorem more_less {n m h : Nat} {F W B F' W' B' : Nat → Int} {r : Int} (hr : 1 ≤ r ∧ r ≤ 4) (H : fsB n F W B r h = true) (hm : ck m F' W' B' = 0) (hd : ∀ a b, b ≤ h → dem F' W' B' m a b ≤ dem F W B n a b) : fsB m F' W' B' r h = true := by
  obtain ⟨h1, h2⟩ := fsB_iff.1 H
  obtain ⟨c, _, hh⟩ := plB_true h1
  refine fsB_iff.2 ⟨plB_mk hm (by omega) hh, fun a b hab hb => ?_⟩
  have := h2 a b hab hb
  have := hd a b hb
  omega
theorem dem_tail {F W B : Nat → Int} {m a b : Nat} (h : 0 ≤ B 0) : dem (fun i => F (1 + i)) (fun i => W (1 + i)) (fun i => B (1 + i)) m a b ≤ dem F W B (1 + m) a b := by
  unfold dem
  rw [sumN_split]
  have := Int.mul_nonneg (cntR_nonneg (F 0) (W 0) a b) h
  show sumN (fun i => cntR (F (1 + i)) (W (1 + i)) a b * B (1 + i)) m ≤ (0 + cntR (F 0) (W 0) a b * B 0) + sumN (fun i => cntR (F (1 + i)) (W (1 + i)) a b * B (1 + i)) m
  omega
theorem dem_half {F W B : Nat → Int} {n k a b : Nat} (hB : ∀ i, i < n → 0 ≤ B i) : dem F W (putI B k (B k / 2)) n a b ≤ dem F W B n a b := by
  unfold dem
  refine sumN_le fun i hi => ?_
  have := hB i hi
  unfold putI
  split
  · rename_i e
    subst e
    exact Int.mul_le_mul_of_nonneg_left (by omega) (cntR_nonneg _ _ _ _)
  · exact Int.le_refl _

set_option maxRecDepth 100000 in
set_option maxHeartbeats 1600000 in
theorem more6 (a : Option Addr) (b m n c : Nat) (xs : Nat → Int) (x1 x2 : Int) (w : World) (L : ListIn w a b m n c xs) (hn : n ≤ 140737488351232) (b1 : 0 ≤ x1 ∧ x1 ≤ 255) (b2 : 0 ≤ x2 ∧ x2 ≤ 255) :
    Calls Try.prog 6 #[.slice a n c, .int .u8 x1, .int .u8 x2] w fun e w' => e = .returned (.bool true) ∧ Below w.heap.size w w' := by
  have HL := Lib.hid L
  clear L
  by_cases h300 : n ≤ 300
  · have hd : decide (n ≤ 300) = true := by simpa using h300
    have m1 : 0 ≤ x1 % 60 ∧ x1 % 60 ≤ 59 := by omega
    obtain ⟨i0, hi, hz0, hz1, hz2⟩ := info_split gInfo
    have HI := Lib.hid hi
    have HZ0 := Lib.hid hz0
    have HZ1 := Lib.hid hz1
    have HZ2 := Lib.hid hz2
    clear hi hz0 hz1 hz2
    go_enter Try.func6, Try.ntmps6
    go_wp2_with fail
    refine (light_any a n c _).mono ?_
    rw [hd]
    rintro e w' ⟨rfl, rfl⟩
    go_wp2_with fail
    refine (roll_any _ a b m n c xs h300 HL.out.hc HL.out.h0 HL.out.ha HL.out.hx).mono ?_
    rintro e w0 ⟨p, g, aa, cap, rfl, hD, hp, hB⟩
    have HB0 := Lib.hid hB
    have HD0 := Lib.hid hD
    clear hB hD hd
    go_wp2_with fail
    refine (dice_next p g aa cap n xs 0 4 _ (by omega) h300 HD0.out).mono ?_
    have bv := dval_bd xs n 0 4 (by omega)
    generalize dval xs n 0 4 = v1 at *
    have hk1 : dnext n 0 ≤ n := dnext_le (by omega)
    generalize dnext n 0 = k1 at *
    rintro e w1 ⟨rfl, hD, hO⟩
    have HB1 := Lib.hid (HB0.out.trans (only_below hO hp HB0.out.size))
    have HD1 := Lib.hid hD
    clear hD hO HD0 HB0
    go_wp2_with fail
    refine (guarantees14 p g aa cap n xs k1 (1 + v1) _ (by omega) h300 hk1 HD1.out).mono ?_
    rintro e w2 ⟨N, gb, gc, kd, F, W, B, rfl, ⟨hN1, hN4, hNc⟩, ⟨hgb1, hgb2⟩, hcells, hmade, hD, hkd, hO⟩
    have HB2 := Lib.hid (HB1.out.trans (only_below hO hp HB1.out.size))
    have z2 := HB2.out.size
    have HC := Lib.hid hcells
    have hvg : ∀ k, k < N → vg (F k) (W k) (B k) = true := fun k hk => (hmade k hk).vg (by omega)
    have HV := Lib.hid hvg
    clear hcells hmade hO hD HB1 HD1 hvg
    go_upto_region 7 with fail
    generalize x1 % 60 = y1 at *
    obtain ⟨H, rfl⟩ : ∃ u : Nat, y1 = u := ⟨y1.toNat, by omega⟩
    obtain ⟨r, hr⟩ : ∃ r : Int, 1 + v1 = r := ⟨_, rfl⟩
    have br : 1 ≤ r ∧ r ≤ 4 := by omega
    rw [hr]
    clear hr bv
    have hml : N ≤ maxLen := by unfold maxLen; omega
    have k16 := feasible16 (some ⟨gb, 0, none⟩) N gc F W B r H w2 (R3.of HC.out) hml
    cases hf : fsB N F W B r H
    · rw [hf] at k16
      have K16 := Lib.hid k16
      clear k16 hf
      go_wp2_with fail
      refine K16.out.mono ?_
      rintro e w3 ⟨rfl, hb⟩
      have HB3 := Lib.hid (bthen HB2.out hb HB2.out.size)
      clear hb
      go_wp2_with fail
      refine (awake10 _).mono ?_
      rintro e w4 ⟨rfl, hb⟩
      have HB4 := Lib.hid (bthen HB3.out hb HB3.out.size)
      clear hb
      go_wp2
      go_ret
      exact ⟨rfl, HB4.out⟩
    · rw [hf] at k16
      have K16 := Lib.hid k16
      have HF := Lib.hid hf
      clear k16 hf
      go_wp2_with fail
      refine K16.out.mono ?_
      rintro e w3 ⟨rfl, hb⟩
      have HB3 := Lib.hid (bthen HB2.out hb HB2.out.size)
      have hc3 : ∀ k, k < N → w3.cell? ⟨gb, k * 3, none⟩ = some (.int .i64 (F k)) ∧ w3.cell? ⟨gb, k * 3 + 1, none⟩ = some (.int .i64 (W k)) ∧ w3.cell? ⟨gb, k * 3 + 2, none⟩ = some (.int .i64 (B k)) := fun k hk => ⟨up hb (HC.out k hk).1, up hb (HC.out k hk).2.1, up hb (HC.out k hk).2.2⟩
      have HC3 := Lib.hid hc3
      have lb3 := Nat.lt_of_lt_of_le hgb2 hb.size
      clear hb hc3 HC HB2 K16
      have HO := Lib.hid (show (w3.alloc (.cells #[] 39)).ownsRow w3.heap.size 39 3 (.slice (some ⟨w3.heap.size, 0, none⟩) 0 0) 0 [] from ⟨rfl, .inr ⟨w3.heap.size, 0, #[], rfl, Nat.le_refl _, (MapKept.heap_alloc w3 _).1, Nat.le_refl _, by decide, rfl, rfl⟩⟩)
      have hnews : ∀ j u, (flat F W B N)[j]? = some u → (w3.alloc (.cells #[] 39)).cell? ((⟨gb, 0, none⟩ : Addr).add j) = some u := fun j u hu => by
        have hj : j < N * 3 := by have := (List.getElem?_eq_some_iff.1 hu).1; rw [flat_len] at this; exact this
        unfold flat at hu
        rw [List.getElem?_map, List.getElem?_range hj] at hu
        rw [Addr.add_mid, Nat.zero_add, ← hu]
        exact up (below_alloc _ _) (cells_fl HC3.out hj)
      have HN := Lib.hid hnews
      have H1 := Lib.hid (show ∀ u ∈ flat F W B N, u.oneCell' = true from fun u hu => by
        obtain ⟨i, _, rfl⟩ := List.mem_map.1 hu
        rfl)
      have HLN := Lib.hid (flat_len F W B N)
      clear hnews
      go_wp2_with (at_builtin; refine wpList_append_own _ rfl (.tmp 34) (.tmp 35) 22 rfl w3.heap.size 39 i0 (.agg #[.int .i64 0, .int .i64 0, .int .i64 0]) 3 24 Try.underlying22 HI.out HZ0.out HZ1.out HZ2.out rfl (by decide) _ 0 [] rfl HO.out ⟨gb, 0, none⟩ N gc (flat F W B N) rfl HLN.out HN.out H1.out ?c1 ?c2 ?c3 ?_)
      case c1 => unfold maxLen; omega
      case c2 => omega
      case c3 => simp
      intro v' w4 hown hgrow _
      have hB4 : Below w3.heap.size w3 w4 := ((Below.refl w3.heap.size w3).alloc (Nat.le_refl _) _).grown hgrow (by simp) (fun k hk => by simp [Value.ownBlock] at hk; omega)
      obtain ⟨sb, sc, rfl, hsc, hsb1, hsb2, hscell⟩ := own_R3 hown (by omega)
      have hfr : ∀ o, w4.frozen? ⟨sb, o, none⟩ = false := fun o => hown.frozenAt o
      have HSC := Lib.hid hscell
      have HFR := Lib.hid hfr
      have HB4 := Lib.hid (bthen HB3.out hB4 HB3.out.size)
      have HC4 := Lib.hid fun k hk => (⟨up hB4 (HC3.out k hk).1, up hB4 (HC3.out k hk).2.1, up hB4 (HC3.out k hk).2.2⟩ : w4.cell? ⟨gb, k * 3, none⟩ = some (.int .i64 (F k)) ∧ w4.cell? ⟨gb, k * 3 + 1, none⟩ = some (.int .i64 (W k)) ∧ w4.cell? ⟨gb, k * 3 + 2, none⟩ = some (.int .i64 (B k)))
      have nsg : sb ≠ gb := by omega
      have z4 := HB4.out.size
      have zsb : w'.heap.size ≤ sb := by have := HB3.out.size; omega
      clear hown hgrow hB4 hscell hfr HO HN H1 HLN HC3
      have hmod : 0 ≤ x2 % (N : Int) ∧ x2 % (N : Int) < N := ⟨Int.emod_nonneg _ (by omega), Int.emod_lt_of_pos _ (by omega)⟩
      have nz : ((N : Int) == 0) = false := beq_eq_false_iff_ne.2 (by omega)
      have n1 : ((N : Int) == -1) = false := beq_eq_false_iff_ne.2 (by omega)
      go_upto_region 11 with fail
      generalize x2 % (N : Int) = y2 at *
      obtain ⟨q, rfl⟩ : ∃ u : Nat, y2 = u := ⟨y2.toNat, by omega⟩
      have hq : q < N := by omega
      have q0 : (0 : Int) ≤ (q : Int) := by omega
      have q1 : (q : Int) < (N : Int) := by omega
      have hc2 := (HSC.out q hq).2.2
      have hf2 := HFR.out (q * 3 + 2)
      obtain ⟨vF, vW, vB⟩ := vg_true (HV.out q hq)
      have HQ := Lib.hid hq
      go_upto_region 12 with fail
      generalize hws : w4.setCell ⟨sb, q * 3 + 2, none⟩ (.int .i64 (B q / 2)) = w5
      have HB5 := Lib.hid (show Below w'.heap.size w' w5 from hws ▸ HB4.out.setCell (p := ⟨sb, q * 3 + 2, none⟩) zsb _)
      have hg5 : ∀ k, k < N → w5.cell? ⟨gb, k * 3, none⟩ = some (.int .i64 (F k)) ∧ w5.cell? ⟨gb, k * 3 + 1, none⟩ = some (.int .i64 (W k)) ∧ w5.cell? ⟨gb, k * 3 + 2, none⟩ = some (.int .i64 (B k)) := by
        intro k hk
        have := HC4.out k hk
        subst hws
        have ne : ∀ o, (⟨sb, q * 3 + 2, none⟩ : Addr) ≠ ⟨gb, o, none⟩ := fun o e => nsg (by injection e)
        rw [cell_set, if_neg (ne _), cell_set, if_neg (ne _), cell_set, if_neg (ne _)]
        exact this
      have hs5 : ∀ k, k < N → w5.cell? ⟨sb, k * 3, none⟩ = some (.int .i64 (F k)) ∧ w5.cell? ⟨sb, k * 3 + 1, none⟩ = some (.int .i64 (W k)) ∧ w5.cell? ⟨sb, k * 3 + 2, none⟩ = some (.int .i64 (putI B q (B q / 2) k)) := by
        intro k hk
        have := HSC.out k hk
        subst hws
        have n1 : (⟨sb, q * 3 + 2, none⟩ : Addr) ≠ ⟨sb, k * 3, none⟩ := fun e => by injection e; omega
        have n2 : (⟨sb, q * 3 + 2, none⟩ : Addr) ≠ ⟨sb, k * 3 + 1, none⟩ := fun e => by injection e; omega
        rw [cell_set, if_neg n1, cell_set, if_neg n2, cell_set]
        refine ⟨this.1, this.2.1, ?_⟩
        unfold putI
        by_cases e : k = q
        · subst e
          rw [if_pos rfl, if_pos rfl, this.2.2]
          rfl
        · have n3 : (⟨sb, q * 3 + 2, none⟩ : Addr) ≠ ⟨sb, k * 3 + 2, none⟩ := fun e => by injection e; omega
          rw [if_neg n3, if_neg e]
          exact this.2.2
      have hvs : ∀ k, k < N → vg (F k) (W k) (putI B q (B q / 2) k) = true := by
        intro k hk
        have := vg_true (HV.out k hk)
        unfold putI
        split
        · rename_i e
          subst e
          exact decide_eq_true (by omega)
        · exact HV.out k hk
      have hbn : ∀ k, k < N → 0 ≤ B k := fun k hk => (vg_true (HV.out k hk)).2.2.2.2.1
      have F1 := more_res br HF.out
      have F2 : fsB (N - 1) (fun i => F (1 + i)) (fun i => W (1 + i)) (fun i => B (1 + i)) r H = true := more_less br HF.out (ck_all (by omega) fun k hk => HV.out (1 + k) (by omega)) fun a b _ => by
        have := dem_tail (F := F) (W := W) (B := B) (m := N - 1) (a := a) (b := b) (hbn 0 (by omega))
        rwa [show 1 + (N - 1) = N by omega] at this
      have F3 : fsB N F W (putI B q (B q / 2)) r H = true := more_less br HF.out (ck_all hN4 hvs) fun a b _ => dem_half hbn
      have F4 : fsB N F W B r ((H - H / 3 : Nat) : Int) = true := more_near br HF.out (by omega)
      have k1 := fun (wx : World) (hx : Below w5.heap.size w5 wx) => feasible16 (some ⟨gb, 0, none⟩) N gc F W B (r + 1) H wx ((R3.of hg5).mono hx) hml
      have k2 := fun (wx : World) (hx : Below w5.heap.size w5 wx) => feasible16 (some ⟨gb, 3, none⟩) (N - 1) (gc - 1) (fun i => F (1 + i)) (fun i => W (1 + i)) (fun i => B (1 + i)) r H wx ((R3.tail 1 (N - 1) (by omega) hg5).mono hx) (by omega)
      have k3 := fun (wx : World) (hx : Below w5.heap.size w5 wx) => feasible16 (some ⟨sb, 0, none⟩) N sc F W (putI B q (B q / 2)) r H wx ((R3.of hs5).mono hx) hml
      have k4 := fun (wx : World) (hx : Below w5.heap.size w5 wx) => feasible16 (some ⟨gb, 0, none⟩) N gc F W B r ((H - H / 3 : Nat) : Int) wx ((R3.of hg5).mono hx) hml
      rw [F1] at k1
      rw [F2] at k2
      rw [F3] at k3
      rw [F4] at k4
      rw [show ((H - H / 3 : Nat) : Int) = (H : Int) - (H : Int) / 3 by omega] at k4
      have K1 := Lib.hid k1
      have K2 := Lib.hid k2
      have K2b := Lib.hid fun (hg : gc = 1) (wx : World) => show Calls Try.prog 16 #[.slice (some ⟨gb, 0, none⟩) (N - 1) 0, .int .i64 r, .int .i64 H] wx fun e w' => e = .returned (.bool true) ∧ Below wx.heap.size wx w' from by
        have := feasible16 (some ⟨gb, 0, none⟩) (N - 1) 0 (fun i => F (1 + i)) (fun i => W (1 + i)) (fun i => B (1 + i)) r H wx ⟨gb, 0, fun _ => rfl, fun k hk => absurd hk (by omega)⟩ (by omega)
        rwa [F2] at this
      have K3 := Lib.hid k3
      have K4 := Lib.hid k4
      have i1 : (1 : Int) ≤ (N : Int) := by omega
      have i3 : (1 : Int) ≤ (gc : Int) := by omega
      have i4 : (N : Int) ≤ (gc : Int) := by omega
      clear k1 k2 k3 k4 F1 F2 F3 F4 hg5 hs5 hvs hbn hc2 hf2 HSC HFR HC4 HV HB4 hws
      have HE0 := Lib.hid (Below.refl w5.heap.size w5)
      go_wp2_with fail
      refine (K1.out _ HE0.out).mono ?_
      rintro e u1 ⟨rfl, hb⟩
      have HE1 := Lib.hid (bthen' HE0.out hb)
      clear hb
      go_wp2_with fail
      all_goals first
        | (have hg : gc = 1 := by assumption
           have k := K2b.out hg u1
           refine k.mono ?_)
        | (have k := K2.out u1 HE1.out
           refine k.mono ?_)
      all_goals
        rintro e u2 ⟨rfl, hb⟩
        have HE2 := Lib.hid (bthen' HE1.out hb)
        clear hb
        go_wp2_with fail
        refine (K3.out _ HE2.out).mono ?_
        rintro e u3 ⟨rfl, hb⟩
        have HE3 := Lib.hid (bthen' HE2.out hb)
        clear hb
        go_wp2_with fail
        first
          | (have hg : gc = 1 := by assumption
             have k := K4.out u3 HE3.out
             rw [hg] at k
             refine k.mono ?_)
          | (have k := K4.out u3 HE3.out
             refine k.mono ?_)
        rintro e u4 ⟨rfl, hb⟩
        have HE4 := Lib.hid (bthen' HE3.out hb)
        clear hb
        go_wp2_with fail
        refine (awake10 _).mono ?_
        rintro e u5 ⟨rfl, hb⟩
        have HE5 := Lib.hid (bthen HB5.out (bthen' HE4.out hb) HB5.out.size)
        clear hb
        go_wp2
        go_ret
        exact ⟨rfl, HE5.out⟩
  · have hd : decide (n ≤ 300) = false := by simpa using h300
    go_enter Try.func6, Try.ntmps6
    go_wp2_with (first
      | (go_at_call 11; refine (light_any a n c _).mono ?_; rw [hd]; rintro e w' ⟨rfl, rfl⟩)
      | (go_at_call 10; refine (awake10 _).mono ?_; rintro e w' ⟨rfl, hb⟩))
    go_ret
    exact ⟨rfl, hb⟩
end Go.Proofs.Yteokhadpenalaaa
