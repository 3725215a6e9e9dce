/- Layer 34: the walk of SchedulerTurns. -/
import Derived.Test.YtdcogbokcbpnnaaP6
import Derived.Test.YtdcogbokcbpnnaaL4
namespace Go.Proofs.Ytdcogbokcbpnnaa
set_option linter.unusedVariables false
set_option linter.unusedSimpArgs false
open Go.RowKit Go.Sort
attribute [local go_sem] gcell
set_option maxRecDepth 100000 in
set_option maxHeartbeats 4000000 in
/-- Counts lie in a new block. -/
theorem counts13v (a : Option Addr) (m c : Nat) (xs : Nat → Int) (N : Nat) (w : World) (H : Row w a m xs) (hm : m ≤ 1000) (h2 : (N : Int) ≤ 4) :
    Calls Try.prog 13 #[.slice a m c, .int .i64 N] w fun e w' => e = .returned (.slice (some ⟨w.heap.size, 0, none⟩) N N) ∧ VAt w' w.heap.size N (iv fun k => cnt xs k m) ∧ Below w.heap.size w w' := by
  have HH := Lib.hid H
  clear H
  have h : (0 : Int) ≤ (N : Int) := by omega
  obtain ⟨i0, hi, hz0, hz1, hz2⟩ := info_split intInfo
  go_enter Try.func13, Try.ntmps13
  go_wp2_with (refine wpList_make_full _ rfl (.tmp 14) (.tmp 14) 23 rfl w.heap.size 3 i0 (.int .i64 0) 1 Try.underlying23 hi hz0 hz1 .i64 .i64 (N : Int) (N : Int) N rfl rfl rfl rfl ?c1 ?c2 (Nat.le_refl _) ?_)
  case c1 => first | omega | (rw [hz2]; omega)
  case c2 => unfold maxLen; omega
  intro w1 hown hgrow
  have HV := Lib.hid ((VAt.made hown).congr fun k _ => show iv (fun k => cnt xs k 0) k = Value.int .i64 0 from rfl)
  have HB := Lib.hid (below_of_grown hgrow)
  clear hown hgrow hz1 hz2 hz0 hi
  generalize hG : w.heap.size = G at *
  have HG := Lib.hid hG
  clear hG
  go_wp2_with fail
  go_loopw [7, 18] (fun s7 s18 wr => ∃ q : Nat, s18 = .int .i64 q ∧ q ≤ m ∧ Below G w wr ∧ VAt wr G N (iv fun k => cnt xs k q)) (fun _ s18 _ => m - (intOf s18).toNat)
  case atStart => exact ⟨0, rfl, Nat.zero_le _, HB.out, HV.out⟩
  case round =>
    clear HB HV
    obtain ⟨q, rfl, hq, hB, hV⟩ := hrel
    have HB := Lib.hid hB
    have HV := Lib.hid hV
    by_cases hlt : q < m
    · obtain ⟨b, o, h1, h3⟩ := HH.out
      have hx := (hB.cell (p := ⟨b, o + q, none⟩) (by rw [← HG.out]; exact lt_of_cell (h3 q hlt))).trans (h3 q hlt)
      obtain rfl := h1 (by omega)
      clear h1 h3
      have hlt' : (q : Int) < (m : Int) := by omega
      have q0 : (0 : Int) ≤ (q : Int) := by omega
      have HS := Lib.hid fun k : Int => show cnt xs k (q + 1) = cnt xs k q + if xs q = k then 1 else 0 from rfl
      generalize xs q = x at *
      rcases (show x < 0 ∨ (0 ≤ x ∧ (N : Int) ≤ x) ∨ (0 ≤ x ∧ x < N) by omega) with hx0 | ⟨hx0, hx1⟩ | ⟨hx0, hx1⟩
      · have HV2 := Lib.hid (hV.congr fun k hk => show iv (fun k => cnt xs k (q + 1)) k = iv _ k from congrArg (Value.int .i64) (show cnt xs (k : Int) (q + 1) = cnt xs (k : Int) q by rw [HS.out, if_neg (by omega)]; simp))
        clear hB hV
        go_wp2
        go_roundw
        case rel => exact ⟨q + 1, by go_num, by omega, HB.out, HV2.out⟩
        case measure => simp [intOf]; omega
      · have HV2 := Lib.hid (hV.congr fun k hk => show iv (fun k => cnt xs k (q + 1)) k = iv _ k from congrArg (Value.int .i64) (show cnt xs (k : Int) (q + 1) = cnt xs (k : Int) q by rw [HS.out, if_neg (by omega)]; simp))
        clear hB hV
        go_wp2
        go_roundw
        case rel => exact ⟨q + 1, by go_num, by omega, HB.out, HV2.out⟩
        case measure => simp [intOf]; omega
      · obtain ⟨k, rfl⟩ := Int.eq_ofNat_of_zero_le hx0
        have hk : k < N := by omega
        have d0 := hV.c k hk
        have fd := hV.fr k
        unfold iv at d0
        simp only at d0
        have cb := cnt_bd xs k q
        have HV2 := Lib.hid ((hV.setI k (cnt xs k q + 1)).congr fun j hj => show iv (fun k => cnt xs k (q + 1)) j = iv _ j from congrArg (Value.int .i64) (show cnt xs (j : Int) (q + 1) = if j = k then cnt xs (k : Int) q + 1 else cnt xs (j : Int) q by
          rw [HS.out]
          by_cases e : j = k
          · subst e; rw [if_pos rfl, if_pos rfl]
          · rw [if_neg (by omega), if_neg e, Int.add_zero]))
        have HB2 := Lib.hid (hB.setCell (p := ⟨G, k, none⟩) (Nat.le_refl _) (.int .i64 (cnt xs k q + 1)))
        clear hB hV HB HV
        generalize cnt xs k q = cv at *
        go_wp2
        go_roundw
        case rel => exact ⟨q + 1, by go_num, by omega, HB2.out, HV2.out⟩
        case measure => simp [intOf]; omega
    · obtain rfl : q = m := by omega
      clear hB hV
      go_wp2
      go_ret
      exact ⟨by rw [HG.out]; rfl, by rw [HG.out]; exact HV.out, by rw [HG.out]; exact HB.out⟩
def stm (len : Nat) (xs : Nat → Int) (j : Nat) : Int := if j < len then xs j % 300 else 0
theorem mInfo : (Try.prog.info? 39).map (fun i => (i.zero, i.size, i.bytes)) = some (some (.agg #[.int .i64 0]), 1, 8) := by kernel_rfl
set_option maxRecDepth 100000 in
set_option maxHeartbeats 16000000 in
theorem turns7 (many res by0 ql : Int) (a : Option Addr) (len cap b m : Nat) (xs : Nat → Int) (w : World) (h1 : 0 ≤ many ∧ many ≤ 255) (h2 : 0 ≤ res ∧ res ≤ 255) (h3 : 0 ≤ by0 ∧ by0 ≤ 255) (h4 : 0 ≤ ql ∧ ql ≤ 255)
    (hl : len ≤ 140737488351232) (ha : 0 < len → a = some ⟨b, m, none⟩) (hx : ∀ k, k < len → w.cell? ⟨b, m + k, none⟩ = some (.int .u16 (xs k)) ∧ 0 ≤ xs k ∧ xs k ≤ 65535) :
    Calls Try.prog 7 #[.int .u8 many, .int .u8 res, .int .u8 by0, .int .u8 ql, .slice a len cap] w fun e w' => e = .returned (.bool true) ∧ Below w.heap.size w w' := by
  have HA := Lib.hid ha
  have HX := Lib.hid hx
  clear ha hx
  obtain ⟨N, hN, bN⟩ : ∃ N : Nat, 1 + many % 4 = N ∧ 1 ≤ N ∧ N ≤ 4 := ⟨(1 + many % 4).toNat, by omega, by omega⟩
  obtain ⟨R, hR, bR⟩ : ∃ R : Nat, 3 + res % 10 = R ∧ 3 ≤ R ∧ R ≤ 12 := ⟨(3 + res % 10).toNat, by omega, by omega⟩
  obtain ⟨q, hQ, bQ⟩ : ∃ q : Int, 10 + ql % 6 = q ∧ 10 ≤ q ∧ q ≤ 15 := ⟨_, rfl, by omega⟩
  obtain ⟨y, hY, bY⟩ : ∃ y : Int, 1 + by0 = y ∧ 1 ≤ y ∧ y ≤ 256 := ⟨_, rfl, by omega⟩
  have n0 : (0 : Int) ≤ (N : Int) := by omega
  go_enter Try.func7, Try.ntmps7
  obtain ⟨i0, hi, hz0, hz1, hz2⟩ := info_split mInfo
  obtain ⟨j0, ki, kz0, kz1, kz2⟩ := info_split intInfo
  go_upto_region 4 with fail
  clear hR hQ hN
  go_wp2_with (refine wpList_make_full _ rfl (.tmp 36) (.tmp 36) 45 rfl w.heap.size 39 i0 (.agg #[.int .i64 0]) 1 Try.underlying45 hi hz0 hz1 .i64 .i64 (N : Int) (N : Int) N rfl rfl rfl rfl ?c1 ?c2 (Nat.le_refl _) ?_)
  case c1 => first | omega | (rw [hz2]; omega)
  case c2 => unfold maxLen; omega
  intro w1 hown hgrow
  have HV := Lib.hid ((VAt.made (e := 39) (v := .int .i64 0) hown).congr fun k _ => show iv (fun k => if k < 0 then xs k % 300 else 0) k = Value.int .i64 0 from by show Value.int .i64 (if k < 0 then xs k % 300 else 0) = _; rw [if_neg (by omega)])
  have HB := Lib.hid (below_of_grown hgrow)
  clear hown hgrow hz1 hz2 hz0 hi
  go_wp2_with fail
  go_loopw [15] (fun s15 wr => ∃ k : Nat, s15 = .int .i64 k ∧ k ≤ N ∧ Below w.heap.size w wr ∧ VAt wr w.heap.size N (iv fun j => if j < len ∧ j < k then xs j % 300 else 0)) (fun s15 _ => N - (intOf s15).toNat)
  case atStart => exact ⟨0, rfl, Nat.zero_le _, HB.out, HV.out.congr fun k _ => by show Value.int .i64 (if k < len ∧ k < 0 then xs k % 300 else 0) = Value.int .i64 (if k < 0 then xs k % 300 else 0); rw [if_neg (by omega), if_neg (by omega)]⟩
  case round =>
    clear HB HV
    obtain ⟨k, rfl, hk, hB, hV⟩ := hrel
    have HB := Lib.hid hB
    have HV := Lib.hid hV
    have k0 : (0 : Int) ≤ (k : Int) := by omega
    by_cases hlt : k < N ∧ k < len
    · obtain ⟨hlt, hkl⟩ := hlt
      have k1 : (k : Int) < (N : Int) := by omega
      have k2 : (k : Int) < (len : Int) := by omega
      obtain ⟨hx, hx0, hx1⟩ := HX.out k hkl
      have hx := up hB hx
      obtain rfl := HA.out (by omega)
      have d0 := hV.c k hlt
      have fd := hV.fr k
      unfold iv at d0
      simp only at d0
      rw [if_neg (by omega)] at d0
      have HV2 := Lib.hid ((hV.setI k (xs k % 300)).congr fun j hj => show iv (fun j => if j < len ∧ j < k + 1 then xs j % 300 else 0) j = iv _ j from congrArg (Value.int .i64) (show (if j < len ∧ j < k + 1 then xs j % 300 else 0) = if j = k then xs k % 300 else if j < len ∧ j < k then xs j % 300 else 0 by
        by_cases e : j = k
        · subst e; rw [if_pos ⟨hkl, by omega⟩, if_pos rfl]
        · rw [if_neg e]
          by_cases e2 : j < len ∧ j < k
          · rw [if_pos e2, if_pos ⟨e2.1, by omega⟩]
          · rw [if_neg e2, if_neg (by omega)]))
      have HB2 := Lib.hid (hB.setCell (p := ⟨w.heap.size, k, none⟩) (Nat.le_refl _) (.int .i64 (xs k % 300)))
      clear hB hV HB HV
      generalize xs k = xk at *
      go_wp2
      go_roundw
      case rel => exact ⟨k + 1, by go_num, by omega, HB2.out, HV2.out⟩
      case measure => simp [intOf]; omega
    · have HM := Lib.hid (hV.congr (g := iv (stm len xs)) fun j hj => congrArg (Value.int .i64) (show (if j < len then xs j % 300 else 0) = if j < len ∧ j < k then xs j % 300 else 0 by
        by_cases e : j < len
        · rw [if_pos e, if_pos ⟨e, by omega⟩]
        · rw [if_neg e, if_neg (by omega)]))
      have HM0 := Lib.hid (show ∀ j, j < N → 0 ≤ stm len xs j ∧ stm len xs j ≤ 299 from fun j hj => by
        unfold stm
        split <;> omega)
      clear hV HV
      generalize stm len xs = m0 at *
      by_cases hkN : k < N
      · have hkl : ¬ k < len := fun h => hlt ⟨hkN, h⟩
        clear hlt
        go_upto_region 9 with fail
        have hlM := HM.out.lt
        go_wp2_with (refine wpList_make_full _ rfl (.tmp 59) (.tmp 59) 23 rfl wr.heap.size 3 j0 (.int .i64 0) 1 Try.underlying23 ki kz0 kz1 .i64 .i64 (N : Int) (N : Int) N rfl rfl rfl rfl ?c1 ?c2 (Nat.le_refl _) ?_)
        case c1 => first | omega | (rw [kz2]; omega)
        case c2 => unfold maxLen; omega
        intro w2 hown hgrow
        have hgb := below_of_grown hgrow
        have HL := Lib.hid ((VAt.made (e := 3) (v := .int .i64 0) hown).congr fun k _ => show iv (fun j => ((lT q y R N m0 0 j : Nat) : Int)) k = Value.int .i64 0 from rfl)
        have HM2 := Lib.hid (show VAt w2 w.heap.size N (iv (mT q y R N m0 0)) from HM.out.mono hgb)
        have HB2 := Lib.hid (bthen' HB.out hgb)
        have HGL := Lib.hid (show w.heap.size < wr.heap.size from hlM)
        clear hown hgrow hgb ki kz0 kz1 kz2 hlM HM hB HB
        generalize wr.heap.size = G at *
        have HMB := Lib.hid (mT_bd (q := q) (y := y) (R := R) (n := N) (m0 := m0) bQ bY.1 bR HM0.out)
        have HWT := Lib.hid (turns_wait (q := q) (y := y) (R := R) (n := N) (m0 := m0) bQ bY.1 bR bN.2 HM0.out)
        have HLE := Lib.hid (lT_le (q := q) (y := y) (R := R) (n := N) (m0 := m0))
        have hK := bytes_bd q (covK q y R)
        have HKB := Lib.hid hK
        clear hK HM0 hl HA HX
        go_wp2_with fail
        go_loopw [17, 18, 19, 20, 21, 22, 23] (fun s17 s18 s19 s20 s21 s22 s23 wr => ∃ t : Nat, s17 = .int .i64 ((t : Int) + 1) ∧ t ≤ 200 ∧ Below w.heap.size w wr ∧ VAt wr w.heap.size N (iv (mT q y R N m0 t)) ∧ VAt wr G N (iv fun j => ((lT q y R N m0 t j : Nat) : Int))) (fun s17 _ _ _ _ _ _ _ => 201 - (intOf s17).toNat)
        case atStart => exact ⟨0, rfl, Nat.zero_le _, HB2.out, HM2.out, HL.out⟩
        case round =>
          clear HB2 HM2 HL
          obtain ⟨t, rfl, ht, hB, hM, hL⟩ := hrel
          obtain ⟨wo, rfl⟩ : ∃ wo, wo = wr := ⟨_, rfl⟩
          have HBo := Lib.hid hB
          have HMo := Lib.hid hM
          have HLo := Lib.hid hL
          have lG := Lib.hid hL.lt
          clear hB hM hL
          have t0 : (0 : Int) ≤ (t : Int) := by omega
          by_cases h200 : t < 200
          · have t1 : (t : Int) + 1 ≤ 200 := by omega
            go_wp2_with fail
            go_loopw [18, 19] (fun s18 s19 wx => ∃ i : Nat, s19 = .int .i64 i ∧ i ≤ N ∧ wx.ownsRow wo.heap.size 41 7 s18 i ((List.range (i * 7)).map (dcell (tuD q y (mT q y R N m0 t)))) ∧ Below wo.heap.size wo wx) (fun _ s19 _ => N - (intOf s19).toNat)
            case atStart => exact ⟨0, rfl, Nat.zero_le _, own_nilK _ _ _ _ _, Below.refl _ _⟩
            case round =>
              obtain ⟨i, rfl, hi, hown, hB⟩ := hrel
              have HB1 := Lib.hid hB
              have HO := Lib.hid hown
              have i0 : (0 : Int) ≤ (i : Int) := by omega
              by_cases hlt : i < N
              · have i1 : (i : Int) < (N : Int) := by omega
                have c0 := (HMo.out.mono hB).c i hlt
                unfold iv at c0
                have HAT := Lib.hid (dcell_at (tuD q y (mT q y R N m0 t)) i)
                rw [show tuD q y (mT q y R N m0 t) i = ⟨q, 0, y, mT q y R N m0 t i, 0, 0, 0⟩ from rfl] at HAT
                simp only at HAT
                have hsz := hB.size
                clear hown hB
                generalize mT q y R N m0 t i = x at *
                go_wp2_with (at_builtin; refine wpList_append_elem wr wo wo.heap.size rfl (.tmp 70) (.tmp 80) 22 rfl 41 dz 7 56 Try.underlying22 dInfo rfl (by decide) (by decide) _ i (dcell (tuD q y (mT q y R N m0 t))) rfl #[.int .i64 q, .int .i64 0, .int .i64 y, .int .i64 x, .int .i64 0, .int .i64 0, .int .i64 0] rfl rfl (one7 _ _ _ _ _ _ _) (dcell (tuD q y (mT q y R N m0 t))) (fun j hj => rfl) HAT.out HO.out HB1.out hsz (by omega) ?_; intro v' w7 hown hB7 hs7 hg7 ha7; have HO7 := Lib.hid hown; have HB7 := Lib.hid hB7; clear hown hB7 hs7 hg7 ha7 HO HB1)
                go_roundw
                case rel => exact ⟨i + 1, by go_num, by omega, HO7.out, HB7.out⟩
                case measure => simp [intOf]; omega
              · obtain rfl : i = N := by omega
                clear hB
                have HB2 := Lib.hid (bthen' HBo.out HB1.out)
                have HM2 := Lib.hid (HMo.out.mono HB1.out)
                have HL2 := Lib.hid (HLo.out.mono HB1.out)
                have lw := Nat.lt_of_lt_of_le lG.out HB1.out.size
                have LW := Lib.hid lw
                obtain ⟨da, dc, rfl, -, -, hrk⟩ := own_rowK hown
                have HRD := Lib.hid hrk.rd
                clear hown HO hrk HBo HMo HLo HB1 lG lw
                have HOK := Lib.hid (show ∀ j, j < i → dOk (tuD q y (mT q y R i m0 t) j) = true from fun j hj => dOk_true.2 (by
                  have := HMB.out t j hj
                  have := HKB.out
                  show (0 ≤ q ∧ q ≤ 15) ∧ (0 ≤ (0 : Int) ∧ (0 : Int) ≤ 12) ∧ (0 ≤ y ∧ y ≤ 1048576) ∧ (0 ≤ mT q y R i m0 t j ∧ mT q y R i m0 t j ≤ 67108864) ∧ (0 ≤ (0 : Int) ∧ (0 : Int) ≤ 768) ∧ (0 ≤ (0 : Int) ∧ (0 : Int) ≤ 2097152) ∧ 0 ≤ (0 : Int) ∧ (0 : Int) ≤ 15
                  omega))
                have HE := Lib.hid (chk_ok4 (n := i) (L := tuD q y (mT q y R i m0 t)) (R := (R : Int)) ⟨by omega, by omega⟩ (by omega) HOK.out)
                have I := asg_inv2 (R := R) (n := i) (L := tuD q y (mT q y R i m0 t)) (by omega) fun k hk => (dOk_true.1 (HOK.out k hk)).2.2.2.2.2.2
                have KA := Lib.hid (assign18 da i dc (tuD q y (mT q y R i m0 t)) (R : Int) wr HRD.out (by unfold maxLen; omega))
                have HHT := Lib.hid (show ∀ j, hT q y R i m0 t j = (asg R (tuD q y (mT q y R i m0 t)) i).hs j from fun j => rfl)
                clear HOK HRD
                go_wp2_with fail
                refine KA.out.mono ?_
                rintro e w3 ⟨oa, rfl, hrow, hb3⟩
                have HRO := Lib.hid (hrow HE.out)
                have HB3 := Lib.hid (bthen' HB2.out hb3)
                have HM3 := Lib.hid (HM2.out.mono hb3)
                have HL3 := Lib.hid (HL2.out.mono hb3)
                have LW3 := Lib.hid (Nat.lt_of_lt_of_le LW.out hb3.size)
                rw [HE.out, if_pos rfl]
                rw [show ((R : Int)).toNat = R from Int.toNat_natCast R] at HRO ⊢
                clear hrow hb3 KA HB2 HM2 HL2 LW HE
                generalize asg R (tuD q y (mT q y R i m0 t)) i = s at *
                have HI := Lib.hid I
                have KC := Lib.hid (counts13v oa R R s.ow i w3 HRO.out (by omega) (by omega))
                clear I
                go_wp2_with fail
                refine KC.out.mono ?_
                rintro e w4 ⟨rfl, hv, hb4⟩
                have HC4 := Lib.hid (hv.congr (g := iv (hT q y R i m0 t)) fun k hk => congrArg (Value.int .i64) ((HHT.out k).trans (HI.out.cn k hk).symm))
                have HB4 := Lib.hid (bthen' HB3.out hb4)
                have HM4 := Lib.hid (HM3.out.mono hb4)
                have HL4 := Lib.hid (HL3.out.mono hb4)
                have HH4 := Lib.hid (show ∀ j, j < i → 0 ≤ hT q y R i m0 t j ∧ hT q y R i m0 t j ≤ 12 from fun j hj => by rw [HHT.out j]; exact HI.out.i.hs12 j hj)
                clear hv hb4 KC HB3 HM3 HL3 HRO HI HHT
                generalize w3.heap.size = C at *
                go_wp2_with fail
                go_loopw [23] (fun s23 wx => ∃ j : Nat, s23 = .int .i64 j ∧ j ≤ i ∧ Below w.heap.size w wx ∧ VAt wx w.heap.size i (iv fun x => if x < j then mT q y R i m0 (t + 1) x else mT q y R i m0 t x) ∧ VAt wx G i (iv fun x => if x < j then ((lT q y R i m0 (t + 1) x : Nat) : Int) else ((lT q y R i m0 t x : Nat) : Int)) ∧ VAt wx C i (iv (hT q y R i m0 t))) (fun s23 _ => i - (intOf s23).toNat)
                case atStart => exact ⟨0, rfl, Nat.zero_le _, HB4.out, HM4.out.congr fun k hk => congrArg (Value.int .i64) (if_neg (Nat.not_lt_zero _)), HL4.out.congr fun k hk => congrArg (Value.int .i64) (if_neg (Nat.not_lt_zero _)), HC4.out⟩
                case round =>
                  clear HB4 HM4 HL4 HC4
                  obtain ⟨j, rfl, hj, hB, hM, hL, hC⟩ := hrel
                  have HB5 := Lib.hid hB
                  have HM5 := Lib.hid hM
                  have HL5 := Lib.hid hL
                  have HC5 := Lib.hid hC
                  have j0 : (0 : Int) ≤ (j : Int) := by omega
                  by_cases hlt : j < i
                  · have j1 : (j : Int) < (i : Int) := by omega
                    have c0 := hM.c j hlt
                    unfold iv at c0
                    simp only at c0
                    rw [if_neg (Nat.lt_irrefl _)] at c0
                    have fm := hM.fr j
                    have d0 := hC.c j hlt
                    unfold iv at d0
                    have hh := HH4.out j hlt
                    have hmb := HMB.out t j hlt
                    have hkb := HKB.out
                    have lM := hM.lt
                    have lC := hC.lt
                    have HW := Lib.hid (HWT.out (t + 1) j hlt)
                    have HST := Lib.hid (show mT q y R i m0 (t + 1) j = learn (mT q y R i m0 t j) (bytes q (hT q y R i m0 t j)) from rfl)
                    have HLT := Lib.hid (show lT q y R i m0 (t + 1) j = if 0 < hT q y R i m0 t j then t + 1 else lT q y R i m0 t j from rfl)
                    have HLL := Lib.hid (HLE.out j t)
                    have hgl := HGL.out
                    have hlw := LW3.out
                    generalize hXX : mT q y R i m0 t j = x at *
                    have HXX := Lib.hid hXX
                    generalize hHH : hT q y R i m0 t j = h at *
                    have HHH := Lib.hid hHH
                    have bb := bytes_bd q h
                    clear hB hM hL hC hXX hHH
                    have KB := Lib.hid fun W => bytes19 q h W
                    generalize bytes q h = B at *
                    have KL := Lib.hid fun W => learn20 x B W
                    generalize learn x B = z at *
                    go_upto_region 25 with fail
                    refine wp_region_grown_tail 14 (by kernel_rfl) (by kernel_rfl) ?_
                    simp only [List.take_succ_cons, List.take_zero, List.drop_succ_cons, List.drop_zero]
                    repeat (go_big_quiet_step (first | (go_at_call 19; exact Calls.regrown_of ((KB.out _).mono fun e w' h => ⟨h.1, h.2 ▸ Below.refl _ _⟩)) | (go_at_call 20; exact Calls.regrown_of (KL.out _))))
                    refine wpQuiet_nil ?_
                    intro z1 hz1
                    have hb1 := below_of_regrown hz1
                    replace c0 := up hb1 c0
                    replace fm := upf hb1 lM fm
                    have HB6 := Lib.hid ((bthen' HB5.out hb1).setCell (p := ⟨w.heap.size, j, none⟩) (Nat.le_refl _) (.int .i64 z))
                    have HM6 := Lib.hid ((HM5.out.mono hb1).setI j z)
                    have HL6 := Lib.hid ((HL5.out.mono hb1).far (p := w.heap.size) (o := j) (v := .int .i64 z) (by omega))
                    have HC6 := Lib.hid ((HC5.out.mono hb1).far (p := w.heap.size) (o := j) (v := .int .i64 z) (by omega))
                    clear hz1 hb1 HB5 HM5 HL5 HC5 d0 lM lC
                    go_upto_region 26 with fail
                    generalize (z1.setCell ⟨w.heap.size, j, none⟩ (.int .i64 z)) = z2 at *
                    have d0 := HC6.out.c j hlt
                    unfold iv at d0
                    rw [HHH.out] at d0
                    have l0 := HL6.out.c j hlt
                    unfold iv at l0
                    simp only at l0
                    rw [if_neg (Nat.lt_irrefl _)] at l0
                    have fg := HL6.out.fr j
                    have lz := HL6.out.lt
                    clear c0 fm KB KL hmb hkb
                    by_cases hp : 0 < h
                    · have q1 : decide (0 < h) = true := by simp [hp]
                      have HLP := Lib.hid (HLT.out.trans (if_pos hp))
                      have HB7 := Lib.hid (HB6.out.setCell (p := ⟨G, j, none⟩) (by show w.heap.size ≤ G; omega) (.int .i64 ((t : Int) + 1)))
                      have HM7 := Lib.hid (HM6.out.far (p := G) (o := j) (v := .int .i64 ((t : Int) + 1)) (by omega))
                      have HL7 := Lib.hid (HL6.out.setI j ((t : Int) + 1))
                      have HC7 := Lib.hid (HC6.out.far (p := G) (o := j) (v := .int .i64 ((t : Int) + 1)) (by omega))
                      have l5 : (z2.setCell ⟨G, j, none⟩ (.int .i64 ((t : Int) + 1))).cell? ⟨G, j, none⟩ = some (.int .i64 ((t : Int) + 1)) := by rw [cell_set, if_pos rfl, l0]; rfl
                      clear HB6 HM6 HL6 HC6 hp
                      go_wp2
                      go_roundw
                      case rel => exact ⟨j + 1, by go_num, by omega, HB7.out, HM7.out.congr fun x hx => congrArg (Value.int .i64) (show (if x < j + 1 then mT q y R i m0 (t + 1) x else mT q y R i m0 t x) = if x = j then z else if x < j then mT q y R i m0 (t + 1) x else mT q y R i m0 t x by
                        by_cases e : x = j
                        · subst e; rw [if_pos (Nat.lt_succ_self _), if_pos rfl]; exact HST.out
                        · rw [if_neg e]
                          by_cases e2 : x < j
                          · rw [if_pos (by omega), if_pos e2]
                          · rw [if_neg (by omega), if_neg e2]), HL7.out.congr fun x hx => congrArg (Value.int .i64) (show (if x < j + 1 then ((lT q y R i m0 (t + 1) x : Nat) : Int) else ((lT q y R i m0 t x : Nat) : Int)) = if x = j then (t : Int) + 1 else if x < j then ((lT q y R i m0 (t + 1) x : Nat) : Int) else ((lT q y R i m0 t x : Nat) : Int) by
                        by_cases e : x = j
                        · subst e; rw [if_pos (Nat.lt_succ_self _), if_pos rfl, HLP.out]; omega
                        · rw [if_neg e]
                          by_cases e2 : x < j
                          · rw [if_pos (by omega), if_pos e2]
                          · rw [if_neg (by omega), if_neg e2]), HC7.out⟩
                      case measure => simp [intOf]; omega
                    · have q1 : decide (0 < h) = false := by simp; omega
                      have HLP := Lib.hid (HLT.out.trans (if_neg hp))
                      have hw := HW.out
                      rw [HLP.out] at hw
                      have hll := HLL.out
                      have HB7 := HB6
                      have HM7 := HM6
                      have HL7 := HL6
                      have HC7 := HC6
                      clear HB6 HM6 HL6 HC6 hp
                      generalize hLV : lT q y R i m0 t j = lv at *
                      have q2 : decide (40 < (t : Int) + 1 - (lv : Int)) = false := by simp; omega
                      have HLV := Lib.hid hLV
                      clear hLV
                      go_wp2
                      go_roundw
                      case rel => exact ⟨j + 1, by go_num, by omega, HB7.out, HM7.out.congr fun x hx => congrArg (Value.int .i64) (show (if x < j + 1 then mT q y R i m0 (t + 1) x else mT q y R i m0 t x) = if x = j then z else if x < j then mT q y R i m0 (t + 1) x else mT q y R i m0 t x by
                        by_cases e : x = j
                        · subst e; rw [if_pos (Nat.lt_succ_self _), if_pos rfl]; exact HST.out
                        · rw [if_neg e]
                          by_cases e2 : x < j
                          · rw [if_pos (by omega), if_pos e2]
                          · rw [if_neg (by omega), if_neg e2]), HL7.out.congr fun x hx => congrArg (Value.int .i64) (show (if x < j + 1 then ((lT q y R i m0 (t + 1) x : Nat) : Int) else ((lT q y R i m0 t x : Nat) : Int)) = if x < j then ((lT q y R i m0 (t + 1) x : Nat) : Int) else ((lT q y R i m0 t x : Nat) : Int) by
                        by_cases e : x = j
                        · subst e; rw [if_pos (Nat.lt_succ_self _), if_neg (Nat.lt_irrefl _), HLP.out, HLV.out]
                        · by_cases e2 : x < j
                          · rw [if_pos (by omega), if_pos e2]
                          · rw [if_neg (by omega), if_neg e2]), HC7.out⟩
                      case measure => simp [intOf]; omega
                  · obtain rfl : j = i := by omega
                    have HM6 := Lib.hid (hM.congr (g := iv (mT q y R j m0 (t + 1))) fun x hx => congrArg (Value.int .i64) (show mT q y R j m0 (t + 1) x = if x < j then mT q y R j m0 (t + 1) x else mT q y R j m0 t x from (if_pos hx).symm))
                    have HL6 := Lib.hid (hL.congr (g := iv fun x => ((lT q y R j m0 (t + 1) x : Nat) : Int)) fun x hx => congrArg (Value.int .i64) (show ((lT q y R j m0 (t + 1) x : Nat) : Int) = if x < j then ((lT q y R j m0 (t + 1) x : Nat) : Int) else ((lT q y R j m0 t x : Nat) : Int) from (if_pos hx).symm))
                    clear hB hM hL hC HM5 HL5 HC5
                    go_wp2
                    go_roundw
                    case rel => exact ⟨t + 1, by go_num, by omega, HB5.out, HM6.out, HL6.out⟩
                    case measure => simp [intOf]; omega
          · obtain rfl : t = 200 := by omega
            go_wp2_with fail
            refine (awake10 _).mono ?_
            rintro e w9 ⟨rfl, hb⟩
            have HBA := Lib.hid (bthen' HBo.out hb)
            clear hb
            go_wp2
            go_ret
            exact ⟨rfl, HBA.out⟩
      · clear hlt
        go_upto_region 9 with fail
        have hlM := HM.out.lt
        go_wp2_with (refine wpList_make_full _ rfl (.tmp 59) (.tmp 59) 23 rfl wr.heap.size 3 j0 (.int .i64 0) 1 Try.underlying23 ki kz0 kz1 .i64 .i64 (N : Int) (N : Int) N rfl rfl rfl rfl ?c1 ?c2 (Nat.le_refl _) ?_)
        case c1 => first | omega | (rw [kz2]; omega)
        case c2 => unfold maxLen; omega
        intro w2 hown hgrow
        have hgb := below_of_grown hgrow
        have HL := Lib.hid ((VAt.made (e := 3) (v := .int .i64 0) hown).congr fun k _ => show iv (fun j => ((lT q y R N m0 0 j : Nat) : Int)) k = Value.int .i64 0 from rfl)
        have HM2 := Lib.hid (show VAt w2 w.heap.size N (iv (mT q y R N m0 0)) from HM.out.mono hgb)
        have HB2 := Lib.hid (bthen' HB.out hgb)
        have HGL := Lib.hid (show w.heap.size < wr.heap.size from hlM)
        clear hown hgrow hgb ki kz0 kz1 kz2 hlM HM hB HB
        generalize wr.heap.size = G at *
        have HMB := Lib.hid (mT_bd (q := q) (y := y) (R := R) (n := N) (m0 := m0) bQ bY.1 bR HM0.out)
        have HWT := Lib.hid (turns_wait (q := q) (y := y) (R := R) (n := N) (m0 := m0) bQ bY.1 bR bN.2 HM0.out)
        have HLE := Lib.hid (lT_le (q := q) (y := y) (R := R) (n := N) (m0 := m0))
        have hK := bytes_bd q (covK q y R)
        have HKB := Lib.hid hK
        clear hK HM0 hl HA HX
        go_wp2_with fail
        go_loopw [17, 18, 19, 20, 21, 22, 23] (fun s17 s18 s19 s20 s21 s22 s23 wr => ∃ t : Nat, s17 = .int .i64 ((t : Int) + 1) ∧ t ≤ 200 ∧ Below w.heap.size w wr ∧ VAt wr w.heap.size N (iv (mT q y R N m0 t)) ∧ VAt wr G N (iv fun j => ((lT q y R N m0 t j : Nat) : Int))) (fun s17 _ _ _ _ _ _ _ => 201 - (intOf s17).toNat)
        case atStart => exact ⟨0, rfl, Nat.zero_le _, HB2.out, HM2.out, HL.out⟩
        case round =>
          clear HB2 HM2 HL
          obtain ⟨t, rfl, ht, hB, hM, hL⟩ := hrel
          obtain ⟨wo, rfl⟩ : ∃ wo, wo = wr := ⟨_, rfl⟩
          have HBo := Lib.hid hB
          have HMo := Lib.hid hM
          have HLo := Lib.hid hL
          have lG := Lib.hid hL.lt
          clear hB hM hL
          have t0 : (0 : Int) ≤ (t : Int) := by omega
          by_cases h200 : t < 200
          · have t1 : (t : Int) + 1 ≤ 200 := by omega
            go_wp2_with fail
            go_loopw [18, 19] (fun s18 s19 wx => ∃ i : Nat, s19 = .int .i64 i ∧ i ≤ N ∧ wx.ownsRow wo.heap.size 41 7 s18 i ((List.range (i * 7)).map (dcell (tuD q y (mT q y R N m0 t)))) ∧ Below wo.heap.size wo wx) (fun _ s19 _ => N - (intOf s19).toNat)
            case atStart => exact ⟨0, rfl, Nat.zero_le _, own_nilK _ _ _ _ _, Below.refl _ _⟩
            case round =>
              obtain ⟨i, rfl, hi, hown, hB⟩ := hrel
              have HB1 := Lib.hid hB
              have HO := Lib.hid hown
              have i0 : (0 : Int) ≤ (i : Int) := by omega
              by_cases hlt : i < N
              · have i1 : (i : Int) < (N : Int) := by omega
                have c0 := (HMo.out.mono hB).c i hlt
                unfold iv at c0
                have HAT := Lib.hid (dcell_at (tuD q y (mT q y R N m0 t)) i)
                rw [show tuD q y (mT q y R N m0 t) i = ⟨q, 0, y, mT q y R N m0 t i, 0, 0, 0⟩ from rfl] at HAT
                simp only at HAT
                have hsz := hB.size
                clear hown hB
                generalize mT q y R N m0 t i = x at *
                go_wp2_with (at_builtin; refine wpList_append_elem wr wo wo.heap.size rfl (.tmp 70) (.tmp 80) 22 rfl 41 dz 7 56 Try.underlying22 dInfo rfl (by decide) (by decide) _ i (dcell (tuD q y (mT q y R N m0 t))) rfl #[.int .i64 q, .int .i64 0, .int .i64 y, .int .i64 x, .int .i64 0, .int .i64 0, .int .i64 0] rfl rfl (one7 _ _ _ _ _ _ _) (dcell (tuD q y (mT q y R N m0 t))) (fun j hj => rfl) HAT.out HO.out HB1.out hsz (by omega) ?_; intro v' w7 hown hB7 hs7 hg7 ha7; have HO7 := Lib.hid hown; have HB7 := Lib.hid hB7; clear hown hB7 hs7 hg7 ha7 HO HB1)
                go_roundw
                case rel => exact ⟨i + 1, by go_num, by omega, HO7.out, HB7.out⟩
                case measure => simp [intOf]; omega
              · obtain rfl : i = N := by omega
                clear hB
                have HB2 := Lib.hid (bthen' HBo.out HB1.out)
                have HM2 := Lib.hid (HMo.out.mono HB1.out)
                have HL2 := Lib.hid (HLo.out.mono HB1.out)
                have lw := Nat.lt_of_lt_of_le lG.out HB1.out.size
                have LW := Lib.hid lw
                obtain ⟨da, dc, rfl, -, -, hrk⟩ := own_rowK hown
                have HRD := Lib.hid hrk.rd
                clear hown HO hrk HBo HMo HLo HB1 lG lw
                have HOK := Lib.hid (show ∀ j, j < i → dOk (tuD q y (mT q y R i m0 t) j) = true from fun j hj => dOk_true.2 (by
                  have := HMB.out t j hj
                  have := HKB.out
                  show (0 ≤ q ∧ q ≤ 15) ∧ (0 ≤ (0 : Int) ∧ (0 : Int) ≤ 12) ∧ (0 ≤ y ∧ y ≤ 1048576) ∧ (0 ≤ mT q y R i m0 t j ∧ mT q y R i m0 t j ≤ 67108864) ∧ (0 ≤ (0 : Int) ∧ (0 : Int) ≤ 768) ∧ (0 ≤ (0 : Int) ∧ (0 : Int) ≤ 2097152) ∧ 0 ≤ (0 : Int) ∧ (0 : Int) ≤ 15
                  omega))
                have HE := Lib.hid (chk_ok4 (n := i) (L := tuD q y (mT q y R i m0 t)) (R := (R : Int)) ⟨by omega, by omega⟩ (by omega) HOK.out)
                have I := asg_inv2 (R := R) (n := i) (L := tuD q y (mT q y R i m0 t)) (by omega) fun k hk => (dOk_true.1 (HOK.out k hk)).2.2.2.2.2.2
                have KA := Lib.hid (assign18 da i dc (tuD q y (mT q y R i m0 t)) (R : Int) wr HRD.out (by unfold maxLen; omega))
                have HHT := Lib.hid (show ∀ j, hT q y R i m0 t j = (asg R (tuD q y (mT q y R i m0 t)) i).hs j from fun j => rfl)
                clear HOK HRD
                go_wp2_with fail
                refine KA.out.mono ?_
                rintro e w3 ⟨oa, rfl, hrow, hb3⟩
                have HRO := Lib.hid (hrow HE.out)
                have HB3 := Lib.hid (bthen' HB2.out hb3)
                have HM3 := Lib.hid (HM2.out.mono hb3)
                have HL3 := Lib.hid (HL2.out.mono hb3)
                have LW3 := Lib.hid (Nat.lt_of_lt_of_le LW.out hb3.size)
                rw [HE.out, if_pos rfl]
                rw [show ((R : Int)).toNat = R from Int.toNat_natCast R] at HRO ⊢
                clear hrow hb3 KA HB2 HM2 HL2 LW HE
                generalize asg R (tuD q y (mT q y R i m0 t)) i = s at *
                have HI := Lib.hid I
                have KC := Lib.hid (counts13v oa R R s.ow i w3 HRO.out (by omega) (by omega))
                clear I
                go_wp2_with fail
                refine KC.out.mono ?_
                rintro e w4 ⟨rfl, hv, hb4⟩
                have HC4 := Lib.hid (hv.congr (g := iv (hT q y R i m0 t)) fun k hk => congrArg (Value.int .i64) ((HHT.out k).trans (HI.out.cn k hk).symm))
                have HB4 := Lib.hid (bthen' HB3.out hb4)
                have HM4 := Lib.hid (HM3.out.mono hb4)
                have HL4 := Lib.hid (HL3.out.mono hb4)
                have HH4 := Lib.hid (show ∀ j, j < i → 0 ≤ hT q y R i m0 t j ∧ hT q y R i m0 t j ≤ 12 from fun j hj => by rw [HHT.out j]; exact HI.out.i.hs12 j hj)
                clear hv hb4 KC HB3 HM3 HL3 HRO HI HHT
                generalize w3.heap.size = C at *
                go_wp2_with fail
                go_loopw [23] (fun s23 wx => ∃ j : Nat, s23 = .int .i64 j ∧ j ≤ i ∧ Below w.heap.size w wx ∧ VAt wx w.heap.size i (iv fun x => if x < j then mT q y R i m0 (t + 1) x else mT q y R i m0 t x) ∧ VAt wx G i (iv fun x => if x < j then ((lT q y R i m0 (t + 1) x : Nat) : Int) else ((lT q y R i m0 t x : Nat) : Int)) ∧ VAt wx C i (iv (hT q y R i m0 t))) (fun s23 _ => i - (intOf s23).toNat)
                case atStart => exact ⟨0, rfl, Nat.zero_le _, HB4.out, HM4.out.congr fun k hk => congrArg (Value.int .i64) (if_neg (Nat.not_lt_zero _)), HL4.out.congr fun k hk => congrArg (Value.int .i64) (if_neg (Nat.not_lt_zero _)), HC4.out⟩
                case round =>
                  clear HB4 HM4 HL4 HC4
                  obtain ⟨j, rfl, hj, hB, hM, hL, hC⟩ := hrel
                  have HB5 := Lib.hid hB
                  have HM5 := Lib.hid hM
                  have HL5 := Lib.hid hL
                  have HC5 := Lib.hid hC
                  have j0 : (0 : Int) ≤ (j : Int) := by omega
                  by_cases hlt : j < i
                  · have j1 : (j : Int) < (i : Int) := by omega
                    have c0 := hM.c j hlt
                    unfold iv at c0
                    simp only at c0
                    rw [if_neg (Nat.lt_irrefl _)] at c0
                    have fm := hM.fr j
                    have d0 := hC.c j hlt
                    unfold iv at d0
                    have hh := HH4.out j hlt
                    have hmb := HMB.out t j hlt
                    have hkb := HKB.out
                    have lM := hM.lt
                    have lC := hC.lt
                    have HW := Lib.hid (HWT.out (t + 1) j hlt)
                    have HST := Lib.hid (show mT q y R i m0 (t + 1) j = learn (mT q y R i m0 t j) (bytes q (hT q y R i m0 t j)) from rfl)
                    have HLT := Lib.hid (show lT q y R i m0 (t + 1) j = if 0 < hT q y R i m0 t j then t + 1 else lT q y R i m0 t j from rfl)
                    have HLL := Lib.hid (HLE.out j t)
                    have hgl := HGL.out
                    have hlw := LW3.out
                    generalize hXX : mT q y R i m0 t j = x at *
                    have HXX := Lib.hid hXX
                    generalize hHH : hT q y R i m0 t j = h at *
                    have HHH := Lib.hid hHH
                    have bb := bytes_bd q h
                    clear hB hM hL hC hXX hHH
                    have KB := Lib.hid fun W => bytes19 q h W
                    generalize bytes q h = B at *
                    have KL := Lib.hid fun W => learn20 x B W
                    generalize learn x B = z at *
                    go_upto_region 25 with fail
                    refine wp_region_grown_tail 14 (by kernel_rfl) (by kernel_rfl) ?_
                    simp only [List.take_succ_cons, List.take_zero, List.drop_succ_cons, List.drop_zero]
                    repeat (go_big_quiet_step (first | (go_at_call 19; exact Calls.regrown_of ((KB.out _).mono fun e w' h => ⟨h.1, h.2 ▸ Below.refl _ _⟩)) | (go_at_call 20; exact Calls.regrown_of (KL.out _))))
                    refine wpQuiet_nil ?_
                    intro z1 hz1
                    have hb1 := below_of_regrown hz1
                    replace c0 := up hb1 c0
                    replace fm := upf hb1 lM fm
                    have HB6 := Lib.hid ((bthen' HB5.out hb1).setCell (p := ⟨w.heap.size, j, none⟩) (Nat.le_refl _) (.int .i64 z))
                    have HM6 := Lib.hid ((HM5.out.mono hb1).setI j z)
                    have HL6 := Lib.hid ((HL5.out.mono hb1).far (p := w.heap.size) (o := j) (v := .int .i64 z) (by omega))
                    have HC6 := Lib.hid ((HC5.out.mono hb1).far (p := w.heap.size) (o := j) (v := .int .i64 z) (by omega))
                    clear hz1 hb1 HB5 HM5 HL5 HC5 d0 lM lC
                    go_upto_region 26 with fail
                    generalize (z1.setCell ⟨w.heap.size, j, none⟩ (.int .i64 z)) = z2 at *
                    have d0 := HC6.out.c j hlt
                    unfold iv at d0
                    rw [HHH.out] at d0
                    have l0 := HL6.out.c j hlt
                    unfold iv at l0
                    simp only at l0
                    rw [if_neg (Nat.lt_irrefl _)] at l0
                    have fg := HL6.out.fr j
                    have lz := HL6.out.lt
                    clear c0 fm KB KL hmb hkb
                    by_cases hp : 0 < h
                    · have q1 : decide (0 < h) = true := by simp [hp]
                      have HLP := Lib.hid (HLT.out.trans (if_pos hp))
                      have HB7 := Lib.hid (HB6.out.setCell (p := ⟨G, j, none⟩) (by show w.heap.size ≤ G; omega) (.int .i64 ((t : Int) + 1)))
                      have HM7 := Lib.hid (HM6.out.far (p := G) (o := j) (v := .int .i64 ((t : Int) + 1)) (by omega))
                      have HL7 := Lib.hid (HL6.out.setI j ((t : Int) + 1))
                      have HC7 := Lib.hid (HC6.out.far (p := G) (o := j) (v := .int .i64 ((t : Int) + 1)) (by omega))
                      have l5 : (z2.setCell ⟨G, j, none⟩ (.int .i64 ((t : Int) + 1))).cell? ⟨G, j, none⟩ = some (.int .i64 ((t : Int) + 1)) := by rw [cell_set, if_pos rfl, l0]; rfl
                      clear HB6 HM6 HL6 HC6 hp
                      go_wp2
                      go_roundw
                      case rel => exact ⟨j + 1, by go_num, by omega, HB7.out, HM7.out.congr fun x hx => congrArg (Value.int .i64) (show (if x < j + 1 then mT q y R i m0 (t + 1) x else mT q y R i m0 t x) = if x = j then z else if x < j then mT q y R i m0 (t + 1) x else mT q y R i m0 t x by
                        by_cases e : x = j
                        · subst e; rw [if_pos (Nat.lt_succ_self _), if_pos rfl]; exact HST.out
                        · rw [if_neg e]
                          by_cases e2 : x < j
                          · rw [if_pos (by omega), if_pos e2]
                          · rw [if_neg (by omega), if_neg e2]), HL7.out.congr fun x hx => congrArg (Value.int .i64) (show (if x < j + 1 then ((lT q y R i m0 (t + 1) x : Nat) : Int) else ((lT q y R i m0 t x : Nat) : Int)) = if x = j then (t : Int) + 1 else if x < j then ((lT q y R i m0 (t + 1) x : Nat) : Int) else ((lT q y R i m0 t x : Nat) : Int) by
                        by_cases e : x = j
                        · subst e; rw [if_pos (Nat.lt_succ_self _), if_pos rfl, HLP.out]; omega
                        · rw [if_neg e]
                          by_cases e2 : x < j
                          · rw [if_pos (by omega), if_pos e2]
                          · rw [if_neg (by omega), if_neg e2]), HC7.out⟩
                      case measure => simp [intOf]; omega
                    · have q1 : decide (0 < h) = false := by simp; omega
                      have HLP := Lib.hid (HLT.out.trans (if_neg hp))
                      have hw := HW.out
                      rw [HLP.out] at hw
                      have hll := HLL.out
                      have HB7 := HB6
                      have HM7 := HM6
                      have HL7 := HL6
                      have HC7 := HC6
                      clear HB6 HM6 HL6 HC6 hp
                      generalize hLV : lT q y R i m0 t j = lv at *
                      have q2 : decide (40 < (t : Int) + 1 - (lv : Int)) = false := by simp; omega
                      have HLV := Lib.hid hLV
                      clear hLV
                      go_wp2
                      go_roundw
                      case rel => exact ⟨j + 1, by go_num, by omega, HB7.out, HM7.out.congr fun x hx => congrArg (Value.int .i64) (show (if x < j + 1 then mT q y R i m0 (t + 1) x else mT q y R i m0 t x) = if x = j then z else if x < j then mT q y R i m0 (t + 1) x else mT q y R i m0 t x by
                        by_cases e : x = j
                        · subst e; rw [if_pos (Nat.lt_succ_self _), if_pos rfl]; exact HST.out
                        · rw [if_neg e]
                          by_cases e2 : x < j
                          · rw [if_pos (by omega), if_pos e2]
                          · rw [if_neg (by omega), if_neg e2]), HL7.out.congr fun x hx => congrArg (Value.int .i64) (show (if x < j + 1 then ((lT q y R i m0 (t + 1) x : Nat) : Int) else ((lT q y R i m0 t x : Nat) : Int)) = if x < j then ((lT q y R i m0 (t + 1) x : Nat) : Int) else ((lT q y R i m0 t x : Nat) : Int) by
                        by_cases e : x = j
                        · subst e; rw [if_pos (Nat.lt_succ_self _), if_neg (Nat.lt_irrefl _), HLP.out, HLV.out]
                        · by_cases e2 : x < j
                          · rw [if_pos (by omega), if_pos e2]
                          · rw [if_neg (by omega), if_neg e2]), HC7.out⟩
                      case measure => simp [intOf]; omega
                  · obtain rfl : j = i := by omega
                    have HM6 := Lib.hid (hM.congr (g := iv (mT q y R j m0 (t + 1))) fun x hx => congrArg (Value.int .i64) (show mT q y R j m0 (t + 1) x = if x < j then mT q y R j m0 (t + 1) x else mT q y R j m0 t x from (if_pos hx).symm))
                    have HL6 := Lib.hid (hL.congr (g := iv fun x => ((lT q y R j m0 (t + 1) x : Nat) : Int)) fun x hx => congrArg (Value.int .i64) (show ((lT q y R j m0 (t + 1) x : Nat) : Int) = if x < j then ((lT q y R j m0 (t + 1) x : Nat) : Int) else ((lT q y R j m0 t x : Nat) : Int) from (if_pos hx).symm))
                    clear hB hM hL hC HM5 HL5 HC5
                    go_wp2
                    go_roundw
                    case rel => exact ⟨t + 1, by go_num, by omega, HB5.out, HM6.out, HL6.out⟩
                    case measure => simp [intOf]; omega
          · obtain rfl : t = 200 := by omega
            go_wp2_with fail
            refine (awake10 _).mono ?_
            rintro e w9 ⟨rfl, hb⟩
            have HBA := Lib.hid (bthen' HBo.out hb)
            clear hb
            go_wp2
            go_ret
            exact ⟨rfl, HBA.out⟩
end Go.Proofs.Ytdcogbokcbpnnaa
