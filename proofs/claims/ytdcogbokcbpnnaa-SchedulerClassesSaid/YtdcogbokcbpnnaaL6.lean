/- Layer 34: the walk of SchedulerClasses. -/
import Derived.Test.YtdcogbokcbpnnaaL4
import Derived.Test.YtdcogbokcbpnnaaTailM
namespace Go.Proofs.Ytdcogbokcbpnnaa
set_option linter.unusedVariables false
set_option linter.unusedSimpArgs false
open Go.RowKit Go.Sort
attribute [local go_sem] gcell
/-- The demands of SchedulerClasses. -/
def clD (q y d : Nat → Int) (i : Nat) : Dm := ⟨q i % 16, 0, y i, 0, 0, 0, d i % 3⟩
theorem three_box (w : World) (x y z : Array Value) (e n : Nat) (f g h : Nat → Value) (hx : ∀ k, k < n → x[k]? = some (f k)) (hy : ∀ k, k < n → y[k]? = some (g k)) (hz : ∀ k, k < n → z[k]? = some (h k)) :
    VAt (((w.alloc (.cells x e)).alloc (.cells y e)).alloc (.cells z e)) w.heap.size n f ∧ VAt (((w.alloc (.cells x e)).alloc (.cells y e)).alloc (.cells z e)) (w.heap.size + 1) n g ∧ VAt (((w.alloc (.cells x e)).alloc (.cells y e)).alloc (.cells z e)) (w.heap.size + 2) n h ∧ Below w.heap.size w (((w.alloc (.cells x e)).alloc (.cells y e)).alloc (.cells z e)) := by
  obtain ⟨h1, h2, h3⟩ := two_box w x y e e n f g hx hy
  refine ⟨h1.mono ((Below.refl _ _).alloc (Nat.le_refl _) _), h2.mono ((Below.refl _ _).alloc (Nat.le_refl _) _), ?_, h3.alloc (by simp; omega) _⟩
  have := vat_alloc ((w.alloc (.cells x e)).alloc (.cells y e)) z e n h hz
  simpa using this
set_option maxRecDepth 100000 in
set_option maxHeartbeats 16000000 in
theorem classes8 (q y d : Nat → Int) (c : Int) (w : World) (hq : ∀ i, i < 3 → 0 ≤ q i ∧ q i ≤ 255) (hy : ∀ i, i < 3 → 0 ≤ y i ∧ y i ≤ 255) (hd : ∀ i, i < 3 → 0 ≤ d i ∧ d i ≤ 255) (hc : 0 ≤ c ∧ c ≤ 255) :
    Calls Try.prog 8 #[.agg #[.int .u8 (q 0), .int .u8 (q 1), .int .u8 (q 2)], .agg #[.int .u8 (y 0), .int .u8 (y 1), .int .u8 (y 2)], .agg #[.int .u8 (d 0), .int .u8 (d 1), .int .u8 (d 2)], .int .u8 c] w fun e w' => e = .returned (.bool true) ∧ Below w.heap.size w w' := by
  obtain ⟨va, vy, vd, hb0⟩ := three_box w #[.int .u8 (q 0), .int .u8 (q 1), .int .u8 (q 2)] #[.int .u8 (y 0), .int .u8 (y 1), .int .u8 (y 2)] #[.int .u8 (d 0), .int .u8 (d 1), .int .u8 (d 2)] 42 3 (uv q) (uv y) (uv d) (uv_at q) (uv_at y) (uv_at d)
  have HB0 := Lib.hid hb0
  have HVA := Lib.hid va
  have HVY := Lib.hid vy
  have HVD := Lib.hid vd
  have HA := Lib.hid hq
  have HY := Lib.hid hy
  have HD := Lib.hid hd
  clear va vy vd hb0 hq hy hd
  obtain ⟨R, hrr, hR⟩ : ∃ R : Nat, c % 13 = R ∧ R ≤ 12 := ⟨(c % 13).toNat, by omega, by omega⟩
  go_enter Try.func8, Try.ntmps8
  go_upto_region 1 with fail
  have LB := Lib.hid (show w.heap.size + 3 ≤ (((w.alloc (.cells #[.int .u8 (q 0), .int .u8 (q 1), .int .u8 (q 2)] 42)).alloc (.cells #[.int .u8 (y 0), .int .u8 (y 1), .int .u8 (y 2)] 42)).alloc (.cells #[.int .u8 (d 0), .int .u8 (d 1), .int .u8 (d 2)] 42)).heap.size by simp)
  generalize (((w.alloc (.cells #[.int .u8 (q 0), .int .u8 (q 1), .int .u8 (q 2)] 42)).alloc (.cells #[.int .u8 (y 0), .int .u8 (y 1), .int .u8 (y 2)] 42)).alloc (.cells #[.int .u8 (d 0), .int .u8 (d 1), .int .u8 (d 2)] 42)) = w1 at *
  go_upto_region 3 with fail
  go_loopw [9, 10] (fun s9 s10 wr => ∃ k : Nat, s10 = .int .i64 k ∧ k ≤ 3 ∧ wr.ownsRow w1.heap.size 41 7 s9 k ((List.range (k * 7)).map (dcell (clD q y d))) ∧ Below w1.heap.size w1 wr) (fun _ s10 _ => 3 - (intOf s10).toNat)
  case atStart => exact ⟨0, rfl, Nat.zero_le _, own_nilK _ _ _ _ _, Below.refl _ _⟩
  case round =>
    obtain ⟨k, rfl, hk, hown, hB⟩ := hrel
    have HB1 := Lib.hid hB
    have HO := Lib.hid hown
    by_cases hlt : k < 3
    · have c0 : wr.cell? ⟨w.heap.size, k, none⟩ = some (.int .u8 (q k)) := (HVA.out.mono hB).c k hlt
      have y0 : wr.cell? ⟨w.heap.size + 1, k, none⟩ = some (.int .u8 (y k)) := (HVY.out.mono hB).c k hlt
      have d0 : wr.cell? ⟨w.heap.size + 2, k, none⟩ = some (.int .u8 (d k)) := (HVD.out.mono hB).c k hlt
      have hak := HA.out k hlt
      have hyk := HY.out k hlt
      have hdk := HD.out k hlt
      have k0 : (0 : Int) ≤ (k : Int) := by omega
      have k1 : (k : Int) < 3 := by omega
      have HAT := Lib.hid (dcell_at (clD q y d) k)
      rw [show clD q y d k = ⟨q k % 16, 0, y k, 0, 0, 0, d k % 3⟩ from rfl] at HAT
      simp only at HAT
      have hsz := hB.size
      have lc := lt_of_cell c0
      have ly := lt_of_cell y0
      have ld := lt_of_cell d0
      clear hown hB hrr
      go_wp2_with fail
      refine wp_region_grown_tail1 (.tmp 9) 16 (by kernel_rfl) (by kernel_rfl) rfl rfl (fun _ _ _ h => h) ?_
      simp only [Nat.reduceSub, List.take_succ_cons, List.take_zero, List.drop_succ_cons, List.drop_zero]
      conv => arg 6; simp [Act.put, Act.eval]
      repeat (go_big_quiet_step (fail))
      refine wpQuiet_nil ?_
      intro w4 hw4
      have hb4 := below_of_regrown hw4
      have HO4 := Lib.hid (own_keepK HO.out hb4)
      have HB4 := Lib.hid (HB1.out.trans (hb4.mono hsz))
      have hsz4 := HB4.out.size
      clear hw4 hb4 HO HB1 c0 d0 y0 lc ly ld
      go_wp2_with (at_builtin; refine wpList_append_elem w4 w1 w1.heap.size rfl (.tmp 21) (.tmp 37) 22 rfl 41 dz 7 56 Try.underlying22 dInfo rfl (by decide) (by decide) _ k (dcell (clD q y d)) rfl #[.int .i64 (q k % 16), .int .i64 0, .int .i64 (y k), .int .i64 0, .int .i64 0, .int .i64 0, .int .i64 (d k % 3)] rfl rfl (one7 _ _ _ _ _ _ _) (dcell (clD q y d)) (fun j hj => rfl) HAT.out HO4.out HB4.out hsz4 (by omega) ?_; intro v' w7 hown hB7 hs7 hg7 ha7; have HO7 := Lib.hid hown; have HB7 := Lib.hid hB7; clear hown hB7 hs7 hg7 ha7 HO4 HB4)
      go_roundw
      case rel => exact ⟨k + 1, by go_num, by omega, HO7.out, HB7.out⟩
      case measure => simp [intOf]; omega
    · obtain rfl : k = 3 := by omega
      clear hB
      have HB2 := Lib.hid (bthen' HB0.out HB1.out)
      obtain ⟨da, dc, rfl, -, -, hrk⟩ := own_rowK hown
      have HRD := Lib.hid hrk.rd
      clear hown HO hrk
      have HOK := Lib.hid (show ∀ j, j < 3 → dOk (clD q y d j) = true from fun j hj => dOk_true.2 (by
        have := HY.out j hj
        unfold clD
        simp only
        omega))
      have HLL := Lib.hid (show ∀ i, i < 3 → (clD q y d i).ag = 0 ∧ (clD q y d i).ow = 0 from fun i hi => ⟨rfl, rfl⟩)
      have HE := Lib.hid (chk_ok4 (n := 3) (L := clD q y d) (R := (R : Int)) ⟨by omega, by omega⟩ (by omega) HOK.out)
      have I := asg_inv2 (R := R) (n := 3) (L := clD q y d) (by omega) fun i hi => (dOk_true.1 (HOK.out i hi)).2.2.2.2.2.2
      have HCL := Lib.hid (asg_classes (R := R) (n := 3) (L := clD q y d) hR HLL.out)
      have KA := Lib.hid (assign18 da 3 dc (clD q y d) (R : Int) wr HRD.out (by unfold maxLen; omega))
      have HBY := Lib.hid (show ∀ i, i < 3 → 0 ≤ (clD q y d i).by' ∧ (clD q y d i).by' ≤ 255 from fun i hi => HY.out i hi)
      clear HOK hk hlt HVA HVD HVY LB HB0 HB1 HA HD HY HLL
      generalize clD q y d = L at *
      go_wp2_with fail
      refine KA.out.mono ?_
      rintro e w3 ⟨oa, rfl, hrow, hb3⟩
      have HRO := Lib.hid (hrow HE.out)
      have HB3 := Lib.hid (bthen' HB2.out hb3)
      have HRD3 := Lib.hid (HRD.out.mono hb3)
      rw [HE.out, if_pos rfl]
      rw [show ((R : Int)).toNat = R from Int.toNat_natCast R] at HRO ⊢
      clear hrow hb3 KA HRD
      generalize asg R L 3 = s at *
      have HI := Lib.hid I
      have KC := Lib.hid (counts13 oa R R s.ow 3 w3 HRO.out (by omega))
      unfold CntR at KC
      rw [show cntN 3 = 3 from rfl] at KC
      clear I
      go_wp2_with fail
      refine KC.out.mono ?_
      rintro e w4 ⟨ca, rfl, hrow, hb4⟩
      obtain ⟨cb, cm, rfl, hcc⟩ : ∃ b m, ca = some ⟨b, m, none⟩ ∧ ∀ k, k < 3 → w4.cell? ⟨b, m + k, none⟩ = some (.int .i64 (s.hs k)) := by
        obtain ⟨b', m', g1, g2⟩ := hrow
        exact ⟨b', m', g1 (by omega), fun k hk => by rw [← HI.out.cn k hk]; exact g2 k hk⟩
      have HCC := Lib.hid hcc
      obtain ⟨db, dm, hde, hdd⟩ := HRD3.out.mono hb4
      obtain rfl := hde (by omega)
      have HDD := Lib.hid hdd
      have HB4 := Lib.hid (bthen' HB3.out hb4)
      clear hrow hb4 KC HRD3 hcc hdd hde hrr
      go_wp2_with fail
      go_loopw [14, 15, 16] (fun s14 s15 s16 wx => ∃ i : Nat, s14 = .int .i64 i ∧ i ≤ 3 ∧ Below w4.heap.size w4 wx) (fun s14 _ _ _ => 3 - (intOf s14).toNat)
      case atStart => exact ⟨0, rfl, Nat.zero_le _, Below.refl _ _⟩
      case round =>
        obtain ⟨i, rfl, hi3, hBi⟩ := hrel
        have HBi := Lib.hid hBi
        clear hBi
        by_cases hi : i < 3
        · have i0 : (0 : Int) ≤ (i : Int) := by omega
          have i1 : (i : Int) < 3 := by omega
          obtain ⟨wo, rfl⟩ : ∃ wo, wo = wr := ⟨_, rfl⟩
          go_wp2_with fail
          go_loopw [15, 16] (fun s15 s16 wx => ∃ k : Nat, s15 = .int .i64 k ∧ k ≤ 3 ∧ Below w4.heap.size w4 wx) (fun s15 _ _ => 3 - (intOf s15).toNat)
          case atStart => exact ⟨0, rfl, Nat.zero_le _, HBi.out⟩
          case round =>
            obtain ⟨k, rfl, hk3, hB⟩ := hrel
            have HB := Lib.hid hB
            by_cases hlt : k < 3
            · have k0 : (0 : Int) ≤ (k : Int) := by omega
              have k1 : (k : Int) < 3 := by omega
              obtain ⟨c0, -, c2, -, -, -, c6⟩ := HDD.out i hi
              obtain ⟨-, -, -, -, -, -, e6⟩ := HDD.out k hlt
              have f0 := HCC.out i hi
              have f1 := HCC.out k hlt
              replace c0 := up hB c0
              replace c2 := up hB c2
              replace c6 := up hB c6
              replace e6 := up hB e6
              replace f0 := up hB f0
              replace f1 := up hB f1
              have lb := lt_of_cell c0
              have lh := lt_of_cell f0
              have hh := HI.out.i.hs12 i hi
              have hhk := HI.out.i.hs12 k hlt
              have hyy := HBY.out i hi
              have hcls := HCL.out i k hi hlt
              clear hB
              generalize (L i).q = q1 at *
              generalize (L i).by' = y1 at *
              generalize (L i).cl = cl at *
              generalize (L k).cl = ck at *
              generalize s.hs i = h at *
              generalize s.hs k = hk at *
              have bb := bytes_bd q1 h
              generalize hBq : bytes q1 h = B at *
              have KB := Lib.hid fun W => bytes19 q1 h W
              rw [hBq] at KB
              clear hBq
              go_wp2_with fail
              refine wp_region_quiet_below (by kernel_rfl) (by kernel_rfl) ?_
              repeat (go_big_quiet_step (first | (go_at_call 19; exact Calls.regrown_of ((KB.out _).mono fun e w' h => ⟨h.1, h.2 ▸ Below.refl _ _⟩))))
              with_reducible refine wpQuiet_nil ?_
              intro z1 hz1
              have hb1 := below_of_regrown hz1
              have HB1z := Lib.hid (bthen' HB.out hb1)
              replace c0 := up hb1 c0
              replace c2 := up hb1 c2
              replace c6 := up hb1 c6
              replace e6 := up hb1 e6
              replace f0 := up hb1 f0
              replace f1 := up hb1 f1
              replace lb := Nat.lt_of_lt_of_le lb hb1.size
              replace lh := Nat.lt_of_lt_of_le lh hb1.size
              clear hz1 hb1
              go_wp2_with fail
              by_cases g1 : cl < ck
              · have p1 : decide (cl < ck) = true := by simp [g1]
                by_cases g2 : 0 < hk
                · have p2 : decide (0 < hk) = true := by simp [g2]
                  by_cases g3 : B < y1
                  · have p3 : decide (B < y1) = true := by simp [g3]
                    by_cases g4 : h + hk ≤ 12
                    · have p4 : decide (h + hk ≤ 12) = true := by simp [g4]
                      have p5 : decide (B < bytes q1 (h + hk)) = false := by have := hcls g1 g2 g3; simp; omega
                      clear hcls g1 g2 g3
                      refine wp_region_quiet_below (by kernel_rfl) (by kernel_rfl) ?_
                      repeat (go_big_quiet_step (first | (go_at_call 19; exact Calls.regrown_of ((bytes19 _ _ _).mono fun e w' h => ⟨h.1, h.2 ▸ Below.refl _ _⟩))))
                      with_reducible refine wpQuiet_nil ?_
                      intro z2 hz2
                      have HBZ := Lib.hid (bthen' HB1z.out (below_of_regrown hz2))
                      clear hz2
                      go_wp2
                      go_roundw
                      case rel => exact ⟨k + 1, by go_num, by omega, HBZ.out⟩
                      case measure => simp [intOf]; omega
                    · have p4 : decide (h + hk ≤ 12) = false := by simp; omega
                      clear hcls g1 g2 g3
                      refine wp_region_quiet_below (by kernel_rfl) (by kernel_rfl) ?_
                      repeat (go_big_quiet_step (first | (go_at_call 19; exact Calls.regrown_of ((bytes19 _ _ _).mono fun e w' h => ⟨h.1, h.2 ▸ Below.refl _ _⟩))))
                      with_reducible refine wpQuiet_nil ?_
                      intro z2 hz2
                      have HBZ := Lib.hid (bthen' HB1z.out (below_of_regrown hz2))
                      clear hz2
                      go_wp2
                      go_roundw
                      case rel => exact ⟨k + 1, by go_num, by omega, HBZ.out⟩
                      case measure => simp [intOf]; omega
                  · have p3 : decide (B < y1) = false := by simp; omega
                    clear hcls g1 g2
                    refine wp_region_quiet_below (by kernel_rfl) (by kernel_rfl) ?_
                    repeat (go_big_quiet_step (first | (go_at_call 19; exact Calls.regrown_of ((bytes19 _ _ _).mono fun e w' h => ⟨h.1, h.2 ▸ Below.refl _ _⟩))))
                    with_reducible refine wpQuiet_nil ?_
                    intro z2 hz2
                    have HBZ := Lib.hid (bthen' HB1z.out (below_of_regrown hz2))
                    clear hz2
                    go_wp2
                    go_roundw
                    case rel => exact ⟨k + 1, by go_num, by omega, HBZ.out⟩
                    case measure => simp [intOf]; omega
                · have p2 : decide (0 < hk) = false := by simp; omega
                  clear hcls g1
                  refine wp_region_quiet_below (by kernel_rfl) (by kernel_rfl) ?_
                  repeat (go_big_quiet_step (first | (go_at_call 19; exact Calls.regrown_of ((bytes19 _ _ _).mono fun e w' h => ⟨h.1, h.2 ▸ Below.refl _ _⟩))))
                  with_reducible refine wpQuiet_nil ?_
                  intro z2 hz2
                  have HBZ := Lib.hid (bthen' HB1z.out (below_of_regrown hz2))
                  clear hz2
                  go_wp2
                  go_roundw
                  case rel => exact ⟨k + 1, by go_num, by omega, HBZ.out⟩
                  case measure => simp [intOf]; omega
              · have p1 : decide (cl < ck) = false := by simp; omega
                clear hcls
                refine wp_region_quiet_below (by kernel_rfl) (by kernel_rfl) ?_
                repeat (go_big_quiet_step (first | (go_at_call 19; exact Calls.regrown_of ((bytes19 _ _ _).mono fun e w' h => ⟨h.1, h.2 ▸ Below.refl _ _⟩))))
                with_reducible refine wpQuiet_nil ?_
                intro z2 hz2
                have HBZ := Lib.hid (bthen' HB1z.out (below_of_regrown hz2))
                clear hz2
                go_wp2
                go_roundw
                case rel => exact ⟨k + 1, by go_num, by omega, HBZ.out⟩
                case measure => simp [intOf]; omega
            · obtain rfl : k = 3 := by omega
              clear hB
              go_wp2
              go_roundw
              case rel => exact ⟨i + 1, by go_num, by omega, HB.out⟩
              case measure => simp [intOf]; omega
        · obtain rfl : i = 3 := by omega
          go_wp2_with fail
          refine (awake10 _).mono ?_
          rintro e w9 ⟨rfl, hb⟩
          have HBA := Lib.hid (bthen' (bthen' HB4.out HBi.out) hb)
          clear hb
          go_wp2
          go_ret
          exact ⟨rfl, HBA.out⟩
end Go.Proofs.Ytdcogbokcbpnnaa
