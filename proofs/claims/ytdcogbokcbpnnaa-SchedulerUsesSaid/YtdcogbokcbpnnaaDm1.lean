/- Layer 34: the walk of demands. -/
import Derived.Test.YtdcogbokcbpnnaaDm0
namespace Go.Proofs.Ytdcogbokcbpnnaa
set_option linter.unusedVariables false
set_option linter.unusedSimpArgs false
open Go.RowKit Go.Sort
attribute [local go_sem] gcell
def dbox (q y m c : Int) (k : Nat) : Int := if k = 0 then q else if k = 1 then 0 else if k = 2 then y else if k = 3 then m else if k = 4 then 0 else if k = 5 then 0 else c
theorem vat_only {w w' : World} {p z n : Nat} {f : Nat → Value} (V : VAt w z n f) (h : OnlyP w w' p) (hz : z ≠ p) : VAt w' z n f :=
  ⟨fun k hk => only_cell h hz (V.c k hk), fun k => only_frozen h hz V.lt (V.fr k), Nat.lt_of_lt_of_le V.lt h.size⟩
theorem ok_make {q g y m o d c : Int} (h0 : 0 ≤ q ∧ q < 16) (h1 : 0 ≤ g ∧ g < 9) (h2 : 0 ≤ y ∧ y < 120) (h3 : 0 ≤ m ∧ m < 3000) (h4 : 0 ≤ o ∧ o < 8) (h5 : 0 ≤ d ∧ d < 20) (h6 : 0 ≤ c ∧ c < 3) : dOk ⟨q, g, y, m, o, d, c⟩ = true :=
  dOk_true.2 (by simp only; omega)
def DsR (p : Nat) (w : World) (e : Ending) (w' : World) : Prop :=
  ∃ a c k X, e = .returned (.slice a k c) ∧ k ≤ 4 ∧ RowK w' a k 7 (dcell X) ∧ OnlyP w w' p ∧ ∀ j, j < k → dOk (X j) = true
set_option maxRecDepth 100000 in
set_option maxHeartbeats 8000000 in
theorem demands16 (p g : Nat) (aa : Option Addr) (cap n0 : Nat) (xs : Nat → Int) (w1 : World) (h300 : n0 ≤ 300) (D : DiceAt w1 p g aa cap n0 xs 0) :
    Calls Try.prog 16 #[.pointer (some ⟨p, 0, none⟩)] w1 (DsR p w1) := by
  have HF0 := Lib.hid (FS.start D)
  have HP := Lib.hid (show p < w1.heap.size from lt_of_cell D.c0)
  clear D
  go_enter Try.func16, Try.ntmps16
  go_wp2_with fail
  refine (HF0.out.next h300 5 (by omega)).mono ?_
  rintro e w2 ⟨cv, rfl, bc, hF, -⟩
  obtain ⟨M0, rfl⟩ := Int.eq_ofNat_of_zero_le bc.1
  have HF1 := Lib.hid hF
  have bM : M0 < 5 := by omega
  clear hF HF0 bc
  go_wp2_with fail
  go_loopw [3, 4, 5] (fun s3 s4 s5 wr => ∃ (k : Nat) (X : Nat → Dm), s4 = .int .i64 ((M0 : Int) - k) ∧ k ≤ M0 ∧ FS w1 wr p g aa cap n0 xs s3 k X ∧ ∀ j, j < k → dOk (X j) = true) (fun _ s4 _ _ => (intOf s4).toNat)
  case atStart => exact ⟨0, fun _ => ⟨0, 0, 0, 0, 0, 0, 0⟩, by simp, Nat.zero_le _, HF1.out, fun j hj => absurd hj (Nat.not_lt_zero _)⟩
  case round =>
    clear HF1
    obtain ⟨k, X, rfl, hk, hF, hOKs⟩ := hrel
    have HG0 := Lib.hid hF
    have HOKs := Lib.hid hOKs
    clear hF hOKs
    by_cases hlt : k < M0
    · have hpos : (0 : Int) < (M0 : Int) - k := by omega
      go_wp2_with fail
      refine (HG0.out.next h300 16 (by omega)).mono ?_
      rintro e y0 ⟨x0, rfl, bx0, hF, -⟩
      have HG1 := Lib.hid hF
      clear hF HG0
      go_wp2_with fail
      refine (HG1.out.next h300 120 (by omega)).mono ?_
      rintro e y1 ⟨x1, rfl, bx1, hF, -⟩
      have HG2 := Lib.hid hF
      clear hF HG1
      go_wp2_with fail
      refine (HG2.out.next h300 3000 (by omega)).mono ?_
      rintro e y2 ⟨x2, rfl, bx2, hF, -⟩
      have HG3 := Lib.hid hF
      clear hF HG2
      go_wp2_with fail
      refine (HG3.out.next h300 3 (by omega)).mono ?_
      rintro e y3 ⟨x3, rfl, bx3, hF, -⟩
      have HG4 := Lib.hid hF
      clear hF HG3
      have HZ0 := Lib.hid ((HG4.out.mono (blk y3 (.cells #[.int .i64 x0, .int .i64 0, .int .i64 x1, .int .i64 x2, .int .i64 0, .int .i64 0, .int .i64 x3] 41))))
      have HV0 := Lib.hid (vat_alloc y3 #[.int .i64 x0, .int .i64 0, .int .i64 x1, .int .i64 x2, .int .i64 0, .int .i64 0, .int .i64 x3] 41 7 (iv (dbox x0 x1 x2 x3)) (fun j hj => by rcases (show j = 0 ∨ j = 1 ∨ j = 2 ∨ j = 3 ∨ j = 4 ∨ j = 5 ∨ j = 6 by omega) with rfl | rfl | rfl | rfl | rfl | rfl | rfl <;> rfl))
      have hsz := HG4.out.o.size
      have HNE := Lib.hid (show u3.ownBlock ≠ some y3.heap.size from fun e => by have := (HG4.out.own.lt _ e).2; omega)
      go_upto_region 6 with fail
      generalize (y3.alloc (.cells #[.int .i64 x0, .int .i64 0, .int .i64 x1, .int .i64 x2, .int .i64 0, .int .i64 0, .int .i64 x3] 41)) = z0 at *
      generalize y3.heap.size = B at *
      have hp := HP.out
      clear HG4
      go_wp2_with fail
      refine (HZ0.out.next h300 4 (by omega)).mono ?_
      rintro e z1 ⟨x4, rfl, bx4, hF, hO⟩
      have HZ1 := Lib.hid hF
      have HV1 := Lib.hid (vat_only HV0.out hO (by omega))
      clear hF hO HZ0 HV0
      by_cases h3 : x4 = 3
      · have q1 : (x4 == 3) = true := beq_iff_eq.2 h3
        clear h3
        go_wp2_with fail
        refine (HZ1.out.next h300 9 (by omega)).mono ?_
        rintro e z2 ⟨x5, rfl, bx5, hF, hO⟩
        have HZ2 := Lib.hid hF
        have HV2 := Lib.hid (vat_only HV1.out hO (by omega))
        clear hF hO HZ1 HV1
        have f1 := HV2.out.fr 1
        have o1 := HV2.out.c 1 (by omega)
        have HZ3 := Lib.hid (HZ2.out.box hsz HNE.out 1 (.int .i64 x5))
        have HV3 := Lib.hid (HV2.out.setI 1 x5)
        clear HZ2 HV2
        go_upto_region 8 with fail
        clear f1 o1
        generalize (z2.setCell ⟨B, 1, none⟩ (.int .i64 x5)) = z3 at *
        go_wp2_with fail
        refine (HZ3.out.next h300 3 (by omega)).mono ?_
        rintro e z4 ⟨x6, rfl, bx6, hF, hO⟩
        have HZ4 := Lib.hid hF
        have HV4 := Lib.hid (vat_only HV3.out hO (by omega))
        clear hF hO HZ3 HV3
        by_cases h2 : x6 = 2
        · have q2 : (x6 == 2) = true := beq_iff_eq.2 h2
          clear h2
          go_wp2_with fail
          refine (HZ4.out.next h300 8 (by omega)).mono ?_
          rintro e z5 ⟨x7, rfl, bx7, hF, hO⟩
          have HZ5 := Lib.hid hF
          have HV5 := Lib.hid (vat_only HV4.out hO (by omega))
          clear hF hO HZ4 HV4
          go_wp2_with fail
          refine (HZ5.out.next h300 20 (by omega)).mono ?_
          rintro e z6 ⟨x8, rfl, bx8, hF, hO⟩
          have HZ6 := Lib.hid hF
          have HV6 := Lib.hid (vat_only HV5.out hO (by omega))
          clear hF hO HZ5 HV5
          have f4 := HV6.out.fr 4
          have f5 := HV6.out.fr 5
          have o4 := HV6.out.c 4 (by omega)
          have o5 := HV6.out.c 5 (by omega)
          have HZZ := Lib.hid ((HZ6.out.box hsz HNE.out 4 (.int .i64 x7)).box hsz HNE.out 5 (.int .i64 x8))
          have HVV := Lib.hid ((HV6.out.setI 4 x7).setI 5 x8)
          have o5' : (z6.setCell ⟨B, 4, none⟩ (.int .i64 x7)).cell? ⟨B, 5, none⟩ = some (iv (putI (dbox x0 x1 x2 x3) 1 x5) 5) := by rw [cell_set, if_neg (by simp)]; exact o5
          clear HZ6 HV6
          go_upto_region 10 with fail
          clear f4 f5 o4 o5 o5'
          generalize ((z6.setCell ⟨B, 4, none⟩ (.int .i64 x7)).setCell ⟨B, 5, none⟩ (.int .i64 x8)) = zz at *
          have e0 : zz.cell? ⟨B, 0, none⟩ = some (.int .i64 x0) := HVV.out.c 0 (by omega)
          have e1 : zz.cell? ⟨B, 1, none⟩ = some (.int .i64 x5) := HVV.out.c 1 (by omega)
          have e2 : zz.cell? ⟨B, 2, none⟩ = some (.int .i64 x1) := HVV.out.c 2 (by omega)
          have e3 : zz.cell? ⟨B, 3, none⟩ = some (.int .i64 x2) := HVV.out.c 3 (by omega)
          have e4 : zz.cell? ⟨B, 4, none⟩ = some (.int .i64 x7) := HVV.out.c 4 (by omega)
          have e5 : zz.cell? ⟨B, 5, none⟩ = some (.int .i64 x8) := HVV.out.c 5 (by omega)
          have e6 : zz.cell? ⟨B, 6, none⟩ = some (.int .i64 x3) := HVV.out.c 6 (by omega)
          have hok := ok_make bx0 bx5 bx1 bx2 bx7 bx8 bx3
          have HOK := Lib.hid (show ∀ j, j < k + 1 → dOk (putD X k ⟨x0, x5, x1, x2, x7, x8, x3⟩ j) = true from fun j hj => by
            unfold putD
            by_cases e : j = k
            · rw [if_pos e]; exact hok
            · rw [if_neg e]; exact HOKs.out j (by omega))
          have zs := HZZ.out.o.size
          clear hok HVV
          go_wp2_with (at_builtin; refine wpList_append_elem zz zz w1.heap.size rfl (.tmp 37) (.tmp 39) 22 rfl 41 dz 7 56 Try.underlying22 dInfo rfl (by decide) (by decide) _ k (dcell X) rfl #[.int .i64 x0, .int .i64 x5, .int .i64 x1, .int .i64 x2, .int .i64 x7, .int .i64 x8, .int .i64 x3] rfl rfl (one7 _ _ _ _ _ _ _) (dcell (putD X k ⟨x0, x5, x1, x2, x7, x8, x3⟩)) (fun j hj => dcell_upd j hj) (fun j hj => dcell_new j hj) HZZ.out.own (Below.refl _ _) zs (by omega) ?_; intro v' w7 hown hB7 hs7 hg7 ha7; have HG6 := Lib.hid (HZZ.out.push hown hB7); clear hown hB7 hs7 hg7 ha7 HZZ)
          go_roundw
          case rel => exact ⟨k + 1, _, by congr 1; omega, by omega, HG6.out, HOK.out⟩
          case measure => simp [intOf]; omega
        · have q2 : (x6 == 2) = false := beq_eq_false_iff_ne.2 h2
          clear h2
          have HZZ := Lib.hid HZ4.out
          have HVV := Lib.hid HV4.out
          clear HZ4 HV4
          obtain ⟨zz, rfl⟩ : ∃ zz, zz = z4 := ⟨_, rfl⟩
          have e0 : zz.cell? ⟨B, 0, none⟩ = some (.int .i64 x0) := HVV.out.c 0 (by omega)
          have e1 : zz.cell? ⟨B, 1, none⟩ = some (.int .i64 x5) := HVV.out.c 1 (by omega)
          have e2 : zz.cell? ⟨B, 2, none⟩ = some (.int .i64 x1) := HVV.out.c 2 (by omega)
          have e3 : zz.cell? ⟨B, 3, none⟩ = some (.int .i64 x2) := HVV.out.c 3 (by omega)
          have e4 : zz.cell? ⟨B, 4, none⟩ = some (.int .i64 0) := HVV.out.c 4 (by omega)
          have e5 : zz.cell? ⟨B, 5, none⟩ = some (.int .i64 0) := HVV.out.c 5 (by omega)
          have e6 : zz.cell? ⟨B, 6, none⟩ = some (.int .i64 x3) := HVV.out.c 6 (by omega)
          have hok := ok_make bx0 bx5 bx1 bx2 (show (0 : Int) ≤ 0 ∧ (0 : Int) < 8 by omega) (show (0 : Int) ≤ 0 ∧ (0 : Int) < 20 by omega) bx3
          have HOK := Lib.hid (show ∀ j, j < k + 1 → dOk (putD X k ⟨x0, x5, x1, x2, 0, 0, x3⟩ j) = true from fun j hj => by
            unfold putD
            by_cases e : j = k
            · rw [if_pos e]; exact hok
            · rw [if_neg e]; exact HOKs.out j (by omega))
          have zs := HZZ.out.o.size
          clear hok HVV
          go_wp2_with (at_builtin; refine wpList_append_elem zz zz w1.heap.size rfl (.tmp 37) (.tmp 39) 22 rfl 41 dz 7 56 Try.underlying22 dInfo rfl (by decide) (by decide) _ k (dcell X) rfl #[.int .i64 x0, .int .i64 x5, .int .i64 x1, .int .i64 x2, .int .i64 0, .int .i64 0, .int .i64 x3] rfl rfl (one7 _ _ _ _ _ _ _) (dcell (putD X k ⟨x0, x5, x1, x2, 0, 0, x3⟩)) (fun j hj => dcell_upd j hj) (fun j hj => dcell_new j hj) HZZ.out.own (Below.refl _ _) zs (by omega) ?_; intro v' w7 hown hB7 hs7 hg7 ha7; have HG6 := Lib.hid (HZZ.out.push hown hB7); clear hown hB7 hs7 hg7 ha7 HZZ)
          go_roundw
          case rel => exact ⟨k + 1, _, by congr 1; omega, by omega, HG6.out, HOK.out⟩
          case measure => simp [intOf]; omega
      · have q1 : (x4 == 3) = false := beq_eq_false_iff_ne.2 h3
        clear h3
        go_wp2_with fail
        refine (HZ1.out.next h300 3 (by omega)).mono ?_
        rintro e z2 ⟨x6, rfl, bx6, hF, hO⟩
        have HZ2 := Lib.hid hF
        have HV2 := Lib.hid (vat_only HV1.out hO (by omega))
        clear hF hO HZ1 HV1
        by_cases h2 : x6 = 2
        · have q2 : (x6 == 2) = true := beq_iff_eq.2 h2
          clear h2
          go_wp2_with fail
          refine (HZ2.out.next h300 8 (by omega)).mono ?_
          rintro e z3 ⟨x7, rfl, bx7, hF, hO⟩
          have HZ3 := Lib.hid hF
          have HV3 := Lib.hid (vat_only HV2.out hO (by omega))
          clear hF hO HZ2 HV2
          go_wp2_with fail
          refine (HZ3.out.next h300 20 (by omega)).mono ?_
          rintro e z4 ⟨x8, rfl, bx8, hF, hO⟩
          have HZ4 := Lib.hid hF
          have HV4 := Lib.hid (vat_only HV3.out hO (by omega))
          clear hF hO HZ3 HV3
          have f4 := HV4.out.fr 4
          have f5 := HV4.out.fr 5
          have o4 := HV4.out.c 4 (by omega)
          have o5 := HV4.out.c 5 (by omega)
          have HZZ := Lib.hid ((HZ4.out.box hsz HNE.out 4 (.int .i64 x7)).box hsz HNE.out 5 (.int .i64 x8))
          have HVV := Lib.hid ((HV4.out.setI 4 x7).setI 5 x8)
          have o5' : (z4.setCell ⟨B, 4, none⟩ (.int .i64 x7)).cell? ⟨B, 5, none⟩ = some (iv (dbox x0 x1 x2 x3) 5) := by rw [cell_set, if_neg (by simp)]; exact o5
          clear HZ4 HV4
          go_upto_region 10 with fail
          clear f4 f5 o4 o5 o5'
          generalize ((z4.setCell ⟨B, 4, none⟩ (.int .i64 x7)).setCell ⟨B, 5, none⟩ (.int .i64 x8)) = zz at *
          have e0 : zz.cell? ⟨B, 0, none⟩ = some (.int .i64 x0) := HVV.out.c 0 (by omega)
          have e1 : zz.cell? ⟨B, 1, none⟩ = some (.int .i64 0) := HVV.out.c 1 (by omega)
          have e2 : zz.cell? ⟨B, 2, none⟩ = some (.int .i64 x1) := HVV.out.c 2 (by omega)
          have e3 : zz.cell? ⟨B, 3, none⟩ = some (.int .i64 x2) := HVV.out.c 3 (by omega)
          have e4 : zz.cell? ⟨B, 4, none⟩ = some (.int .i64 x7) := HVV.out.c 4 (by omega)
          have e5 : zz.cell? ⟨B, 5, none⟩ = some (.int .i64 x8) := HVV.out.c 5 (by omega)
          have e6 : zz.cell? ⟨B, 6, none⟩ = some (.int .i64 x3) := HVV.out.c 6 (by omega)
          have hok := ok_make bx0 (show (0 : Int) ≤ 0 ∧ (0 : Int) < 9 by omega) bx1 bx2 bx7 bx8 bx3
          have HOK := Lib.hid (show ∀ j, j < k + 1 → dOk (putD X k ⟨x0, 0, x1, x2, x7, x8, x3⟩ j) = true from fun j hj => by
            unfold putD
            by_cases e : j = k
            · rw [if_pos e]; exact hok
            · rw [if_neg e]; exact HOKs.out j (by omega))
          have zs := HZZ.out.o.size
          clear hok HVV
          go_wp2_with (at_builtin; refine wpList_append_elem zz zz w1.heap.size rfl (.tmp 37) (.tmp 39) 22 rfl 41 dz 7 56 Try.underlying22 dInfo rfl (by decide) (by decide) _ k (dcell X) rfl #[.int .i64 x0, .int .i64 0, .int .i64 x1, .int .i64 x2, .int .i64 x7, .int .i64 x8, .int .i64 x3] rfl rfl (one7 _ _ _ _ _ _ _) (dcell (putD X k ⟨x0, 0, x1, x2, x7, x8, x3⟩)) (fun j hj => dcell_upd j hj) (fun j hj => dcell_new j hj) HZZ.out.own (Below.refl _ _) zs (by omega) ?_; intro v' w7 hown hB7 hs7 hg7 ha7; have HG6 := Lib.hid (HZZ.out.push hown hB7); clear hown hB7 hs7 hg7 ha7 HZZ)
          go_roundw
          case rel => exact ⟨k + 1, _, by congr 1; omega, by omega, HG6.out, HOK.out⟩
          case measure => simp [intOf]; omega
        · have q2 : (x6 == 2) = false := beq_eq_false_iff_ne.2 h2
          clear h2
          have HZZ := Lib.hid HZ2.out
          have HVV := Lib.hid HV2.out
          clear HZ2 HV2
          obtain ⟨zz, rfl⟩ : ∃ zz, zz = z2 := ⟨_, rfl⟩
          have e0 : zz.cell? ⟨B, 0, none⟩ = some (.int .i64 x0) := HVV.out.c 0 (by omega)
          have e1 : zz.cell? ⟨B, 1, none⟩ = some (.int .i64 0) := HVV.out.c 1 (by omega)
          have e2 : zz.cell? ⟨B, 2, none⟩ = some (.int .i64 x1) := HVV.out.c 2 (by omega)
          have e3 : zz.cell? ⟨B, 3, none⟩ = some (.int .i64 x2) := HVV.out.c 3 (by omega)
          have e4 : zz.cell? ⟨B, 4, none⟩ = some (.int .i64 0) := HVV.out.c 4 (by omega)
          have e5 : zz.cell? ⟨B, 5, none⟩ = some (.int .i64 0) := HVV.out.c 5 (by omega)
          have e6 : zz.cell? ⟨B, 6, none⟩ = some (.int .i64 x3) := HVV.out.c 6 (by omega)
          have hok := ok_make bx0 (show (0 : Int) ≤ 0 ∧ (0 : Int) < 9 by omega) bx1 bx2 (show (0 : Int) ≤ 0 ∧ (0 : Int) < 8 by omega) (show (0 : Int) ≤ 0 ∧ (0 : Int) < 20 by omega) bx3
          have HOK := Lib.hid (show ∀ j, j < k + 1 → dOk (putD X k ⟨x0, 0, x1, x2, 0, 0, x3⟩ j) = true from fun j hj => by
            unfold putD
            by_cases e : j = k
            · rw [if_pos e]; exact hok
            · rw [if_neg e]; exact HOKs.out j (by omega))
          have zs := HZZ.out.o.size
          clear hok HVV
          go_wp2_with (at_builtin; refine wpList_append_elem zz zz w1.heap.size rfl (.tmp 37) (.tmp 39) 22 rfl 41 dz 7 56 Try.underlying22 dInfo rfl (by decide) (by decide) _ k (dcell X) rfl #[.int .i64 x0, .int .i64 0, .int .i64 x1, .int .i64 x2, .int .i64 0, .int .i64 0, .int .i64 x3] rfl rfl (one7 _ _ _ _ _ _ _) (dcell (putD X k ⟨x0, 0, x1, x2, 0, 0, x3⟩)) (fun j hj => dcell_upd j hj) (fun j hj => dcell_new j hj) HZZ.out.own (Below.refl _ _) zs (by omega) ?_; intro v' w7 hown hB7 hs7 hg7 ha7; have HG6 := Lib.hid (HZZ.out.push hown hB7); clear hown hB7 hs7 hg7 ha7 HZZ)
          go_roundw
          case rel => exact ⟨k + 1, _, by congr 1; omega, by omega, HG6.out, HOK.out⟩
          case measure => simp [intOf]; omega
    · obtain rfl : k = M0 := by omega
      have hpos : ¬ (0 : Int) < (k : Int) - (k : Int) := by omega
      obtain ⟨ra, rc, rfl, -, -, hrk⟩ := HG0.out.row
      have HRK := Lib.hid hrk
      clear hrk
      go_wp2
      go_ret
      exact ⟨ra, rc, k, X, rfl, by omega, HRK.out, HG0.out.o, HOKs.out⟩
end Go.Proofs.Ytdcogbokcbpnnaa
