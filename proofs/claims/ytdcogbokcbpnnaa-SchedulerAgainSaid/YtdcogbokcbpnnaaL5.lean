/- Layer 34: the walk of SchedulerAgain. -/
import Derived.Test.YtdcogbokcbpnnaaL4
import Derived.Test.YtdcogbokcbpnnaaTailM
namespace Go.Proofs.Ytdcogbokcbpnnaa
set_option linter.unusedVariables false
set_option linter.unusedSimpArgs false
open Go.RowKit Go.Sort
attribute [local go_sem] gcell
/-- The demands of SchedulerAgain. -/
def agD (a d : Nat → Int) (i : Nat) : Dm := if i = 0 then ⟨15, 0, 1000, 0, 9, 0, 0⟩ else ⟨9, a (i - 1) % 6, 0, 0, 0, 0, d (i - 1) % 2⟩
theorem agD_succ {a d : Nat → Int} {i : Nat} : agD a d (i + 1) = ⟨9, a i % 6, 0, 0, 0, 0, d i % 2⟩ := if_neg (by omega)
/-- How many blocks are left ahead of demand i of class c. -/
structure Lefts (R : Nat) (L : Nat → Dm) (hs : Nat → Int) (G : Nat → Nat → Int) : Prop where
  start : G 0 1 = R
  next : G 0 4 = G 1 1
  bd : ∀ c i, 0 ≤ G c i ∧ G c i ≤ 12
  other : ∀ c i : Nat, c < 2 → 1 ≤ i → i < 4 → (L i).cl ≠ c → G c (i + 1) = G c i
  fits : ∀ c i : Nat, c < 2 → 1 ≤ i → i < 4 → (L i).cl = c → (L i).ag ≤ G c i → hs i = (L i).ag ∧ G c (i + 1) = G c i - (L i).ag
  not : ∀ c i : Nat, c < 2 → 1 ≤ i → i < 4 → (L i).cl = c → ¬ (L i).ag ≤ G c i → hs i = 0 ∧ G c (i + 1) = G c i
  zero : hs 0 = G 1 4
theorem lefts_asg {R : Nat} {L : Nat → Dm} (hR : R ≤ 12) (hL : ∀ i, 1 ≤ i → i < 4 → 0 ≤ (L i).ag ∧ (L i).by' ≤ 0 ∧ (L i).cl < 2 ∧ 0 ≤ (L i).cl) (h0 : (L 0).q = 15 ∧ (L 0).ag = 0 ∧ 256 < (L 0).by' ∧ (L 0).cl = 0) :
    Lefts R L (asg R L 4).hs (fun c i => ((rowAt R L 4 c i).left : Int)) := by
  obtain ⟨h1, h2⟩ := asg_rows hR hL h0
  have hle : ∀ c i, (rowAt R L 4 c i).left ≤ R := by
    have h3 : ∀ (c : Nat) (s : St) (i : Nat), (rowS R L c s i).left ≤ s.left := fun c s i => by
      induction i with
      | zero => exact Nat.le_refl _
      | succ i ih =>
        refine Nat.le_trans ?_ ih
        show (stp R L c (rowS R L c s i) i).left ≤ _
        unfold stp
        split
        · exact againF_left _ _
        · exact Nat.le_refl _
    intro c i
    unfold rowAt
    split
    · exact h3 0 (st0 R) i
    · exact Nat.le_trans (h3 1 _ i) (h3 0 (st0 R) 4)
  refine ⟨?_, ?_, fun c i => ?_, fun c i hc g1 g2 hn => ?_, fun c i hc g1 g2 hn hf => ?_, fun c i hc g1 g2 hn hf => ?_, h2⟩
  · exact congrArg (fun x : Nat => (x : Int)) (rowAt_one (R := R) (n := 4) (L := L) (c := 0) (by omega) h0.2.1)
  · exact congrArg (fun x : Nat => (x : Int)) (rowAt_one (R := R) (n := 4) (L := L) (c := 1) (by omega) h0.2.1).symm
  · have := hle c i
    show 0 ≤ ((rowAt R L 4 c i).left : Int) ∧ ((rowAt R L 4 c i).left : Int) ≤ 12
    omega
  · have := rowAt_succ (R := R) (n := 4) (L := L) (c := c) (i := i) hc (hL i g1 g2).1
    rw [if_neg (fun h => hn h.1)] at this
    show ((rowAt R L 4 c (i + 1)).left : Int) = ((rowAt R L 4 c i).left : Int)
    omega
  · have := rowAt_succ (R := R) (n := 4) (L := L) (c := c) (i := i) hc (hL i g1 g2).1
    rw [if_pos ⟨hn, hf⟩] at this
    exact ⟨by rw [h1 c i hc g1 g2 hn, if_pos hf], this⟩
  · have := rowAt_succ (R := R) (n := 4) (L := L) (c := c) (i := i) hc (hL i g1 g2).1
    rw [if_neg (fun h => hf h.2)] at this
    refine ⟨by rw [h1 c i hc g1 g2 hn, if_neg hf], ?_⟩
    show ((rowAt R L 4 c (i + 1)).left : Int) = ((rowAt R L 4 c i).left : Int)
    omega
set_option maxRecDepth 100000 in
set_option maxHeartbeats 8000000 in
theorem again9 (a d : Nat → Int) (c : Int) (w : World) (ha : ∀ i, i < 3 → 0 ≤ a i ∧ a i ≤ 255) (hd : ∀ i, i < 3 → 0 ≤ d i ∧ d i ≤ 255) (hc : 0 ≤ c ∧ c ≤ 255) :
    Calls Try.prog 9 #[.agg #[.int .u8 (a 0), .int .u8 (a 1), .int .u8 (a 2)], .agg #[.int .u8 (d 0), .int .u8 (d 1), .int .u8 (d 2)], .int .u8 c] w fun e w' => e = .returned (.bool true) ∧ Below w.heap.size w w' := by
  obtain ⟨va, vd, hb0⟩ := two_box w #[.int .u8 (a 0), .int .u8 (a 1), .int .u8 (a 2)] #[.int .u8 (d 0), .int .u8 (d 1), .int .u8 (d 2)] 42 42 3 (uv a) (uv d) (uv_at a) (uv_at d)
  have HB0 := Lib.hid hb0
  have HVA := Lib.hid va
  have HVD := Lib.hid vd
  have HA := Lib.hid ha
  have HD := Lib.hid hd
  clear va vd hb0 ha hd
  obtain ⟨R, hrr, hR⟩ : ∃ R : Nat, c % 13 = R ∧ R ≤ 12 := ⟨(c % 13).toNat, by omega, by omega⟩
  go_enter Try.func9, Try.ntmps9
  go_upto_region 1 with fail
  have LB := Lib.hid (show w.heap.size + 2 ≤ ((w.alloc (.cells #[.int .u8 (a 0), .int .u8 (a 1), .int .u8 (a 2)] 42)).alloc (.cells #[.int .u8 (d 0), .int .u8 (d 1), .int .u8 (d 2)] 42)).heap.size by simp)
  generalize ((w.alloc (.cells #[.int .u8 (a 0), .int .u8 (a 1), .int .u8 (a 2)] 42)).alloc (.cells #[.int .u8 (d 0), .int .u8 (d 1), .int .u8 (d 2)] 42)) = w1 at *
  have HO0 := Lib.hid (show (w1.alloc (.cells #[.int .i64 15, .int .i64 0, .int .i64 1000, .int .i64 0, .int .i64 9, .int .i64 0, .int .i64 0] 41)).ownsRow w1.heap.size 41 7 (.slice (some ⟨w1.heap.size, 0, none⟩) 1 1) 1 ((List.range ((0 + 1) * 7)).map (dcell (agD a d))) from
    World.ownsRow_lit w1 #[.int .i64 15, .int .i64 0, .int .i64 1000, .int .i64 0, .int .i64 9, .int .i64 0, .int .i64 0] 1 (Nat.le_refl _) (by decide) rfl)
  have HB0' := Lib.hid ((Below.refl w1.heap.size w1).alloc (Nat.le_refl _) (.cells #[.int .i64 15, .int .i64 0, .int .i64 1000, .int .i64 0, .int .i64 9, .int .i64 0, .int .i64 0] 41))
  go_upto_region 3 with fail
  generalize (w1.alloc (.cells #[.int .i64 15, .int .i64 0, .int .i64 1000, .int .i64 0, .int .i64 9, .int .i64 0, .int .i64 0] 41)) = w2 at *
  go_loopw [7, 8] (fun s7 s8 wr => ∃ k : Nat, s8 = .int .i64 k ∧ k ≤ 3 ∧ wr.ownsRow w1.heap.size 41 7 s7 (k + 1) ((List.range ((k + 1) * 7)).map (dcell (agD a d))) ∧ Below w1.heap.size w1 wr) (fun _ s8 _ => 3 - (intOf s8).toNat)
  case atStart => exact ⟨0, rfl, Nat.zero_le _, HO0.out, HB0'.out⟩
  case round =>
    clear HO0 HB0'
    obtain ⟨k, rfl, hk, hown, hB⟩ := hrel
    have HB1 := Lib.hid hB
    have HO := Lib.hid hown
    by_cases hlt : k < 3
    · have c0 : wr.cell? ⟨w.heap.size, k, none⟩ = some (.int .u8 (a k)) := (HVA.out.mono hB).c k hlt
      have d0 : wr.cell? ⟨w.heap.size + 1, k, none⟩ = some (.int .u8 (d k)) := (HVD.out.mono hB).c k hlt
      have hak := HA.out k hlt
      have hdk := HD.out k hlt
      have k0 : (0 : Int) ≤ (k : Int) := by omega
      have k1 : (k : Int) < 3 := by omega
      have HAT := Lib.hid (dcell_at (agD a d) (k + 1))
      rw [agD_succ] at HAT
      simp only at HAT
      have hsz := hB.size
      have lc := lt_of_cell c0
      have ld := lt_of_cell d0
      clear hown hB hrr
      go_wp2_with fail
      refine wp_region_grown_tail1 (.tmp 7) 12 (by kernel_rfl) (by kernel_rfl) rfl rfl (fun _ _ _ h => h) ?_
      simp only [Nat.reduceSub, List.take_succ_cons, List.take_zero, List.drop_succ_cons, List.drop_zero]
      conv => arg 6; simp [Act.put, Act.eval]
      repeat (go_big_quiet_step (fail))
      refine wpQuiet_nil ?_
      intro w4 hw4
      have hb4 := below_of_regrown hw4
      have HO4 := Lib.hid (own_keepK HO.out hb4)
      have HB4 := Lib.hid (HB1.out.trans (hb4.mono hsz))
      have hsz4 := HB4.out.size
      clear hw4 hb4 HO HB1 c0 d0 lc ld
      go_wp2_with (at_builtin; refine wpList_append_elem w4 w1 w1.heap.size rfl (.tmp 23) (.tmp 35) 22 rfl 41 dz 7 56 Try.underlying22 dInfo rfl (by decide) (by decide) _ (k + 1) (dcell (agD a d)) rfl #[.int .i64 9, .int .i64 (a k % 6), .int .i64 0, .int .i64 0, .int .i64 0, .int .i64 0, .int .i64 (d k % 2)] rfl rfl (one7 _ _ _ _ _ _ _) (dcell (agD a d)) (fun j hj => rfl) HAT.out HO4.out HB4.out hsz4 (by omega) ?_; intro v' w7 hown hB7 hs7 hg7 ha7; have HO7 := Lib.hid hown; have HB7 := Lib.hid hB7; clear hown hB7 hs7 hg7 ha7 HO4 HB4)
      go_roundw
      case rel => exact ⟨k + 1, by go_num, by omega, HO7.out, HB7.out⟩
      case measure => simp [intOf]; omega
    · obtain rfl : k = 3 := by omega
      clear hB
      have HB2 := Lib.hid (bthen' HB0.out HB1.out)
      obtain ⟨da, dc, rfl, -, -, hrk⟩ := own_rowK hown
      have HRD := Lib.hid hrk.rd
      clear hown HO hrk
      have HOK := Lib.hid (show ∀ j, j < 4 → dOk (agD a d j) = true from fun j hj => dOk_true.2 (by
        rcases Nat.eq_zero_or_pos j with rfl | hj0
        · rw [show agD a d 0 = ⟨15, 0, 1000, 0, 9, 0, 0⟩ from rfl]
          simp only
          omega
        · obtain ⟨x, rfl⟩ : ∃ x, j = x + 1 := ⟨j - 1, by omega⟩
          have := HA.out x (by omega)
          have := HD.out x (by omega)
          rw [agD_succ]
          simp only
          omega))
      have HLL := Lib.hid (show ∀ i, 1 ≤ i → i < 4 → 0 ≤ (agD a d i).ag ∧ (agD a d i).ag ≤ 12 ∧ (agD a d i).by' ≤ 0 ∧ (agD a d i).cl < 2 ∧ 0 ≤ (agD a d i).cl from fun i hi hi4 => by
        obtain ⟨x, rfl⟩ : ∃ x, i = x + 1 := ⟨i - 1, by omega⟩
        rw [agD_succ]
        exact ⟨by show 0 ≤ a x % 6; omega, by show a x % 6 ≤ 12; omega, Int.le_refl _, by show d x % 2 < 2; omega, by show 0 ≤ d x % 2; omega⟩)
      have HE := Lib.hid (chk_ok4 (n := 4) (L := agD a d) (R := (R : Int)) ⟨by omega, by omega⟩ (by omega) HOK.out)
      have I := asg_inv2 (R := R) (n := 4) (L := agD a d) (by omega) fun i hi => (dOk_true.1 (HOK.out i hi)).2.2.2.2.2.2
      have HLF := Lib.hid (lefts_asg (R := R) (L := agD a d) hR (fun i a b => ⟨(HLL.out i a b).1, (HLL.out i a b).2.2⟩) ⟨rfl, rfl, by show (256 : Int) < 1000; decide, rfl⟩)
      have KA := Lib.hid (assign18 da 4 dc (agD a d) (R : Int) wr HRD.out (by unfold maxLen; omega))
      clear HOK hk hlt HVA HVD LB HB0 HB1 HA HD
      generalize (fun c i => ((rowAt R (agD a d) 4 c i).left : Int)) = G at *
      generalize agD a d = L at *
      go_wp2_with fail
      refine KA.out.mono ?_
      rintro e w3 ⟨oa, rfl, hrow, hb3⟩
      have HRO := Lib.hid (hrow HE.out)
      have HB3 := Lib.hid (bthen' HB2.out hb3)
      have HRD3 := Lib.hid (HRD.out.mono hb3)
      rw [HE.out, if_pos rfl]
      rw [show ((R : Int)).toNat = R from Int.toNat_natCast R] at HRO ⊢
      clear hrow hb3 KA HRD
      generalize asg R L 4 = s at *
      have HI := Lib.hid I
      have KC := Lib.hid (counts13 oa R R s.ow 4 w3 HRO.out (by omega))
      unfold CntR at KC
      rw [show cntN 4 = 4 from rfl] at KC
      clear I
      go_wp2_with fail
      refine KC.out.mono ?_
      rintro e w4 ⟨ca, rfl, hrow, hb4⟩
      obtain ⟨cb, cm, rfl, hcc⟩ : ∃ b m, ca = some ⟨b, m, none⟩ ∧ ∀ k, k < 4 → w4.cell? ⟨b, m + k, none⟩ = some (.int .i64 (s.hs k)) := by
        obtain ⟨b', m', g1, g2⟩ := hrow
        exact ⟨b', m', g1 (by omega), fun k hk => by rw [← HI.out.cn k hk]; exact g2 k hk⟩
      have HCC := Lib.hid hcc
      obtain ⟨db, dm, hde, hdd⟩ := HRD3.out.mono hb4
      obtain rfl := hde (by omega)
      have HDD := Lib.hid hdd
      have HB4 := Lib.hid (bthen' HB3.out hb4)
      clear hrow hb4 KC HRD3 hcc hdd hde hrr
      go_wp2_with fail
      go_loopw [13, 14, 15, 16] (fun s13 s14 s15 s16 wx => ∃ k : Nat, s14 = .int .i64 k ∧ k ≤ 2 ∧ s13 = .int .i64 (if k = 2 then G 1 4 else G k 1) ∧ wx = w4) (fun _ s14 _ _ _ => 2 - (intOf s14).toNat)
      case atStart => exact ⟨0, rfl, Nat.zero_le _, by rw [if_neg (by omega), HLF.out.start], rfl⟩
      case round =>
        obtain ⟨cc, rfl, hcc, rfl, rfl⟩ := hrel
        by_cases hc2 : cc < 2
        · rw [if_neg (by omega)]
          have cc0 : (0 : Int) ≤ (cc : Int) := by omega
          have cc1 : (cc : Int) < 2 := by omega
          go_wp2_with fail
          go_loopw [13, 15, 16] (fun s13 s15 s16 wx => ∃ i : Nat, s15 = .int .i64 i ∧ 1 ≤ i ∧ i ≤ 4 ∧ s13 = .int .i64 (G cc i) ∧ wx = wr) (fun _ s15 _ _ => 4 - (intOf s15).toNat)
          case atStart => exact ⟨1, rfl, Nat.le_refl _, by omega, rfl, rfl⟩
          case round =>
            obtain ⟨i, rfl, hi1, hi4, rfl, rfl⟩ := hrel
            by_cases hlt : i < 4
            · have i0 : (0 : Int) ≤ (i : Int) := by omega
              have i1 : (i : Int) < 4 := by omega
              obtain ⟨-, c1, -, -, -, -, c6⟩ := HDD.out i hlt
              have hh := HCC.out i hlt
              have bg := HLF.out.bd cc i
              obtain ⟨bl1, bl2, -⟩ := HLL.out i hi1 hlt
              have n1 := HLF.out.other cc i hc2 hi1 hlt
              have n2 := HLF.out.fits cc i hc2 hi1 hlt
              have n3 := HLF.out.not cc i hc2 hi1 hlt
              generalize (L i).cl = cl at *
              generalize (L i).ag = ag at *
              generalize s.hs i = h at *
              generalize G cc i = g at *
              generalize hG : G cc (i + 1) = g' at *
              have HG' := Lib.hid hG
              clear hG
              by_cases hcl : cl = cc
              · have q1 : (cl == (cc : Int)) = true := by simp [hcl]
                by_cases hf : ag ≤ g
                · obtain ⟨e1, e2⟩ := n2 hcl hf
                  have HG2 := Lib.hid e2
                  have q2 : decide (ag ≤ g) = true := by simp [hf]
                  have q3 : (h != ag) = false := by simp [e1]
                  clear n1 n2 n3 hcl e1 e2
                  go_wp2
                  go_roundw
                  case rel => exact ⟨i + 1, by go_num, by omega, by omega, by rw [HG'.out, HG2.out], trivial⟩
                  case measure => simp [intOf]; omega
                · obtain ⟨e1, e2⟩ := n3 hcl hf
                  have HG2 := Lib.hid e2
                  have q2 : decide (ag ≤ g) = false := by simp; omega
                  have q3 : (h != 0) = false := by simp [e1]
                  clear n1 n2 n3 hcl e1 e2
                  go_wp2
                  go_roundw
                  case rel => exact ⟨i + 1, by go_num, by omega, by omega, by rw [HG'.out, HG2.out], trivial⟩
                  case measure => simp [intOf]; omega
              · have e2 := n1 hcl
                have HG2 := Lib.hid e2
                have q1 : (cl == (cc : Int)) = false := beq_eq_false_iff_ne.2 hcl
                clear n1 n2 n3 hcl e2
                go_wp2
                go_roundw
                case rel => exact ⟨i + 1, by go_num, by omega, by omega, by rw [HG'.out, HG2.out], trivial⟩
                case measure => simp [intOf]; omega
            · obtain rfl : i = 4 := by omega
              have HN := Lib.hid (show G cc 4 = if cc + 1 = 2 then G 1 4 else G (cc + 1) 1 from by
                rcases (show cc = 0 ∨ cc = 1 by omega) with rfl | rfl
                · rw [if_neg (by omega)]; exact HLF.out.next
                · rw [if_pos rfl])
              generalize G cc 4 = g at *
              go_wp2
              go_roundw
              case rel => exact ⟨cc + 1, by go_num, by omega, by rw [← HN.out], trivial⟩
              case measure => simp [intOf]; omega
        · obtain rfl : cc = 2 := by omega
          rw [if_pos rfl]
          have hh := HCC.out 0 (by omega)
          rw [HLF.out.zero, Nat.add_zero] at hh
          have bg := HLF.out.bd 1 4
          generalize G 1 4 = g at *
          by_cases hg : g = 0
          · have q1 : (g == 0) = true := by simp [hg]
            clear hg
            go_wp2_with fail
            refine (awake10 _).mono ?_
            rintro e w9 ⟨rfl, hb⟩
            have HBA := Lib.hid (bthen' HB4.out hb)
            clear hb
            go_wp2
            go_ret
            exact ⟨rfl, HBA.out⟩
          · have q1 : (g == 0) = false := beq_eq_false_iff_ne.2 hg
            clear hg
            go_wp2_with fail
            refine (awake10 _).mono ?_
            rintro e w9 ⟨rfl, hb⟩
            have HBA := Lib.hid (bthen' HB4.out hb)
            clear hb
            go_wp2
            go_ret
            exact ⟨rfl, HBA.out⟩
end Go.Proofs.Ytdcogbokcbpnnaa
