/- The walk of FairTurns. -/
import Derived.Test.YtkjadgjambphjaaT1
namespace Go.Proofs.Ytkjadgjambphjaa
open Go.RowKit Go.Sort
attribute [local go_sem] gcell run_field23
set_option linter.unusedVariables false

/-- What lies in memory at a round's head. -/
structure TW (w wr : World) (bm bl bs : Nat) (m0 m1 l0 l1 s0 s1 : Int) : Prop where
  m0 : wr.cell? ⟨bm, 0, none⟩ = some (.int .i64 m0)
  m1 : wr.cell? ⟨bm, 1, none⟩ = some (.int .i64 m1)
  l0 : wr.cell? ⟨bl, 0, none⟩ = some (.int .i64 l0)
  l1 : wr.cell? ⟨bl, 1, none⟩ = some (.int .i64 l1)
  s0 : wr.cell? ⟨bs, 0, none⟩ = some (.int .i64 s0)
  s1 : wr.cell? ⟨bs, 1, none⟩ = some (.int .i64 s1)
  fl : ∀ o, wr.frozen? ⟨bl, o, none⟩ = false
  fs : ∀ o, wr.frozen? ⟨bs, o, none⟩ = false
  bb : Below w.heap.size w wr
  ble : w.heap.size ≤ bl
  bse : w.heap.size ≤ bs
  ne : bl ≠ bs

theorem learn10_0 (m : Int) (w : World) (h : 0 ≤ m) (h2 : m ≤ 20000) : Calls Try.prog 10 #[.agg #[.int .i64 m], .int .i64 0] w fun e w' => e = .returned (.agg #[.int .i64 (fe m)]) ∧ Below w.heap.size w w' := by
  have := learn10 m 0 w
  rwa [learn_0 m h h2] at this
theorem learn10_n (m n : Int) (w : World) (h : 0 ≤ m) (h2 : m ≤ 20000) (hn : 0 ≤ n) (hn2 : n ≤ 265) : Calls Try.prog 10 #[.agg #[.int .i64 m], .int .i64 n] w fun e w' => e = .returned (.agg #[.int .i64 (fe m + 4 * n)]) ∧ Below w.heap.size w w' := by
  have := learn10 m n w
  rwa [learn_n m n h h2 hn hn2] at this

theorem TW.mono {w wr w1 : World} {bm bl bs : Nat} {m0 m1 l0 l1 s0 s1 : Int} (T : TW w wr bm bl bs m0 m1 l0 l1 s0 s1) (hb : Below wr.heap.size wr w1) : TW w w1 bm bl bs m0 m1 l0 l1 s0 s1 :=
  ⟨(hb.cell (lt_of_cell T.m0)).trans T.m0, (hb.cell (lt_of_cell T.m1)).trans T.m1, (hb.cell (lt_of_cell T.l0)).trans T.l0, (hb.cell (lt_of_cell T.l1)).trans T.l1,
   (hb.cell (lt_of_cell T.s0)).trans T.s0, (hb.cell (lt_of_cell T.s1)).trans T.s1, fun o => (hb.frozen (p := ⟨bl, o, none⟩) (lt_of_cell T.l0)).trans (T.fl o), fun o => (hb.frozen (p := ⟨bs, o, none⟩) (lt_of_cell T.s0)).trans (T.fs o),
   T.bb.trans (hb.mono T.bb.size), T.ble, T.bse, T.ne⟩

theorem cell_set (w : World) (a b : Addr) (v : Value) : (w.setCell a v).cell? b = if a = b then (w.cell? b).map (fun _ => v) else w.cell? b := by
  by_cases h : a = b
  · subst h
    rw [if_pos rfl]
    cases hc : w.cell? a with
    | some u => exact World.cell?_setCell_same _ _ _ hc
    | none =>
      simp only [World.setCell, World.cell?, Array.getElem?_modify, if_true, Option.map_none] at hc ⊢
      cases hb : w.heap[a.block]? with
      | none => simp
      | some o =>
        rw [hb] at hc
        cases o with
        | cells c t f =>
          simp only [Option.map_some] at hc ⊢
          split at hc
          · rename_i h1; simp [h1]
          · rename_i h1
            have : c.size ≤ a.off := by simpa using hc
            simp [h1, this]
        | _ => simp
  · rw [if_neg h]; exact World.cell?_setCell_other _ _ _ _ h

theorem TW.next (i : Nat) {w w3 : World} {bm bl bs g : Nat} {m0 m1 l0 l1 s0 s1 e0 e1 v u s : Int} (T : TW w w3 bm bl bs m0 m1 l0 l1 s0 s1) (hg : w.heap.size ≤ g) (n1 : bl ≠ g) (n2 : bs ≠ g)
    (d0 : w3.cell? ⟨g, 0, none⟩ = some (.int .i64 e0)) (d1 : w3.cell? ⟨g, 1, none⟩ = some (.int .i64 e1)) (hi : i = 0 ∨ i = 1) :
    TW w (((w3.setCell ⟨g, i, none⟩ (.int .i64 v)).setCell ⟨bl, i, none⟩ (.int .i64 u)).setCell ⟨bs, i, none⟩ (.int .i64 s)) g bl bs (if i = 0 then v else e0) (if i = 0 then e1 else v) (if i = 0 then u else l0) (if i = 0 then l1 else u) (if i = 0 then s else s0) (if i = 0 then s1 else s) := by
  have c1 := T.l0
  have c2 := T.l1
  have c3 := T.s0
  have c4 := T.s1
  have n3 := T.ne
  rcases hi with rfl | rfl
  · refine ⟨?_, ?_, ?_, ?_, ?_, ?_, fun o => ?_, fun o => ?_, ((T.bb.setCell hg _).setCell T.ble _).setCell T.bse _, T.ble, T.bse, T.ne⟩
    all_goals simp [cell_set, d0, d1, c1, c2, c3, c4, n1, n2, n3, Ne.symm n1, Ne.symm n2, Ne.symm n3, T.fl, T.fs]
  · refine ⟨?_, ?_, ?_, ?_, ?_, ?_, fun o => ?_, fun o => ?_, ((T.bb.setCell hg _).setCell T.ble _).setCell T.bse _, T.ble, T.bse, T.ne⟩
    all_goals simp [cell_set, d0, d1, c1, c2, c3, c4, n1, n2, n3, Ne.symm n1, Ne.symm n2, Ne.symm n3, T.fl, T.fs]

set_option maxRecDepth 100000 in
set_option maxHeartbeats 2000000 in
theorem turns6 (n a b : Int) (w : World) (n0 : 0 ≤ n ∧ n ≤ 255) (a0 : 0 ≤ a ∧ a ≤ 255) (b0 : 0 ≤ b ∧ b ≤ 255) :
    Calls Try.prog 6 #[.int .u8 n, .int .u8 a, .int .u8 b] w fun e w' => e = .returned (.bool true) ∧ Below w.heap.size w w' := by
  go_enter Try.func6, Try.ntmps6
  go_wp2
  have hT0 := TW.mk (w := w) (wr := (((w.alloc (.cells #[.int .i64 a, .int .i64 b] 23)).alloc (.cells #[.int .i64 0, .int .i64 0] 39)).alloc (.cells #[.int .i64 0, .int .i64 0] 39)))
    (bm := w.heap.size) (bl := w.heap.size + 1) (bs := w.heap.size + 1 + 1) (m0 := a) (m1 := b) (l0 := 0) (l1 := 0) (s0 := 0) (s1 := 0)
    (by simp [go_sem]) (by simp [go_sem]) (by simp [go_sem]) (by simp [go_sem]) (by simp [go_sem]) (by simp [go_sem]) (by intro o; simp [go_sem]) (by intro o; simp [go_sem])
    ((((Below.refl _ _).alloc (Nat.le_refl _) _).alloc (by simp) _).alloc (by simp; omega) _) (by omega) (by omega) (by omega)
  have hI0 : TBoth (10 + n) 0 a b 0 0 0 0 := TBoth.start a0 b0 (by omega)
  have HT0 := Lib.hid hT0
  have HI0 := Lib.hid hI0
  clear hT0 hI0
  go_loopw [8, 11] (fun m t wr => ∃ (k bm : Nat) (m0 m1 l0 l1 s0 s1 : Int), k ≤ 200 ∧ t = .int .i64 (k + 1) ∧ m = .slice (some ⟨bm, 0, none⟩) 2 2 ∧ TW w wr bm (w.heap.size + 1) (w.heap.size + 1 + 1) m0 m1 l0 l1 s0 s1 ∧ TBoth (10 + n) k m0 m1 l0 l1 s0 s1) (fun _ t _ => 201 - (intOf t).toNat)
  case atStart => exact ⟨0, w.heap.size, a, b, 0, 0, 0, 0, by omega, rfl, rfl, HT0.out, HI0.out⟩
  case round =>
    clear HT0 HI0
    obtain ⟨k, bm, m0, m1, l0, l1, s0, s1, hk, rfl, rfl, hT, hI⟩ := hrel
    have hbd := hI.bounds (by omega)
    have HT := Lib.hid hT
    have HI := Lib.hid hI
    clear hT hI
    by_cases hlt : k < 200
    · have hBA : Below wr.heap.size wr (wr.alloc (.cells #[.int .i64 5, .int .i64 5] 3)) := (Below.refl _ _).alloc (Nat.le_refl _) _
      have HBA := Lib.hid hBA
      clear hBA
      go_wp2_with fail
      have HBn := Lib.hid (turnBest m0 m1 hbd.1.1 hbd.1.2.1 hbd.1.2.2.1 hbd.1.2.2.2)
      refine (best8 _ _ _ 2 _ _ (fun _ => 5) (m2 m0 m1) (by decide) ⟨wr.heap.size, 0, fun _ => rfl, fun k hk => ?_⟩ ⟨bm, 0, fun _ => rfl, fun k hk => ?_⟩).mono ?_
      · match k, hk with
        | 0, _ => simp [go_sem]
        | 1, _ => simp [go_sem]
      · match k, hk with
        | 0, _ => exact (HT.out.mono HBA.out).m0
        | 1, _ => exact (HT.out.mono HBA.out).m1
      rw [HBn.out]
      by_cases h : m1 < m0
      · rw [if_pos h]
        rintro e w1 ⟨rfl, hb1⟩
        have hT1 := HT.out.mono (HBA.out.trans (hb1.mono HBA.out.size))
        have HT1 := Lib.hid hT1
        have cm0 := hT1.m0
        have cm1 := hT1.m1
        have lt1 := lt_of_cell cm0
        clear hT1 hb1 HBA HBn
        go_wp2_with fail
        refine wp_region_grown_tail 8 (by kernel_rfl) (by kernel_rfl) ?_
        simp only [List.take_succ_cons, List.take_zero, List.drop_succ_cons, List.drop_zero]
        repeat (go_big_quiet_step ((go_at_call 10; exact Calls.regrown_of (learn10_0 _ _ (by omega) (by omega)))))
        refine wpQuiet_nil ?_
        intro w2 hw2
        have hb2 : Below w1.heap.size w1 w2 := by obtain ⟨p, rfl⟩ := hw2; exact below_regrown _ _ _
        have HT2 := Lib.hid (HT1.out.mono hb2)
        clear hw2 hb2 cm0 cm1
        have ct0 := HT2.out.l0
        have ltm := HT2.out.bb.size
        go_wp2_with fail
        refine (learn10_n (fe m1) (10 + n) _ (by have := fe_le m1 (by omega); omega) (by have := fe_le m1 (by omega); omega) (by omega) (by omega)).mono ?_
        rintro x w3 ⟨rfl, hb3⟩
        have hBB : Below w2.heap.size w2 (w2.alloc (.cells #[.int .i64 (fe m0), .int .i64 (fe m1)] 23)) := (Below.refl _ _).alloc (Nat.le_refl _) _
        have HT3 := Lib.hid (HT2.out.mono (hBB.trans (hb3.mono hBB.size)))
        have d0 : w3.cell? ⟨w2.heap.size, 0, none⟩ = some (.int .i64 (fe m0)) := (hb3.cell (by simp)).trans (by simp)
        have d1 : w3.cell? ⟨w2.heap.size, 1, none⟩ = some (.int .i64 (fe m1)) := (hb3.cell (by simp)).trans (by simp)
        have df : ∀ o, w3.frozen? ⟨w2.heap.size, o, none⟩ = false := fun o => (hb3.frozen (by simp)).trans (by simp [go_sem])
        clear hb3 hBB ct0
        have c1 := HT3.out.l0
        have c2 := HT3.out.l1
        have c3 := HT3.out.s0
        have c4 := HT3.out.s1
        have f1 := HT3.out.fl
        have f2 := HT3.out.fs
        have q1 : w.heap.size + 1 ≠ w2.heap.size := by have := lt_of_cell HT2.out.l0; omega
        have q2 : w.heap.size + 1 + 1 ≠ w2.heap.size := by have := lt_of_cell HT2.out.s0; omega
        clear HT2 HT1 HT
        have H1 := (HI.out.one (by omega) (by omega) h)
        have hbd2 := H1.bounds (by omega)
        have HI2 := Lib.hid H1
        clear H1 HI
        go_wp2
        go_roundw
        case rel => exact ⟨k + 1, w2.heap.size, _, _, _, _, _, _, by omega, by go_num, rfl, HT3.out.next 1 ltm q1 q2 d0 d1 (.inr rfl), HI2.out⟩
        case measure => simp [intOf]; omega
      · rw [if_neg h]
        rintro e w1 ⟨rfl, hb1⟩
        have hT1 := HT.out.mono (HBA.out.trans (hb1.mono HBA.out.size))
        have HT1 := Lib.hid hT1
        have cm0 := hT1.m0
        have cm1 := hT1.m1
        have lt1 := lt_of_cell cm0
        clear hT1 hb1 HBA HBn
        go_wp2_with fail
        refine wp_region_grown_tail 8 (by kernel_rfl) (by kernel_rfl) ?_
        simp only [List.take_succ_cons, List.take_zero, List.drop_succ_cons, List.drop_zero]
        repeat (go_big_quiet_step ((go_at_call 10; exact Calls.regrown_of (learn10_0 _ _ (by omega) (by omega)))))
        refine wpQuiet_nil ?_
        intro w2 hw2
        have hb2 : Below w1.heap.size w1 w2 := by obtain ⟨p, rfl⟩ := hw2; exact below_regrown _ _ _
        have HT2 := Lib.hid (HT1.out.mono hb2)
        clear hw2 hb2 cm0 cm1
        have ct0 := HT2.out.l0
        have ltm := HT2.out.bb.size
        go_wp2_with fail
        refine (learn10_n (fe m0) (10 + n) _ (by have := fe_le m0 (by omega); omega) (by have := fe_le m0 (by omega); omega) (by omega) (by omega)).mono ?_
        rintro x w3 ⟨rfl, hb3⟩
        have hBB : Below w2.heap.size w2 (w2.alloc (.cells #[.int .i64 (fe m0), .int .i64 (fe m1)] 23)) := (Below.refl _ _).alloc (Nat.le_refl _) _
        have HT3 := Lib.hid (HT2.out.mono (hBB.trans (hb3.mono hBB.size)))
        have d0 : w3.cell? ⟨w2.heap.size, 0, none⟩ = some (.int .i64 (fe m0)) := (hb3.cell (by simp)).trans (by simp)
        have d1 : w3.cell? ⟨w2.heap.size, 1, none⟩ = some (.int .i64 (fe m1)) := (hb3.cell (by simp)).trans (by simp)
        have df : ∀ o, w3.frozen? ⟨w2.heap.size, o, none⟩ = false := fun o => (hb3.frozen (by simp)).trans (by simp [go_sem])
        clear hb3 hBB ct0
        have c1 := HT3.out.l0
        have c2 := HT3.out.l1
        have c3 := HT3.out.s0
        have c4 := HT3.out.s1
        have f1 := HT3.out.fl
        have f2 := HT3.out.fs
        have q1 : w.heap.size + 1 ≠ w2.heap.size := by have := lt_of_cell HT2.out.l0; omega
        have q2 : w.heap.size + 1 + 1 ≠ w2.heap.size := by have := lt_of_cell HT2.out.s0; omega
        clear HT2 HT1 HT
        have H1 := (HI.out.zero (by omega) (by omega) (by omega))
        have hbd2 := H1.bounds (by omega)
        have HI2 := Lib.hid H1
        clear H1 HI
        go_wp2
        go_roundw
        case rel => exact ⟨k + 1, w2.heap.size, _, _, _, _, _, _, by omega, by go_num, rfl, HT3.out.next 0 ltm q1 q2 d0 d1 (.inl rfl), HI2.out⟩
        case measure => simp [intOf]; omega
    · have : k = 200 := by omega
      subst this
      have c3 := HT.out.s0
      have c4 := HT.out.s1
      go_wp2_with (go_at_call 7; refine (awake7 _).mono ?_; rintro e w' ⟨rfl, hb⟩)
      go_ret
      exact ⟨rfl, HT.out.bb.trans (hb.mono HT.out.bb.size)⟩
end Go.Proofs.Ytkjadgjambphjaa
