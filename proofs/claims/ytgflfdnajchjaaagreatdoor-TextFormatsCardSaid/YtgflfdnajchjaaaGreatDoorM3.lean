/- Layer 45: the fades of a terminal by dice: the walk. -/
import Derived.Test.YtgflfdnajchjaaaGreatDoorM2
namespace Go.Proofs.YtgflfdnajchjaaaGreatDoor
set_option linter.unusedVariables false
set_option linter.unusedSimpArgs false
open Go.RowKit Go.Sort
open Tm
attribute [local go_sem] gcell
/-- What stands at the head of each of the loops. -/
structure FdSt (w wr : World) (c : Cf) (k0 p B : Nat) (v : Value) (n : Nat) : Prop where
  F : FdsAt wr w.heap.size k0 (c.h 1) v n
  D : DiceS wr p B
  O : OnlyP w wr p
  Z : wr.heap[w.heap.size]? = some (.cells (cfs c).toArray 37 (0, 0))
theorem FdSt.app {w wr w7 : World} {c : Cf} {k0 p B n n' : Nat} {v v7 : Value} (S : FdSt w wr c k0 p B v n) (o : Obj) (hB : B ≤ w.heap.size) (hg : (wr.alloc o).grownBy w7 v.ownBlock) (F7 : FdsAt w7 w.heap.size k0 (c.h 1) v7 n') : FdSt w w7 c k0 p B v7 n' := by
  have hle := S.O.size
  obtain ⟨X, hX, -⟩ := S.F
  have hz := S.Z
  have hne : ∀ i, i < w.heap.size → v.ownBlock ≠ some i := fun i hi e => by have := (hX.lt i e).1; omega
  have hk : ∀ i, i < wr.heap.size → v.ownBlock ≠ some i → w7.heap[i]? = wr.heap[i]? := fun i hi h => (hg.block i (by simp; omega) (fun e => h e.symm)).trans (Below.heap_alloc _ _ _ hi)
  have hs : wr.heap.size ≤ w7.heap.size := by have := hg.size; simp at this; omega
  refine ⟨F7, S.D.mono (C := B) ⟨hg.os, hg.tape, hg.output, hs, fun i hi => hk i (by omega) (hne i (by omega))⟩ (Nat.le_refl _), ⟨hg.os.trans S.O.os, hg.tape.trans S.O.tape, hg.output.trans S.O.output, Nat.le_trans hle hs, fun i hi h => (hk i (by omega) (hne i hi)).trans (S.O.block i hi h)⟩, (hk _ (bx_lt hz) (fun e => own_ne hX hz (by decide) e rfl)).trans hz⟩
theorem FdSt.next {w wr w' : World} {c : Cf} {k0 p B n : Nat} {v : Value} (S : FdSt w wr c k0 p B v n) (hp : p < w.heap.size) (ho : OnlyP wr w' p) (hd : DiceS w' p B) : FdSt w w' c k0 p B v n :=
  ⟨S.F.keep ho hp, hd, only_trans S.O ho, only_box ho (by omega) S.Z⟩
theorem FdSt.alloc {w wr : World} {c : Cf} {k0 p B n : Nat} {v : Value} (S : FdSt w wr c k0 p B v n) (o : Obj) : FdSt w (wr.alloc o) c k0 p B v n :=
  ⟨S.F.alloc o, S.D.alloc o, only_alloc S.O o, bx_keep o S.Z⟩
theorem FdSt.lt {w wr : World} {c : Cf} {k0 p B n : Nat} {v : Value} (S : FdSt w wr c k0 p B v n) : ∀ g, v.ownBlock = some g → w.heap.size ≤ g ∧ g < wr.heap.size ∧ g ≠ w.heap.size := fun g hg => by
  obtain ⟨X, hX, -⟩ := S.F
  exact ⟨(hX.lt g hg).1, (hX.lt g hg).2, fun e => own_ne hX S.Z (by decide) hg e⟩
/-- A box beside is written. -/
theorem FdSt.setBox {w wr : World} {c : Cf} {k0 p B n q o : Nat} {v x : Value} (S : FdSt w wr c k0 p B v n) (hB : B ≤ w.heap.size) (hq : w.heap.size < q) (hv : ∀ g, v.ownBlock = some g → g ≠ q) : FdSt w (wr.setCell ⟨q, o, none⟩ x) c k0 p B v n := by
  obtain ⟨X, hX, hb⟩ := S.F
  refine ⟨⟨X, own_kept hX fun g hg => Below.heap_setCell _ _ _ _ (hv g hg), hb⟩, S.D.set (by omega), only_setNew S.O (by omega) _ _, (Below.heap_setCell _ _ _ _ (by show w.heap.size ≠ q; omega)).trans S.Z⟩
/-- The last fade's noise is written. -/
theorem FdSt.setN {w wr : World} {c : Cf} {k0 p B n g cc : Nat} {x : Int} (S : FdSt w wr c k0 p B (.slice (some ⟨g, 0, none⟩) (n + 1) cc) (n + 1)) (hB : B ≤ w.heap.size) (h0 : 0 ≤ x) (h1 : x ≤ 60) : FdSt w (wr.setCell ⟨g, n * 5 + 4, none⟩ (.int .i64 x)) c k0 p B (.slice (some ⟨g, 0, none⟩) (n + 1) cc) (n + 1) := by
  have hg := S.lt g rfl
  exact ⟨S.F.setN h0 h1, S.D.set (by omega), only_setNew S.O hg.1 _ _, (Below.heap_setCell _ _ _ _ (by show w.heap.size ≠ g; omega)).trans S.Z⟩
theorem FdSt.row {w wr : World} {c : Cf} {k0 p B n : Nat} {v : Value} (S : FdSt w wr c k0 p B v (n + 1)) : ∃ g cc, v = .slice (some ⟨g, 0, none⟩) (n + 1) cc ∧ (∀ o, wr.frozen? ⟨g, o, none⟩ = false) ∧ ∀ j, j < (n + 1) * 5 → ∃ x, wr.cell? ⟨g, j, none⟩ = some (.int .i64 x) := by
  obtain ⟨X, hX, -⟩ := S.F
  obtain ⟨a, cc, b, e, hc, hp, hcell⟩ := own_cellsK hX
  obtain ⟨rfl, -, -, hfr⟩ := hp (by omega)
  exact ⟨b, cc, e, hfr, fun j hj => ⟨_, hcell j hj⟩⟩
set_option maxRecDepth 100000 in
set_option maxHeartbeats 4000000 in
theorem fades22 (c : Cf) (k0 g0 m : Nat) (cl : Int) (noise moves : Bool) (p B : Nat) (w : World) (D : DiceS w p B) (hm : c.h 1 = m) (hc : 1 ≤ m ∧ m ≤ 3) (hk0 : k0 < c.tn) (htn : c.tn ≤ 100) (hta : c.ta = some ⟨g0, 0, none⟩) (hg0 : g0 ≠ p) (hcell : w.cell? ⟨g0, k0 * 14, none⟩ = some (.int .i64 cl)) :
    Calls Tryz.prog 22 #[.pointer (some ⟨p, 0, none⟩), cfv c, .int .i64 k0, .bool noise, .bool moves] w fun e w' => ∃ v n, e = .returned v ∧ FdsAt w' w.heap.size k0 (c.h 1) v n ∧ (1 ≤ n ∧ n ≤ 60) ∧ DiceS w' p B ∧ OnlyP w w' p := by
  have hp := D.lt
  have hB := D.le
  have D1 := Lib.hid D
  have O1 := Lib.hid (only_refl w p)
  have HT := Lib.hid (show w.cell? ⟨g0, k0 * 14, none⟩ = some (.int .i64 cl) from hcell)
  have HTA := Lib.hid hta
  have HM := Lib.hid hm
  have hg0l := lt_of_cell hcell
  have hcv : cfv c = .agg (cfs c).toArray := rfl
  clear D hcell hta hm
  rw [hcv]
  clear hcv
  go_enter Tryz.func22, Tryz.ntmps22
  go_upto_region 3 with fail
  have S1 := Lib.hid (show FdSt w (w.alloc (.cells (cfs c).toArray 37)) c k0 p B (.slice none 0 0) 0 from ⟨FdsAt.nil _ _ _ _, D1.out.alloc _, only_alloc O1.out _, bx_new w _ 37⟩)
  generalize w.alloc _ = w1 at *
  clear D1 O1
  go_loopw [11, 12] (fun l i wr => ∃ (j : Nat) (lv : Value), j ≤ m ∧ lv = l ∧ i = .int .i64 j ∧ FdSt w wr c k0 p B lv j) (fun _ i _ => m - (intOf i).toNat)
  case atStart => exact ⟨0, _, Nat.zero_le _, rfl, rfl, S1.out⟩
  case round =>
    obtain ⟨j, lv, hj, rfl, rfl, hS⟩ := hrel
    have HS := Lib.hid hS
    clear hS
    have c1 : wr.cell? ⟨w.heap.size, 1, none⟩ = some (.int .i64 m) := by
      have := bx_cell HS.out.Z 1 (v := .int .i64 (c.h 1)) rfl
      rwa [HM.out] at this
    by_cases hlt : j < m
    · have hy : FdB (k0 : Int) (c.h 1) ⟨k0, j, 0, 40, 0⟩ := ⟨rfl, by dsimp only; omega, by rw [HM.out]; dsimp only; omega, by dsimp only; omega, by dsimp only; omega, by dsimp only; omega, by dsimp only; omega, by dsimp only; omega, by dsimp only; omega⟩
      have HY := Lib.hid hy
      have hsz := HS.out.O.size
      clear hy
      go_upto_region 6 with (at_builtin; refine wpList_append_fd _ w.heap.size k0 (c.h 1) rfl (.tmp 24) (.tmp 28) rfl lv j rfl ⟨k0, j, 0, 40, 0⟩ HY.out wr.heap.size rfl (bx_new wr _ 86) (HS.out.F.alloc _) (by simp; omega) (by omega) ?_; intro v7 w7 F7 hg7 hv7)
      have S7 := Lib.hid (HS.out.app _ hB hg7 F7)
      clear hg7 F7 HS hv7
      cases moves with
      | false =>
        go_wp2
        go_roundw
        case rel => exact ⟨j + 1, _, by omega, rfl, by go_num, S7.out⟩
        case measure => simp [intOf] <;> omega
      | true =>
        have c13 : w7.cell? ⟨w.heap.size, 19, none⟩ = some (.slice (some ⟨g0, 0, none⟩) c.tn c.tc) := by
          have := bx_cell S7.out.Z 19 (v := .slice c.ta c.tn c.tc) rfl
          rwa [HTA.out] at this
        have cT : w7.cell? ⟨g0, k0 * 14, none⟩ = some (.int .i64 cl) := by
          rw [World.cell?_of_block (S7.out.O.block g0 hg0l (by simpa using hg0))]
          exact HT.out
        by_cases hcl : (j : Int) = cl
        · have hcq : ((j : Int) != cl) = false := by simp [hcl]
          clear hcl
          go_wp2
          go_roundw
          case rel => exact ⟨j + 1, _, by omega, rfl, by go_num, S7.out⟩
          case measure => simp [intOf] <;> omega
        · have hcq : ((j : Int) != cl) = true := by simp [hcl]
          obtain ⟨g7, cc7, rfl, hfr, hcs⟩ := S7.out.row
          have f7 := hfr (j * 5 + 4)
          obtain ⟨x7, q7⟩ := hcs (j * 5 + 4) (by omega)
          clear hcl hfr hcs
          go_wp2
          go_roundw
          case rel => exact ⟨j + 1, _, by omega, rfl, by go_num, S7.out.setN hB (by decide) (by decide)⟩
          case measure => simp [intOf] <;> omega
    · obtain rfl : j = m := by omega
      clear S1 hlt hj
      obtain ⟨n1, hn1, hn2, hn3⟩ : ∃ n1 : Nat, Hid (n1 = j) ∧ 1 ≤ n1 ∧ n1 ≤ 3 := ⟨j, Lib.hid rfl, by omega, by omega⟩
      replace HS := Lib.hid (show FdSt w wr c k0 p B lv n1 from hn1.out ▸ HS.out)
      have hpw : p < w.heap.size := by omega
      go_wp2_with (go_at_call 12; refine (next12 (by decide) (by decide) HS.out.D).mono ?_; rintro e w3 ⟨v3, rfl, h30, h31, hd, ho⟩)
      replace HS := Lib.hid (HS.out.next hpw ho hd)
      obtain ⟨x3, rfl⟩ : ∃ x3 : Nat, v3 = x3 := ⟨v3.toNat, by omega⟩
      clear ho hd c1
      go_loopw [11, 13, 14, 15, 16] (fun l a s14 s15 s16 wr => ∃ (r n x : Nat) (lv : Value), lv = l ∧ a = .int .i64 x ∧ FdSt w wr c k0 p B lv n ∧ 10 + 15 * r ≤ x ∧ x ≤ 203 ∧ r ≤ 10 ∧ n ≤ 3 + 3 * r ∧ 1 ≤ n) (fun _ a _ _ _ _ => 300 - (intOf a).toNat)
      case atStart => exact ⟨0, n1, 10 + x3, _, rfl, by go_num, HS.out, by omega, by omega, by omega, by omega, by omega⟩
      case round =>
        clear HS hn1 hn2 hn3
        obtain ⟨r, n, x, lv, rfl, rfl, hS, hx0, hx1, hr, hn, hn1⟩ := hrel
        have HS := Lib.hid hS
        clear hS
        cases moves with
        | false =>
          go_wp2_with fail
          go_loopw [11, 17] (fun l i wr => ∃ (q m : Nat) (lv : Value), lv = l ∧ i = .int .i64 q ∧ q ≤ j ∧ FdSt w wr c k0 p B lv m ∧ 1 ≤ m ∧ m ≤ n + q) (fun _ i _ => 10 - (intOf i).toNat)
          case atStart => exact ⟨0, n, _, rfl, rfl, Nat.zero_le _, HS.out, hn1, Nat.le_refl _⟩
          case round =>
            clear HS
            obtain ⟨q, m, lv, rfl, rfl, hq, hS, hm1, hm2⟩ := hrel
            have HS := Lib.hid hS
            have c1 : wr.cell? ⟨w.heap.size, 1, none⟩ = some (.int .i64 j) := by
              have := bx_cell HS.out.Z 1 (v := .int .i64 (c.h 1)) rfl
              rwa [HM.out] at this
            clear hS
            by_cases hlt2 : q < j
            · cases noise with
              | false =>
                go_wp2
                go_ret
                exact ⟨_, m, rfl, HS.out.F, ⟨hm1, by omega⟩, HS.out.D, HS.out.O⟩
              | true =>
                go_upto_region 24 with fail
                clear c1
                go_wp2_with (go_at_call 12; refine (next12 (by decide) (by decide) HS.out.D).mono ?_; rintro e w5 ⟨v5, rfl, h50, h51, hd, ho⟩; refine Hid.out ?_)
                refine Lib.hid ?_
                replace HS := Lib.hid (HS.out.next hpw ho hd)
                clear ho hd
                go_wp2_with (go_at_call 12; refine (next12 (by decide) (by decide) HS.out.D).mono ?_; rintro e w6 ⟨v6, rfl, h60, h61, hd, ho⟩; refine Hid.out ?_)
                refine Lib.hid ?_
                replace HS := Lib.hid (HS.out.next hpw ho hd)
                clear ho hd
                have HY := Lib.hid (show FdB (k0 : Int) (c.h 1) ⟨k0, q, 2 * (20 + v5), 30, v6⟩ from ⟨rfl, by dsimp only; omega, by rw [HM.out]; dsimp only; omega, by dsimp only; omega, by dsimp only; omega, by dsimp only; omega, by dsimp only; omega, by dsimp only; omega, by dsimp only; omega⟩)
                have hsz := HS.out.O.size
                go_wp2_with (at_builtin; refine wpList_append_fd _ w.heap.size k0 (c.h 1) rfl (.tmp 99) (.tmp 109) rfl lv m rfl ⟨k0, q, 2 * (20 + v5), 30, v6⟩ HY.out w6.heap.size rfl (bx_new w6 _ 86) (HS.out.F.alloc _) (by simp; omega) (by omega) ?_; intro v9 w9 F9 hg9 hv9; have S9 := Lib.hid (HS.out.app _ hB hg9 F9))
                go_roundw
                case rel => exact ⟨q + 1, m + 1, _, rfl, by go_num, by omega, S9.out, by omega, by omega⟩
                case measure => simp [intOf] <;> omega
            · obtain rfl : q = j := by omega
              clear hlt2 hq
              go_wp2
              go_ret
              exact ⟨_, m, rfl, HS.out.F, ⟨hm1, by omega⟩, HS.out.D, HS.out.O⟩
        | true =>
          by_cases hlt : x < 160
          · have c1 := fun (u : World) (hu : FdSt w u c k0 p B lv n) => (show u.cell? ⟨w.heap.size, 1, none⟩ = some (.int .i64 j) from by have := bx_cell hu.Z 1 (v := .int .i64 (c.h 1)) rfl; rwa [HM.out] at this)
            have c11 := c1 wr HS.out
            go_upto_region 12 with (go_at_call 12; refine (next12 (by omega) (by omega) HS.out.D).mono ?_; rintro e w4 ⟨v4, rfl, h40, h41, hd, ho⟩; replace HS := Lib.hid (HS.out.next hpw ho hd); clear ho hd)
            clear c11 c1
            go_wp2_with fail
            go_loopw [11, 15, 16] (fun l i s16 wr => ∃ (q : Nat) (lv : Value), lv = l ∧ i = .int .i64 q ∧ q ≤ j ∧ FdSt w wr c k0 p B lv (n + q)) (fun _ i _ _ => 10 - (intOf i).toNat)
            case atStart => exact ⟨0, _, rfl, rfl, Nat.zero_le _, HS.out⟩
            case round =>
              clear HS
              obtain ⟨q, lv, rfl, rfl, hq, hS⟩ := hrel
              have HS := Lib.hid hS
              have c1 : wr.cell? ⟨w.heap.size, 1, none⟩ = some (.int .i64 j) := by
                have := bx_cell HS.out.Z 1 (v := .int .i64 (c.h 1)) rfl
                rwa [HM.out] at this
              clear hS
              by_cases hlt2 : q < j
              · go_upto_region 15 with fail
                go_upto_region 16 with (go_at_call 12; refine (next12 (by decide) (by decide) HS.out.D).mono ?_; rintro e w5 ⟨v5, rfl, h50, h51, hd, ho⟩; replace HS := Lib.hid (HS.out.next hpw ho hd); clear ho hd)
                clear c1
                have hzl := bx_lt HS.out.Z
                have HX := Lib.hid (bx_new w5 #[.int .i64 k0, .int .i64 q, .int .i64 (2 * x), .int .i64 40, .int .i64 (8 + v5)] 86)
                have HV := Lib.hid (fun (g : Nat) (hg : lv.ownBlock = some g) => Nat.ne_of_lt (HS.out.lt g hg).2.1)
                replace HS := Lib.hid (HS.out.alloc (.cells #[.int .i64 k0, .int .i64 q, .int .i64 (2 * x), .int .i64 40, .int .i64 (8 + v5)] 86))
                generalize w5.alloc _ = w6 at *
                generalize w5.heap.size = zb at *
                have hzp : zb ≠ p := by omega
                by_cases hg : (q : Int) = v4
                · have hgq : ((q : Int) == v4) = true := by simp [hg]
                  clear hg
                  have c4 := bx_cell HX.out 4 rfl
                  have f4 := bx_fr HX.out 4
                  go_upto_region 18 with fail
                  clear c4 f4
                  replace HX := Lib.hid (bx_set_same (k := 4) HX.out (.int .i64 0))
                  replace HS := Lib.hid (FdSt.setBox (q := zb) (o := 4) (x := .int .i64 0) HS.out hB hzl HV.out)
                  generalize w6.setCell _ _ = w7 at *
                  go_wp2_with (go_at_call 12; refine (next12 (by decide) (by decide) HS.out.D).mono ?_; rintro e w8 ⟨v8, rfl, h80, h81, hd, ho⟩; replace HS := Lib.hid (HS.out.next hpw ho hd); replace HX := Lib.hid (only_box ho hzp HX.out); clear ho hd; refine Hid.out ?_)
                  refine Lib.hid ?_
                  by_cases h5 : v8 = 5
                  · subst h5
                    have c3 := bx_cell HX.out 3 rfl
                    have f3 := bx_fr HX.out 3
                    go_upto_region 20 with fail
                    clear c3 f3
                    replace HX := Lib.hid (bx_set_same (k := 3) HX.out (.int .i64 0))
                    replace HS := Lib.hid (FdSt.setBox (q := zb) (o := 3) (x := .int .i64 0) HS.out hB hzl HV.out)
                    generalize w8.setCell _ _ = w9a at *
                    replace HX := Lib.hid (show w9a.heap[zb]? = some (.cells #[.int .i64 k0, .int .i64 q, .int .i64 (2 * x), .int .i64 0, .int .i64 0] 86 (0, 0)) from HX.out)
                    have HRR := Lib.hid (bx_range HX.out (l := [.int .i64 k0, .int .i64 q, .int .i64 (2 * x), .int .i64 0, .int .i64 0]) rfl)
                    have HY := Lib.hid (show FdB (k0 : Int) (c.h 1) ⟨k0, q, 2 * x, 0, 0⟩ from ⟨rfl, by dsimp only; omega, by rw [HM.out]; dsimp only; omega, by dsimp only; omega, by dsimp only; omega, by dsimp only; omega, by dsimp only; omega, by dsimp only; omega, by dsimp only; omega⟩)
                    have hsz := HS.out.O.size
                    go_wp2_with (first | (refine wpList_load_mid rfl 86 (.tmp 16) rfl zb 0 rfl [.int .i64 k0, .int .i64 q, .int .i64 (2 * x), .int .i64 0, .int .i64 0] _ HRR.out Tryz.underlying86 rfl (by kernel_rfl) ?_) | (at_builtin; refine wpList_append_fd _ w.heap.size k0 (c.h 1) rfl (.tmp 86) (.tmp 88) rfl lv (n + q) rfl ⟨k0, q, 2 * x, 0, 0⟩ HY.out w9a.heap.size rfl (bx_new w9a _ 86) (HS.out.F.alloc _) (by simp; omega) (by omega) ?_; intro v9 w9 F9 hg9 hv9; have S9 := Lib.hid (HS.out.app _ hB hg9 F9)))
                    go_roundw
                    case rel => exact ⟨q + 1, _, rfl, by go_num, by omega, S9.out⟩
                    case measure => simp [intOf] <;> omega
                  · have h5q : (v8 == 5) = false := by simp [h5]
                    clear h5
                    go_upto_region 20 with fail
                    replace HX := Lib.hid (show w8.heap[zb]? = some (.cells #[.int .i64 k0, .int .i64 q, .int .i64 (2 * x), .int .i64 40, .int .i64 0] 86 (0, 0)) from HX.out)
                    have HRR := Lib.hid (bx_range HX.out (l := [.int .i64 k0, .int .i64 q, .int .i64 (2 * x), .int .i64 40, .int .i64 0]) rfl)
                    have HY := Lib.hid (show FdB (k0 : Int) (c.h 1) ⟨k0, q, 2 * x, 40, 0⟩ from ⟨rfl, by dsimp only; omega, by rw [HM.out]; dsimp only; omega, by dsimp only; omega, by dsimp only; omega, by dsimp only; omega, by dsimp only; omega, by dsimp only; omega, by dsimp only; omega⟩)
                    have hsz := HS.out.O.size
                    go_wp2_with (first | (refine wpList_load_mid rfl 86 (.tmp 16) rfl zb 0 rfl [.int .i64 k0, .int .i64 q, .int .i64 (2 * x), .int .i64 40, .int .i64 0] _ HRR.out Tryz.underlying86 rfl (by kernel_rfl) ?_) | (at_builtin; refine wpList_append_fd _ w.heap.size k0 (c.h 1) rfl (.tmp 86) (.tmp 88) rfl lv (n + q) rfl ⟨k0, q, 2 * x, 40, 0⟩ HY.out w8.heap.size rfl (bx_new w8 _ 86) (HS.out.F.alloc _) (by simp; omega) (by omega) ?_; intro v9 w9 F9 hg9 hv9; have S9 := Lib.hid (HS.out.app _ hB hg9 F9)))
                    go_roundw
                    case rel => exact ⟨q + 1, _, rfl, by go_num, by omega, S9.out⟩
                    case measure => simp [intOf] <;> omega
                · have hgq : ((q : Int) == v4) = false := by simp [hg]
                  clear hg
                  go_upto_region 18 with fail
                  go_wp2_with (go_at_call 12; refine (next12 (by decide) (by decide) HS.out.D).mono ?_; rintro e w8 ⟨v8, rfl, h80, h81, hd, ho⟩; replace HS := Lib.hid (HS.out.next hpw ho hd); replace HX := Lib.hid (only_box ho hzp HX.out); clear ho hd; refine Hid.out ?_)
                  refine Lib.hid ?_
                  by_cases h5 : v8 = 5
                  · subst h5
                    have c3 := bx_cell HX.out 3 rfl
                    have f3 := bx_fr HX.out 3
                    go_upto_region 20 with fail
                    clear c3 f3
                    replace HX := Lib.hid (bx_set_same (k := 3) HX.out (.int .i64 0))
                    replace HS := Lib.hid (FdSt.setBox (q := zb) (o := 3) (x := .int .i64 0) HS.out hB hzl HV.out)
                    generalize w8.setCell _ _ = w9a at *
                    replace HX := Lib.hid (show w9a.heap[zb]? = some (.cells #[.int .i64 k0, .int .i64 q, .int .i64 (2 * x), .int .i64 0, .int .i64 (8 + v5)] 86 (0, 0)) from HX.out)
                    have HRR := Lib.hid (bx_range HX.out (l := [.int .i64 k0, .int .i64 q, .int .i64 (2 * x), .int .i64 0, .int .i64 (8 + v5)]) rfl)
                    have HY := Lib.hid (show FdB (k0 : Int) (c.h 1) ⟨k0, q, 2 * x, 0, (8 + v5)⟩ from ⟨rfl, by dsimp only; omega, by rw [HM.out]; dsimp only; omega, by dsimp only; omega, by dsimp only; omega, by dsimp only; omega, by dsimp only; omega, by dsimp only; omega, by dsimp only; omega⟩)
                    have hsz := HS.out.O.size
                    go_wp2_with (first | (refine wpList_load_mid rfl 86 (.tmp 16) rfl zb 0 rfl [.int .i64 k0, .int .i64 q, .int .i64 (2 * x), .int .i64 0, .int .i64 (8 + v5)] _ HRR.out Tryz.underlying86 rfl (by kernel_rfl) ?_) | (at_builtin; refine wpList_append_fd _ w.heap.size k0 (c.h 1) rfl (.tmp 86) (.tmp 88) rfl lv (n + q) rfl ⟨k0, q, 2 * x, 0, (8 + v5)⟩ HY.out w9a.heap.size rfl (bx_new w9a _ 86) (HS.out.F.alloc _) (by simp; omega) (by omega) ?_; intro v9 w9 F9 hg9 hv9; have S9 := Lib.hid (HS.out.app _ hB hg9 F9)))
                    go_roundw
                    case rel => exact ⟨q + 1, _, rfl, by go_num, by omega, S9.out⟩
                    case measure => simp [intOf] <;> omega
                  · have h5q : (v8 == 5) = false := by simp [h5]
                    clear h5
                    go_upto_region 20 with fail
                    replace HX := Lib.hid (show w8.heap[zb]? = some (.cells #[.int .i64 k0, .int .i64 q, .int .i64 (2 * x), .int .i64 40, .int .i64 (8 + v5)] 86 (0, 0)) from HX.out)
                    have HRR := Lib.hid (bx_range HX.out (l := [.int .i64 k0, .int .i64 q, .int .i64 (2 * x), .int .i64 40, .int .i64 (8 + v5)]) rfl)
                    have HY := Lib.hid (show FdB (k0 : Int) (c.h 1) ⟨k0, q, 2 * x, 40, (8 + v5)⟩ from ⟨rfl, by dsimp only; omega, by rw [HM.out]; dsimp only; omega, by dsimp only; omega, by dsimp only; omega, by dsimp only; omega, by dsimp only; omega, by dsimp only; omega, by dsimp only; omega⟩)
                    have hsz := HS.out.O.size
                    go_wp2_with (first | (refine wpList_load_mid rfl 86 (.tmp 16) rfl zb 0 rfl [.int .i64 k0, .int .i64 q, .int .i64 (2 * x), .int .i64 40, .int .i64 (8 + v5)] _ HRR.out Tryz.underlying86 rfl (by kernel_rfl) ?_) | (at_builtin; refine wpList_append_fd _ w.heap.size k0 (c.h 1) rfl (.tmp 86) (.tmp 88) rfl lv (n + q) rfl ⟨k0, q, 2 * x, 40, (8 + v5)⟩ HY.out w8.heap.size rfl (bx_new w8 _ 86) (HS.out.F.alloc _) (by simp; omega) (by omega) ?_; intro v9 w9 F9 hg9 hv9; have S9 := Lib.hid (HS.out.app _ hB hg9 F9)))
                    go_roundw
                    case rel => exact ⟨q + 1, _, rfl, by go_num, by omega, S9.out⟩
                    case measure => simp [intOf] <;> omega
              · obtain rfl : q = j := by omega
                clear hlt2 hq
                go_wp2_with (go_at_call 12; refine (next12 (by decide) (by decide) HS.out.D).mono ?_; rintro e w5 ⟨v5, rfl, h50, h51, hd, ho⟩; replace HS := Lib.hid (HS.out.next hpw ho hd); clear ho hd)
                obtain ⟨x5, rfl⟩ : ∃ x5 : Nat, v5 = x5 := ⟨v5.toNat, by omega⟩
                go_roundw
                case rel => exact ⟨r + 1, n + q, x + 15 + x5, _, rfl, by go_num, HS.out, by omega, by omega, by omega, by omega, by omega⟩
                case measure => simp [intOf] <;> omega
          · have hlt' : 160 ≤ x := by omega
            clear hlt
            go_wp2_with fail
            go_loopw [11, 17] (fun l i wr => ∃ (q m : Nat) (lv : Value), lv = l ∧ i = .int .i64 q ∧ q ≤ j ∧ FdSt w wr c k0 p B lv m ∧ 1 ≤ m ∧ m ≤ n + q) (fun _ i _ => 10 - (intOf i).toNat)
            case atStart => exact ⟨0, n, _, rfl, rfl, Nat.zero_le _, HS.out, hn1, Nat.le_refl _⟩
            case round =>
              clear HS
              obtain ⟨q, m, lv, rfl, rfl, hq, hS, hm1, hm2⟩ := hrel
              have HS := Lib.hid hS
              have c1 : wr.cell? ⟨w.heap.size, 1, none⟩ = some (.int .i64 j) := by
                have := bx_cell HS.out.Z 1 (v := .int .i64 (c.h 1)) rfl
                rwa [HM.out] at this
              clear hS
              by_cases hlt2 : q < j
              · cases noise with
                | false =>
                  go_wp2
                  go_ret
                  exact ⟨_, m, rfl, HS.out.F, ⟨hm1, by omega⟩, HS.out.D, HS.out.O⟩
                | true =>
                  go_upto_region 24 with fail
                  clear c1
                  go_wp2_with (go_at_call 12; refine (next12 (by decide) (by decide) HS.out.D).mono ?_; rintro e w5 ⟨v5, rfl, h50, h51, hd, ho⟩; refine Hid.out ?_)
                  refine Lib.hid ?_
                  replace HS := Lib.hid (HS.out.next hpw ho hd)
                  clear ho hd
                  go_wp2_with (go_at_call 12; refine (next12 (by decide) (by decide) HS.out.D).mono ?_; rintro e w6 ⟨v6, rfl, h60, h61, hd, ho⟩; refine Hid.out ?_)
                  refine Lib.hid ?_
                  replace HS := Lib.hid (HS.out.next hpw ho hd)
                  clear ho hd
                  have HY := Lib.hid (show FdB (k0 : Int) (c.h 1) ⟨k0, q, 2 * (20 + v5), 30, v6⟩ from ⟨rfl, by dsimp only; omega, by rw [HM.out]; dsimp only; omega, by dsimp only; omega, by dsimp only; omega, by dsimp only; omega, by dsimp only; omega, by dsimp only; omega, by dsimp only; omega⟩)
                  have hsz := HS.out.O.size
                  go_wp2_with (at_builtin; refine wpList_append_fd _ w.heap.size k0 (c.h 1) rfl (.tmp 99) (.tmp 109) rfl lv m rfl ⟨k0, q, 2 * (20 + v5), 30, v6⟩ HY.out w6.heap.size rfl (bx_new w6 _ 86) (HS.out.F.alloc _) (by simp; omega) (by omega) ?_; intro v9 w9 F9 hg9 hv9; have S9 := Lib.hid (HS.out.app _ hB hg9 F9))
                  go_roundw
                  case rel => exact ⟨q + 1, m + 1, _, rfl, by go_num, by omega, S9.out, by omega, by omega⟩
                  case measure => simp [intOf] <;> omega
              · obtain rfl : q = j := by omega
                clear hlt2 hq
                go_wp2
                go_ret
                exact ⟨_, m, rfl, HS.out.F, ⟨hm1, by omega⟩, HS.out.D, HS.out.O⟩
end Go.Proofs.YtgflfdnajchjaaaGreatDoor
