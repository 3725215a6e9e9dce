/- Layer 45: a network by dice: the walk. -/
import Derived.Test.YtgflfdnajchjaaaGreatDoorM4c
namespace Go.Proofs.YtgflfdnajchjaaaGreatDoor
set_option linter.unusedVariables false
set_option linter.unusedSimpArgs false
open Go.RowKit Go.Sort
open Tm
attribute [local go_sem] gcell
def z20 : Array Value := #[.int .i64 0, .int .i64 0, .int .i64 0, .int .i64 0, .int .i64 0, .int .i64 0, .int .i64 0, .int .i64 0, .int .i64 0, .int .i64 0, .int .i64 0, .int .i64 0, .int .i64 0, .int .i64 0, .int .i64 0, .int .i64 0, .int .i64 0, .int .i64 0, .slice none 0 0, .slice none 0 0]
set_option maxRecDepth 100000 in
set_option maxHeartbeats 16000000 in
theorem config11 (noise moves : Bool) (p B : Nat) (w : World) (D : DiceS w p B) : Calls Tryz.prog 11 #[.pointer (some ⟨p, 0, none⟩), .bool noise, .bool moves] w fun e w' => ∃ c X T n, e = .returned (cfv c) ∧ CfRw w' w.heap.size c X T ∧ CfB c X T n ∧ (1 ≤ n ∧ n ≤ 3) ∧ DiceS w' p B ∧ OnlyP w w' p := by
  have hp := D.lt
  have hB := D.le
  have D1 := Lib.hid (D.alloc (.cells #[.int .i64 0, .int .i64 0, .int .i64 0, .int .i64 0, .int .i64 0, .int .i64 0, .int .i64 0, .int .i64 0, .int .i64 0, .int .i64 0, .int .i64 0, .int .i64 0, .int .i64 0, .int .i64 0, .int .i64 0, .int .i64 0, .int .i64 0, .int .i64 0, .slice none 0 0, .slice none 0 0] 37))
  have O1 := Lib.hid (only_alloc (only_refl w p) (.cells #[.int .i64 0, .int .i64 0, .int .i64 0, .int .i64 0, .int .i64 0, .int .i64 0, .int .i64 0, .int .i64 0, .int .i64 0, .int .i64 0, .int .i64 0, .int .i64 0, .int .i64 0, .int .i64 0, .int .i64 0, .int .i64 0, .int .i64 0, .int .i64 0, .slice none 0 0, .slice none 0 0] 37))
  have H6 := Lib.hid (show (w.alloc (.cells #[.int .i64 0, .int .i64 0, .int .i64 0, .int .i64 0, .int .i64 0, .int .i64 0, .int .i64 0, .int .i64 0, .int .i64 0, .int .i64 0, .int .i64 0, .int .i64 0, .int .i64 0, .int .i64 0, .int .i64 0, .int .i64 0, .int .i64 0, .int .i64 0, .slice none 0 0, .slice none 0 0] 37)).heap[w.heap.size]? = some (.cells z20 37 (0, 0)) from bx_new w _ 37)
  have h6p : w.heap.size ≠ p := by omega
  clear D
  go_enter Tryz.func11, Tryz.ntmps11
  go_upto_region 1 with fail
  generalize w.alloc _ = w0 at *
  go_wp2_with (go_at_call 12; refine (next12 (by decide) (by decide) D1.out).mono ?_; rintro e w1 ⟨v1, rfl, l1, u1, hd, ho⟩; refine Hid.out ?_)
  refine Lib.hid ?_
  replace O1 := Lib.hid (only_trans O1.out ho)
  replace H6 := Lib.hid (only_box ho h6p H6.out)
  replace D1 := Lib.hid hd
  clear ho hd
  go_wp2_with (go_at_call 12; refine (next12 (by decide) (by decide) D1.out).mono ?_; rintro e w2 ⟨v2, rfl, l2, u2, hd, ho⟩; refine Hid.out ?_)
  refine Lib.hid ?_
  replace O1 := Lib.hid (only_trans O1.out ho)
  replace H6 := Lib.hid (only_box ho h6p H6.out)
  replace D1 := Lib.hid hd
  clear ho hd
  go_wp2_with (go_at_call 12; refine (next12 (by decide) (by decide) D1.out).mono ?_; rintro e w3 ⟨v3, rfl, l3, u3, hd, ho⟩; refine Hid.out ?_)
  refine Lib.hid ?_
  replace O1 := Lib.hid (only_trans O1.out ho)
  replace H6 := Lib.hid (only_box ho h6p H6.out)
  replace D1 := Lib.hid hd
  clear ho hd
  go_wp2_with (go_at_call 12; refine (next12 (by decide) (by decide) D1.out).mono ?_; rintro e w4 ⟨v4, rfl, l4, u4, hd, ho⟩; refine Hid.out ?_)
  refine Lib.hid ?_
  replace O1 := Lib.hid (only_trans O1.out ho)
  replace H6 := Lib.hid (only_box ho h6p H6.out)
  replace D1 := Lib.hid hd
  clear ho hd
  go_wp2_with (go_at_call 12; refine (next12 (by decide) (by decide) D1.out).mono ?_; rintro e w5 ⟨v5, rfl, l5, u5, hd, ho⟩; refine Hid.out ?_)
  refine Lib.hid ?_
  replace O1 := Lib.hid (only_trans O1.out ho)
  replace H6 := Lib.hid (only_box ho h6p H6.out)
  replace D1 := Lib.hid hd
  clear ho hd
  go_wp2_with (go_at_call 12; refine (next12 (by decide) (by decide) D1.out).mono ?_; rintro e w6 ⟨v6, rfl, l6, u6, hd, ho⟩; refine Hid.out ?_)
  refine Lib.hid ?_
  replace O1 := Lib.hid (only_trans O1.out ho)
  replace H6 := Lib.hid (only_box ho h6p H6.out)
  replace D1 := Lib.hid hd
  clear ho hd
  have h6l := bx_lt H6.out
  have hs6 := O1.out.size
  have HT := Lib.hid (bx_there_at (bx_new w6 #[.int .i64 0, .int .i64 0, .int .i64 0, .int .i64 0, .int .i64 0, .int .i64 0, .int .i64 0, .int .i64 0, .int .i64 0, .int .i64 0, .int .i64 0, .int .i64 0, .int .i64 0, .int .i64 0, .int .i64 0, .int .i64 0, .int .i64 0, .int .i64 0, .slice none 0 0, .slice none 0 0] 37) 0 20 (Nat.le_refl 20))
  go_upto_region 2 with (refine wpList_store_mid rfl 37 (.tmp 7) (.tmp 30) rfl w6.heap.size 0 #[.int .i64 v1, .int .i64 (1 + v2), .int .i64 (6 + v3), .int .i64 (1 + v4), .int .i64 (1 + v5), .int .i64 (1 + v6), .int .i64 0, .int .i64 0, .int .i64 0, .int .i64 0, .int .i64 0, .int .i64 0, .int .i64 0, .int .i64 0, .int .i64 0, .int .i64 0, .int .i64 0, .int .i64 0, .slice none 0 0, .slice none 0 0] rfl rfl HT.out (by kernel_rfl) (by kernel_rfl) ?_)
  clear HT
  try simp only [Act.put]
  have hs := bx_cells_same [.int .i64 v1, .int .i64 (1 + v2), .int .i64 (6 + v3), .int .i64 (1 + v4), .int .i64 (1 + v5), .int .i64 (1 + v6), .int .i64 0, .int .i64 0, .int .i64 0, .int .i64 0, .int .i64 0, .int .i64 0, .int .i64 0, .int .i64 0, .int .i64 0, .int .i64 0, .int .i64 0, .int .i64 0, .slice none 0 0, .slice none 0 0] 0 (bx_new w6 #[.int .i64 0, .int .i64 0, .int .i64 0, .int .i64 0, .int .i64 0, .int .i64 0, .int .i64 0, .int .i64 0, .int .i64 0, .int .i64 0, .int .i64 0, .int .i64 0, .int .i64 0, .int .i64 0, .int .i64 0, .int .i64 0, .int .i64 0, .int .i64 0, .slice none 0 0, .slice none 0 0] 37)
  rw [setFrom_all (vs := [.int .i64 v1, .int .i64 (1 + v2), .int .i64 (6 + v3), .int .i64 (1 + v4), .int .i64 (1 + v5), .int .i64 (1 + v6), .int .i64 0, .int .i64 0, .int .i64 0, .int .i64 0, .int .i64 0, .int .i64 0, .int .i64 0, .int .i64 0, .int .i64 0, .int .i64 0, .int .i64 0, .int .i64 0, .slice none 0 0, .slice none 0 0]) (cs := #[.int .i64 0, .int .i64 0, .int .i64 0, .int .i64 0, .int .i64 0, .int .i64 0, .int .i64 0, .int .i64 0, .int .i64 0, .int .i64 0, .int .i64 0, .int .i64 0, .int .i64 0, .int .i64 0, .int .i64 0, .int .i64 0, .int .i64 0, .int .i64 0, .slice none 0 0, .slice none 0 0]) rfl] at hs
  have H := Lib.hid hs
  clear hs
  replace H6 := Lib.hid ((bx_cells_other (i := w.heap.size) (Nat.ne_of_lt h6l) [.int .i64 v1, .int .i64 (1 + v2), .int .i64 (6 + v3), .int .i64 (1 + v4), .int .i64 (1 + v5), .int .i64 (1 + v6), .int .i64 0, .int .i64 0, .int .i64 0, .int .i64 0, .int .i64 0, .int .i64 0, .int .i64 0, .int .i64 0, .int .i64 0, .int .i64 0, .int .i64 0, .int .i64 0, .slice none 0 0, .slice none 0 0] 0).trans (bx_keep (.cells #[.int .i64 0, .int .i64 0, .int .i64 0, .int .i64 0, .int .i64 0, .int .i64 0, .int .i64 0, .int .i64 0, .int .i64 0, .int .i64 0, .int .i64 0, .int .i64 0, .int .i64 0, .int .i64 0, .int .i64 0, .int .i64 0, .int .i64 0, .int .i64 0, .slice none 0 0, .slice none 0 0] 37) H6.out))
  replace D1 := Lib.hid ((D1.out.alloc (.cells #[.int .i64 0, .int .i64 0, .int .i64 0, .int .i64 0, .int .i64 0, .int .i64 0, .int .i64 0, .int .i64 0, .int .i64 0, .int .i64 0, .int .i64 0, .int .i64 0, .int .i64 0, .int .i64 0, .int .i64 0, .int .i64 0, .int .i64 0, .int .i64 0, .slice none 0 0, .slice none 0 0] 37)).sets (q := w6.heap.size) D1.out.le 0 [.int .i64 v1, .int .i64 (1 + v2), .int .i64 (6 + v3), .int .i64 (1 + v4), .int .i64 (1 + v5), .int .i64 (1 + v6), .int .i64 0, .int .i64 0, .int .i64 0, .int .i64 0, .int .i64 0, .int .i64 0, .int .i64 0, .int .i64 0, .int .i64 0, .int .i64 0, .int .i64 0, .int .i64 0, .slice none 0 0, .slice none 0 0])
  replace O1 := Lib.hid (only_sets (q := w6.heap.size) (only_alloc O1.out (.cells #[.int .i64 0, .int .i64 0, .int .i64 0, .int .i64 0, .int .i64 0, .int .i64 0, .int .i64 0, .int .i64 0, .int .i64 0, .int .i64 0, .int .i64 0, .int .i64 0, .int .i64 0, .int .i64 0, .int .i64 0, .int .i64 0, .int .i64 0, .int .i64 0, .slice none 0 0, .slice none 0 0] 37)) hs6 0 [.int .i64 v1, .int .i64 (1 + v2), .int .i64 (6 + v3), .int .i64 (1 + v4), .int .i64 (1 + v5), .int .i64 (1 + v6), .int .i64 0, .int .i64 0, .int .i64 0, .int .i64 0, .int .i64 0, .int .i64 0, .int .i64 0, .int .i64 0, .int .i64 0, .int .i64 0, .int .i64 0, .int .i64 0, .slice none 0 0, .slice none 0 0])
  generalize (w6.alloc _).setCells _ _ _ = w7 at *
  generalize Value.agg #[.int .i64 v1, .int .i64 (1 + v2), .int .i64 (6 + v3), .int .i64 (1 + v4), .int .i64 (1 + v5), .int .i64 (1 + v6), .int .i64 0, .int .i64 0, .int .i64 0, .int .i64 0, .int .i64 0, .int .i64 0, .int .i64 0, .int .i64 0, .int .i64 0, .int .i64 0, .int .i64 0, .int .i64 0, .slice none 0 0, .slice none 0 0] = ag at *
  have hzB : B ≤ w6.heap.size := by omega
  have hzp : w6.heap.size ≠ p := by omega
  have hz6 : w.heap.size < w6.heap.size := h6l
  have hzw : w.heap.size ≤ w6.heap.size := Nat.le_of_lt h6l
  generalize w6.heap.size = z at *
  clear h6l hs6
  go_wp2_with (go_at_call 12; refine (next12 (by decide) (by decide) D1.out).mono ?_; rintro e w8 ⟨v8, rfl, l8, u8, hd, ho⟩; refine Hid.out ?_)
  refine Lib.hid ?_
  replace O1 := Lib.hid (only_trans O1.out ho)
  replace H6 := Lib.hid (only_box ho h6p H6.out)
  replace H := Lib.hid (only_box ho hzp H.out)
  replace D1 := Lib.hid hd
  clear ho hd
  go_wp2_with (go_at_call 12; refine (next12 (by decide) (by decide) D1.out).mono ?_; rintro e w9 ⟨v9, rfl, l9, u9, hd, ho⟩; refine Hid.out ?_)
  refine Lib.hid ?_
  replace O1 := Lib.hid (only_trans O1.out ho)
  replace H6 := Lib.hid (only_box ho h6p H6.out)
  replace H := Lib.hid (only_box ho hzp H.out)
  replace D1 := Lib.hid hd
  clear ho hd
  go_wp2_with (go_at_call 12; refine (next12 (by decide) (by decide) D1.out).mono ?_; rintro e w10 ⟨v10, rfl, l10, u10, hd, ho⟩; refine Hid.out ?_)
  refine Lib.hid ?_
  replace O1 := Lib.hid (only_trans O1.out ho)
  replace H6 := Lib.hid (only_box ho h6p H6.out)
  replace H := Lib.hid (only_box ho hzp H.out)
  replace D1 := Lib.hid hd
  clear ho hd
  have c6 := bx_cell H.out 6 rfl
  have c7 := bx_cell H.out 7 rfl
  have c8 := bx_cell H.out 8 rfl
  have f6 := bx_fr H.out 6
  have f7 := bx_fr H.out 7
  have f8 := bx_fr H.out 8
  go_upto_region 3 with fail
  clear c6 c7 c8 f6 f7 f8
  replace D1 := Lib.hid (D1.out.set (q := z) (o := 6) (v := .int .i64 (1 + v8)) hzB)
  replace O1 := Lib.hid (only_setNew O1.out hzw 6 (.int .i64 (1 + v8)))
  replace H6 := Lib.hid ((Below.heap_setCell _ ⟨z, 6, none⟩ (.int .i64 (1 + v8)) w.heap.size (Nat.ne_of_lt hz6)).trans H6.out)
  replace H := Lib.hid (bx_set_same (k := 6) H.out (.int .i64 (1 + v8)))
  replace D1 := Lib.hid (D1.out.set (q := z) (o := 7) (v := .int .i64 (1 + v9)) hzB)
  replace O1 := Lib.hid (only_setNew O1.out hzw 7 (.int .i64 (1 + v9)))
  replace H6 := Lib.hid ((Below.heap_setCell _ ⟨z, 7, none⟩ (.int .i64 (1 + v9)) w.heap.size (Nat.ne_of_lt hz6)).trans H6.out)
  replace H := Lib.hid (bx_set_same (k := 7) H.out (.int .i64 (1 + v9)))
  replace D1 := Lib.hid (D1.out.set (q := z) (o := 8) (v := .int .i64 v10) hzB)
  replace O1 := Lib.hid (only_setNew O1.out hzw 8 (.int .i64 v10))
  replace H6 := Lib.hid ((Below.heap_setCell _ ⟨z, 8, none⟩ (.int .i64 v10) w.heap.size (Nat.ne_of_lt hz6)).trans H6.out)
  replace H := Lib.hid (bx_set_same (k := 8) H.out (.int .i64 v10))
  generalize ((w10.setCell _ _).setCell _ _).setCell _ _ = w11 at *
  replace H := Lib.hid (show w11.heap[z]? = some (.cells #[.int .i64 v1, .int .i64 (1 + v2), .int .i64 (6 + v3), .int .i64 (1 + v4), .int .i64 (1 + v5), .int .i64 (1 + v6), .int .i64 (1 + v8), .int .i64 (1 + v9), .int .i64 v10, .int .i64 0, .int .i64 0, .int .i64 0, .int .i64 0, .int .i64 0, .int .i64 0, .int .i64 0, .int .i64 0, .int .i64 0, .slice none 0 0, .slice none 0 0] 37 (0, 0)) from H.out)
  go_wp2_with (go_at_call 12; refine (next12 (by decide) (by decide) D1.out).mono ?_; rintro e w12 ⟨v12, rfl, l12, u12, hd, ho⟩; refine Hid.out ?_)
  refine Lib.hid ?_
  replace O1 := Lib.hid (only_trans O1.out ho)
  replace H6 := Lib.hid (only_box ho h6p H6.out)
  replace H := Lib.hid (only_box ho hzp H.out)
  replace D1 := Lib.hid hd
  clear ho hd
  go_wp2_with (go_at_call 12; refine (next12 (by decide) (by decide) D1.out).mono ?_; rintro e w13 ⟨v13, rfl, l13, u13, hd, ho⟩; refine Hid.out ?_)
  refine Lib.hid ?_
  replace O1 := Lib.hid (only_trans O1.out ho)
  replace H6 := Lib.hid (only_box ho h6p H6.out)
  replace H := Lib.hid (only_box ho hzp H.out)
  replace D1 := Lib.hid hd
  clear ho hd
  go_wp2_with (go_at_call 12; refine (next12 (by decide) (by decide) D1.out).mono ?_; rintro e w14 ⟨v14, rfl, l14, u14, hd, ho⟩; refine Hid.out ?_)
  refine Lib.hid ?_
  replace O1 := Lib.hid (only_trans O1.out ho)
  replace H6 := Lib.hid (only_box ho h6p H6.out)
  replace H := Lib.hid (only_box ho hzp H.out)
  replace D1 := Lib.hid hd
  clear ho hd
  go_upto_region 4 with (refine wpList_store_mid rfl 29 (.tmp 52) (.tmp 51) rfl z 9 #[.int .i64 (4 + v12), .int .i64 (2 + v13), .int .i64 (2 + v14)] rfl rfl (bx_there_at H.out 9 3 (Nat.le_of_ble_eq_true rfl)) (by kernel_rfl) (by kernel_rfl) ?_)
  replace D1 := Lib.hid (D1.out.sets hzB 9 [.int .i64 (4 + v12), .int .i64 (2 + v13), .int .i64 (2 + v14)])
  replace O1 := Lib.hid (only_sets O1.out hzw 9 [.int .i64 (4 + v12), .int .i64 (2 + v13), .int .i64 (2 + v14)])
  replace H6 := Lib.hid ((bx_cells_other (i := w.heap.size) (Nat.ne_of_lt hz6) [.int .i64 (4 + v12), .int .i64 (2 + v13), .int .i64 (2 + v14)] 9).trans H6.out)
  replace H := Lib.hid (bx_cells_same [.int .i64 (4 + v12), .int .i64 (2 + v13), .int .i64 (2 + v14)] 9 H.out)
  generalize w14.setCells _ _ _ = w15 at *
  try simp only [Act.put]
  replace H := Lib.hid (show w15.heap[z]? = some (.cells #[.int .i64 v1, .int .i64 (1 + v2), .int .i64 (6 + v3), .int .i64 (1 + v4), .int .i64 (1 + v5), .int .i64 (1 + v6), .int .i64 (1 + v8), .int .i64 (1 + v9), .int .i64 v10, .int .i64 (4 + v12), .int .i64 (2 + v13), .int .i64 (2 + v14), .int .i64 0, .int .i64 0, .int .i64 0, .int .i64 0, .int .i64 0, .int .i64 0, .slice none 0 0, .slice none 0 0] 37 (0, 0)) from H.out)
  go_wp2_with (go_at_call 12; refine (next12 (by decide) (by decide) D1.out).mono ?_; rintro e w16 ⟨v16, rfl, l16, u16, hd, ho⟩; refine Hid.out ?_)
  refine Lib.hid ?_
  replace O1 := Lib.hid (only_trans O1.out ho)
  replace H6 := Lib.hid (only_box ho h6p H6.out)
  replace H := Lib.hid (only_box ho hzp H.out)
  replace D1 := Lib.hid hd
  clear ho hd
  go_wp2_with (go_at_call 12; refine (next12 (by decide) (by decide) D1.out).mono ?_; rintro e w17 ⟨v17, rfl, l17, u17, hd, ho⟩; refine Hid.out ?_)
  refine Lib.hid ?_
  replace O1 := Lib.hid (only_trans O1.out ho)
  replace H6 := Lib.hid (only_box ho h6p H6.out)
  replace H := Lib.hid (only_box ho hzp H.out)
  replace D1 := Lib.hid hd
  clear ho hd
  go_wp2_with (go_at_call 12; refine (next12 (by decide) (by decide) D1.out).mono ?_; rintro e w18 ⟨v18, rfl, l18, u18, hd, ho⟩; refine Hid.out ?_)
  refine Lib.hid ?_
  replace O1 := Lib.hid (only_trans O1.out ho)
  replace H6 := Lib.hid (only_box ho h6p H6.out)
  replace H := Lib.hid (only_box ho hzp H.out)
  replace D1 := Lib.hid hd
  clear ho hd
  go_upto_region 5 with (refine wpList_store_mid rfl 31 (.tmp 61) (.tmp 60) rfl z 12 #[.int .i64 v16, .int .i64 v17, .int .i64 (1 + v18)] rfl rfl (bx_there_at H.out 12 3 (Nat.le_of_ble_eq_true rfl)) (by kernel_rfl) (by kernel_rfl) ?_)
  replace D1 := Lib.hid (D1.out.sets hzB 12 [.int .i64 v16, .int .i64 v17, .int .i64 (1 + v18)])
  replace O1 := Lib.hid (only_sets O1.out hzw 12 [.int .i64 v16, .int .i64 v17, .int .i64 (1 + v18)])
  replace H6 := Lib.hid ((bx_cells_other (i := w.heap.size) (Nat.ne_of_lt hz6) [.int .i64 v16, .int .i64 v17, .int .i64 (1 + v18)] 12).trans H6.out)
  replace H := Lib.hid (bx_cells_same [.int .i64 v16, .int .i64 v17, .int .i64 (1 + v18)] 12 H.out)
  generalize w18.setCells _ _ _ = w19 at *
  try simp only [Act.put]
  replace H := Lib.hid (show w19.heap[z]? = some (.cells #[.int .i64 v1, .int .i64 (1 + v2), .int .i64 (6 + v3), .int .i64 (1 + v4), .int .i64 (1 + v5), .int .i64 (1 + v6), .int .i64 (1 + v8), .int .i64 (1 + v9), .int .i64 v10, .int .i64 (4 + v12), .int .i64 (2 + v13), .int .i64 (2 + v14), .int .i64 v16, .int .i64 v17, .int .i64 (1 + v18), .int .i64 0, .int .i64 0, .int .i64 0, .slice none 0 0, .slice none 0 0] 37 (0, 0)) from H.out)
  go_wp2_with (go_at_call 12; refine (next12 (by decide) (by decide) D1.out).mono ?_; rintro e w20 ⟨v20, rfl, l20, u20, hd, ho⟩; refine Hid.out ?_)
  refine Lib.hid ?_
  replace O1 := Lib.hid (only_trans O1.out ho)
  replace H6 := Lib.hid (only_box ho h6p H6.out)
  replace H := Lib.hid (only_box ho hzp H.out)
  replace D1 := Lib.hid hd
  clear ho hd
  go_wp2_with (go_at_call 12; refine (next12 (by decide) (by decide) D1.out).mono ?_; rintro e w21 ⟨v21, rfl, l21, u21, hd, ho⟩; refine Hid.out ?_)
  refine Lib.hid ?_
  replace O1 := Lib.hid (only_trans O1.out ho)
  replace H6 := Lib.hid (only_box ho h6p H6.out)
  replace H := Lib.hid (only_box ho hzp H.out)
  replace D1 := Lib.hid hd
  clear ho hd
  go_upto_region 6 with (refine wpList_store_mid rfl 33 (.tmp 69) (.tmp 68) rfl z 15 #[.int .i64 0, .int .i64 (1 + v20), .int .i64 (4 + v21)] rfl rfl (bx_there_at H.out 15 3 (Nat.le_of_ble_eq_true rfl)) (by kernel_rfl) (by kernel_rfl) ?_)
  replace D1 := Lib.hid (D1.out.sets hzB 15 [.int .i64 0, .int .i64 (1 + v20), .int .i64 (4 + v21)])
  replace O1 := Lib.hid (only_sets O1.out hzw 15 [.int .i64 0, .int .i64 (1 + v20), .int .i64 (4 + v21)])
  replace H6 := Lib.hid ((bx_cells_other (i := w.heap.size) (Nat.ne_of_lt hz6) [.int .i64 0, .int .i64 (1 + v20), .int .i64 (4 + v21)] 15).trans H6.out)
  replace H := Lib.hid (bx_cells_same [.int .i64 0, .int .i64 (1 + v20), .int .i64 (4 + v21)] 15 H.out)
  generalize w21.setCells _ _ _ = w22 at *
  try simp only [Act.put]
  replace H := Lib.hid (show w22.heap[z]? = some (.cells #[.int .i64 v1, .int .i64 (1 + v2), .int .i64 (6 + v3), .int .i64 (1 + v4), .int .i64 (1 + v5), .int .i64 (1 + v6), .int .i64 (1 + v8), .int .i64 (1 + v9), .int .i64 v10, .int .i64 (4 + v12), .int .i64 (2 + v13), .int .i64 (2 + v14), .int .i64 v16, .int .i64 v17, .int .i64 (1 + v18), .int .i64 0, .int .i64 (1 + v20), .int .i64 (4 + v21), .slice none 0 0, .slice none 0 0] 37 (0, 0)) from H.out)
  obtain ⟨c, hc⟩ : ∃ c : Cf, c = { h := fun k => [v1, (1 + v2), (6 + v3), (1 + v4), (1 + v5), (1 + v6), (1 + v8), (1 + v9), v10, (4 + v12), (2 + v13), (2 + v14), v16, v17, (1 + v18), 0, (1 + v20), (4 + v21)].getD k 0, fa := none, fn := 0, fc := 0, ta := none, tn := 0, tc := 0 } := ⟨_, rfl⟩
  have HB := Lib.hid (show HdB c from by
    subst hc
    constructor <;> simp <;> omega)
  replace H := Lib.hid (show w22.heap[z]? = some (.cells (cfs c).toArray 37 (0, 0)) from by subst hc; exact H.out)
  have HC0 := Lib.hid (show c.fa = none ∧ c.fn = 0 ∧ c.fc = 0 ∧ c.ta = none ∧ c.tn = 0 ∧ c.tc = 0 from by subst hc; exact ⟨rfl, rfl, rfl, rfl, rfl, rfl⟩)
  clear hc l1 u1 l2 u2 l3 u3 l4 u4 l5 u5 l6 u6 l8 u8 l9 u9 l10 u10 l12 u12 l13 u13 l14 u14 l16 u16 l17 u17 l18 u18 l20 u20 l21 u21
  go_wp2_with (go_at_call 12; refine (next12 (by decide) (by decide) D1.out).mono ?_; rintro e w23 ⟨v23, rfl, l23, u23, hd, ho⟩; refine Hid.out ?_)
  refine Lib.hid ?_
  replace O1 := Lib.hid (only_trans O1.out ho)
  replace H6 := Lib.hid (only_box ho h6p H6.out)
  replace H := Lib.hid (only_box ho hzp H.out)
  replace D1 := Lib.hid hd
  clear ho hd
  obtain ⟨nt, ent⟩ : ∃ nt : Nat, 1 + v23 = nt := ⟨(1 + v23).toNat, by omega⟩
  have hnt : 1 ≤ nt ∧ nt ≤ 3 := by omega
  obtain ⟨B6, hB6⟩ : ∃ B6, Hid (B6 = w.heap.size + 1) := ⟨_, Lib.hid rfl⟩
  have hB6z : B6 ≤ z := by have := hB6.out; omega
  have hpB6 : p < B6 := by have := hB6.out; omega
  have hBB6 : B ≤ B6 := by have := hB6.out; omega
  obtain ⟨e1, e2, e3, e4, e5, e6⟩ := HC0.out
  have HK := Lib.hid (show CfW w23 B6 z c (fun _ => ⟨0, 0, 0, 0, 0⟩) (fun _ => teN []) from ⟨⟨by rw [e1, e2, e3]; exact own_nilK _ _ _ _ _, by rw [e4, e5, e6]; exact own_nilK _ _ _ _ _, fun k hk => by omega, fun k hk => by omega⟩, H.out, hB6z⟩)
  have HCB := Lib.hid (show CfB c (fun _ => ⟨0, 0, 0, 0, 0⟩) (fun _ => teN []) 0 from ⟨HB.out, e5, by omega, fun k hk => by omega, fun k hk => by omega⟩)
  clear e1 e2 e3 e4 e5 e6 HC0 HB H
  go_upto_region 8 with fail
  clear ent l23 u23
  go_loopw [9, 10, 11, 12] (fun i s10 s11 s12 wr => ∃ (q : Nat) (c : Cf) (X : Nat → Ch.Fd) (T : Nat → Te), i = .int .i64 q ∧ q ≤ nt ∧ CfW wr B6 z c X T ∧ CfB c X T q ∧ DiceS wr p B ∧ LowP B6 p w23 wr) (fun i _ _ _ _ => 10 - (intOf i).toNat)
  case atStart => exact ⟨0, c, _, _, rfl, Nat.zero_le _, HK.out, HCB.out, D1.out, LowP.refl _ _ _⟩
  case round =>
    clear HK HCB D1
    obtain ⟨q, c, X, T, rfl, hq, hK, hCB, hD, hL⟩ := hrel
    have HK := Lib.hid hK
    have HCB := Lib.hid hCB
    have D1 := Lib.hid hD
    have HL := Lib.hid hL
    clear hK hCB hD hL
    obtain ⟨wR, hwR⟩ : ∃ x, x = wr := ⟨_, rfl⟩
    subst hwR
    by_cases hlt : q < nt
    · have HM := HCB.out.h.b1
      have c1 := bx_cell HK.out.hz 1 (v := .int .i64 (c.h 1)) rfl
      have O2 := Lib.hid (only_refl wR p)
      go_wp2_with (go_at_call 12; refine (next12 (by omega) (by omega) D1.out).mono ?_; rintro e w30 ⟨v30, rfl, l30, u30, hd, ho⟩; refine Hid.out ?_)
      refine Lib.hid ?_
      replace O2 := Lib.hid (only_trans O2.out ho)
      replace D1 := Lib.hid hd
      clear ho hd c1
      go_wp2_with (go_at_call 12; refine (next12 (by decide) (by decide) D1.out).mono ?_; rintro e w31 ⟨v31, rfl, l31, u31, hd, ho⟩; refine Hid.out ?_)
      refine Lib.hid ?_
      replace O2 := Lib.hid (only_trans O2.out ho)
      replace D1 := Lib.hid hd
      clear ho hd
      go_wp2_with (go_at_call 12; refine (next12 (by decide) (by decide) D1.out).mono ?_; rintro e w32 ⟨v32, rfl, l32, u32, hd, ho⟩; refine Hid.out ?_)
      refine Lib.hid ?_
      replace O2 := Lib.hid (only_trans O2.out ho)
      replace D1 := Lib.hid hd
      clear ho hd
      have hs6 := O2.out.size
      have HT := Lib.hid (bx_there_at (bx_new w32 #[.int .i64 0, .int .i64 0, .slice none 0 0, .slice none 0 0, .int .i64 0, .int .i64 0, .int .i64 0, .int .i64 0, .int .i64 0, .int .i64 0, .int .i64 0, .int .i64 0, .int .i64 0, .int .i64 0] 57) 0 14 (Nat.le_refl 14))
      go_upto_region 11 with (refine wpList_store_mid rfl 57 (.tmp 10) (.tmp 88) rfl w32.heap.size 0 #[.int .i64 v30, .int .i64 v31, .slice none 0 0, .slice none 0 0, .int .i64 0, .int .i64 0, .int .i64 0, .int .i64 1, .int .i64 0, .int .i64 1, .int .i64 0, .int .i64 0, .int .i64 0, .int .i64 (500 + v32)] rfl rfl HT.out (by kernel_rfl) (by kernel_rfl) ?_)
      clear HT
      try simp only [Act.put]
      have hs := bx_cells_same [.int .i64 v30, .int .i64 v31, .slice none 0 0, .slice none 0 0, .int .i64 0, .int .i64 0, .int .i64 0, .int .i64 1, .int .i64 0, .int .i64 1, .int .i64 0, .int .i64 0, .int .i64 0, .int .i64 (500 + v32)] 0 (bx_new w32 #[.int .i64 0, .int .i64 0, .slice none 0 0, .slice none 0 0, .int .i64 0, .int .i64 0, .int .i64 0, .int .i64 0, .int .i64 0, .int .i64 0, .int .i64 0, .int .i64 0, .int .i64 0, .int .i64 0] 57)
      rw [setFrom_all (vs := [.int .i64 v30, .int .i64 v31, .slice none 0 0, .slice none 0 0, .int .i64 0, .int .i64 0, .int .i64 0, .int .i64 1, .int .i64 0, .int .i64 1, .int .i64 0, .int .i64 0, .int .i64 0, .int .i64 (500 + v32)]) (cs := #[.int .i64 0, .int .i64 0, .slice none 0 0, .slice none 0 0, .int .i64 0, .int .i64 0, .int .i64 0, .int .i64 0, .int .i64 0, .int .i64 0, .int .i64 0, .int .i64 0, .int .i64 0, .int .i64 0]) rfl] at hs
      obtain ⟨t, ht⟩ : ∃ t : Te, t = { cl := v30, cs := v31, fr := 0, wd := 0, bk := 0, cy := 1, of' := 0, on' := 1, li := 0, sh := 0, ss := 0, bt := 500 + v32, ba := none, bn := 0, bc := 0, ka := none, kn := 0, kc := 0, be := fun _ => ⟨0, 0, 0, 0, 0, 0, 0, 0, 0, 0, 0⟩, P := fun _ => 0, R := fun _ => 0, M := fun _ => 0, T := fun _ => 0 } := ⟨_, rfl⟩
      have hwr : B ≤ wR.heap.size := by have := bx_lt HK.out.hz; omega
      have hpr : p < wR.heap.size := by omega
      have HS := Lib.hid (show TeW wR ((w32.alloc (.cells #[.int .i64 0, .int .i64 0, .slice none 0 0, .slice none 0 0, .int .i64 0, .int .i64 0, .int .i64 0, .int .i64 0, .int .i64 0, .int .i64 0, .int .i64 0, .int .i64 0, .int .i64 0, .int .i64 0] 57)).setCells w32.heap.size 0 [.int .i64 v30, .int .i64 v31, .slice none 0 0, .slice none 0 0, .int .i64 0, .int .i64 0, .int .i64 0, .int .i64 1, .int .i64 0, .int .i64 1, .int .i64 0, .int .i64 0, .int .i64 0, .int .i64 (500 + v32)]) p B w32.heap.size t from
        ⟨only_sets (q := w32.heap.size) (only_alloc O2.out (.cells #[.int .i64 0, .int .i64 0, .slice none 0 0, .slice none 0 0, .int .i64 0, .int .i64 0, .int .i64 0, .int .i64 0, .int .i64 0, .int .i64 0, .int .i64 0, .int .i64 0, .int .i64 0, .int .i64 0] 57)) hs6 0 [.int .i64 v30, .int .i64 v31, .slice none 0 0, .slice none 0 0, .int .i64 0, .int .i64 0, .int .i64 0, .int .i64 1, .int .i64 0, .int .i64 1, .int .i64 0, .int .i64 0, .int .i64 0, .int .i64 (500 + v32)], (D1.out.alloc (.cells #[.int .i64 0, .int .i64 0, .slice none 0 0, .slice none 0 0, .int .i64 0, .int .i64 0, .int .i64 0, .int .i64 0, .int .i64 0, .int .i64 0, .int .i64 0, .int .i64 0, .int .i64 0, .int .i64 0] 57)).sets (q := w32.heap.size) D1.out.le 0 [.int .i64 v30, .int .i64 v31, .slice none 0 0, .slice none 0 0, .int .i64 0, .int .i64 0, .int .i64 0, .int .i64 1, .int .i64 0, .int .i64 1, .int .i64 0, .int .i64 0, .int .i64 0, .int .i64 (500 + v32)], by rw [ht]; exact hs, hs6, own_nil0 _ _ _ _ _ (by rw [ht]) (by rw [ht]; rfl), own_nil0 _ _ _ _ _ (by rw [ht]) (by rw [ht]; rfl)⟩)
      have HT1 := Lib.hid (show TeB1 (c.h 1) t from by
        subst ht
        constructor <;> simp <;> omega)
      clear ht hs O2 D1 l30 u30 l31 u31 l32 u32
      generalize (w32.alloc _).setCells _ _ _ = w33 at *
      have hzt := HS.out.zl
      generalize w32.heap.size = zt at *
      generalize Value.agg #[.int .i64 v30, .int .i64 v31, .slice none 0 0, .slice none 0 0, .int .i64 0, .int .i64 0, .int .i64 0, .int .i64 1, .int .i64 0, .int .i64 1, .int .i64 0, .int .i64 0, .int .i64 0, .int .i64 (500 + v32)] = ag2 at *
      have hzB2 : B ≤ zt := by omega
      go_upto_if 91 with (go_at_call 12; refine (next12 (by decide) (by decide) HS.out.D).mono ?_; rintro e w34 ⟨v34, rfl, l34, u34, hd, ho⟩; replace HS := Lib.hid (HS.out.next hpr ho hd); clear ho hd)
      go_cut [] (fun wx => ∃ t, TeW wR wx p B zt t ∧ TeB1 (c.h 1) t)
      case first =>
        by_cases h3 : v34 = 3
        · subst h3
          go_wp2_with (go_at_call 12; refine (next12 (by decide) (by decide) HS.out.D).mono ?_; rintro e w35 ⟨v35, rfl, l35, u35, hd, ho⟩; refine Hid.out ?_)
          refine Lib.hid ?_
          replace HS := Lib.hid (HS.out.next hpr ho hd)
          clear ho hd
          go_wp2_with (go_at_call 12; refine (next12 (by decide) (by decide) HS.out.D).mono ?_; rintro e w36 ⟨v36, rfl, l36, u36, hd, ho⟩; refine Hid.out ?_)
          refine Lib.hid ?_
          replace HS := Lib.hid (HS.out.next hpr ho hd)
          clear ho hd
          go_wp2_with (go_at_call 12; refine (next12 (by decide) (by decide) HS.out.D).mono ?_; rintro e w37 ⟨v37, rfl, l37, u37, hd, ho⟩; refine Hid.out ?_)
          refine Lib.hid ?_
          replace HS := Lib.hid (HS.out.next hpr ho hd)
          clear ho hd
          go_wp2_with (refine wpList_store_mid rfl 55 (.tmp 101) (.tmp 100) rfl zt 7 #[.int .i64 (4 + v35), .int .i64 0, .int .i64 (1 + v36), .int .i64 v37, .int .i64 0, .int .i64 0] rfl rfl (bx_there_at HS.out.zb 7 6 (Nat.le_of_ble_eq_true rfl)) (by kernel_rfl) (by kernel_rfl) ?_)
          try simp only [Act.put]
          go_meet
          exact ⟨_, HS.out.setR hwr (4 + v35) 0 (1 + v36) v37 0 0, HT1.out.ryth (by omega)⟩
        · have h3q : (v34 == 3) = false := by simp [h3]
          clear h3
          go_wp2_with fail
          go_meet
          exact ⟨t, HS.out, HT1.out⟩
      case rest =>
        clear HS HT1 l34 u34
        clear t
        obtain ⟨t, hS, hT1⟩ := hcut
        have HS := Lib.hid hS
        have HT1 := Lib.hid hT1
        clear hS hT1
        go_wp2_with (go_at_call 12; refine (next12 (by decide) (by decide) HS.out.D).mono ?_; rintro e w40 ⟨v40, rfl, l40, u40, hd, ho⟩; refine Hid.out ?_)
        refine Lib.hid ?_
        replace HS := Lib.hid (HS.out.next hpr ho hd)
        clear ho hd
        go_wp2_with (go_at_call 12; refine (next12 (by decide) (by decide) HS.out.D).mono ?_; rintro e w41 ⟨v41, rfl, l41, u41, hd, ho⟩; refine Hid.out ?_)
        refine Lib.hid ?_
        replace HS := Lib.hid (HS.out.next hpr ho hd)
        clear ho hd
        go_upto_region 14 with (refine wpList_store_mid rfl 53 (.tmp 108) (.tmp 107) rfl zt 4 #[.int .i64 0, .int .i64 (1 + v40), .int .i64 v41] rfl rfl (bx_there_at HS.out.zb 4 3 (Nat.le_of_ble_eq_true rfl)) (by kernel_rfl) (by kernel_rfl) ?_)
        try simp only [Act.put]
        obtain ⟨t2, ht2⟩ : ∃ t2 : Te, t2 = { t with fr := 0, wd := 1 + v40, bk := v41 } := ⟨_, rfl⟩
        have HT2 := Lib.hid (show TeB0 (c.h 1) t2 from ht2 ▸ HT1.out.guar (by omega) (by omega))
        have hE := HT1.out.e
        replace HS := Lib.hid (show TeW wR (w41.setCells zt 4 [.int .i64 0, .int .i64 (1 + v40), .int .i64 v41]) p B zt t2 from ht2 ▸ HS.out.setG hwr 0 (1 + v40) v41)
        have hE2 : t2.bn = 0 ∧ t2.kn = 0 := by subst ht2; exact hE
        clear hE HT1 ht2 l40 u40 l41 u41
        clear t
        generalize w41.setCells _ _ _ = w42 at *
        go_wp2_with (go_at_call 12; refine (next12 (by decide) (by decide) HS.out.D).mono ?_; rintro e w43 ⟨v43, rfl, l43, u43, hd, ho⟩; refine Hid.out ?_)
        refine Lib.hid ?_
        replace HS := Lib.hid (HS.out.next hpr ho hd)
        clear ho hd
        obtain ⟨kk, ekk⟩ : ∃ kk : Nat, 1 + v43 = kk := ⟨(1 + v43).toNat, by omega⟩
        have hkk : 1 ≤ kk ∧ kk ≤ 2 := by omega
        go_wp2_with fail
        clear ekk l43 u43
        have HBB := Lib.hid (show BeB t2 0 from ⟨fun j hj => by omega, fun j hj => by omega⟩)
        go_loopw [11, 12] (fun s11 s12 wx => ∃ (m n : Nat) (t : Te), s11 = .int .i64 m ∧ m + n = kk ∧ TeW wR wx p B zt t ∧ TeB0 (c.h 1) t ∧ t.bn = n ∧ t.kn = n ∧ BeB t n) (fun s11 _ _ => (intOf s11).toNat)
        case atStart => exact ⟨kk, 0, t2, rfl, by omega, HS.out, HT2.out, hE2.1, hE2.2, HBB.out⟩
        case round =>
          clear HS HT2 HBB hE2
          clear t2
          obtain ⟨m, n, t, rfl, hmn, hS, hT, hbn, hkn, hBB⟩ := hrel
          have HS := Lib.hid hS
          have HT := Lib.hid hT
          have HBB := Lib.hid hBB
          have HBN := Lib.hid (And.intro hbn hkn)
          clear hS hT hBB hbn hkn
          rcases m with _ | m
          · obtain rfl : n = kk := by omega
            have HTB := Lib.hid (show TeB (c.h 1) t from ⟨HT.out, by have := HBN.out.1; omega, by rw [HBN.out.1, HBN.out.2], by rw [HBN.out.1]; exact HBB.out⟩)
            have hzw2 : z < wR.heap.size := bx_lt HK.out.hz
            have HKW := Lib.hid (HK.out.only HS.out.O hpB6)
            have HZ0 := Lib.hid (bx_range HS.out.zb (l := [.int .i64 t.cl, .int .i64 t.cs, .slice t.ba t.bn t.bc, .slice t.ka t.kn t.kc, .int .i64 t.fr, .int .i64 t.wd, .int .i64 t.bk, .int .i64 t.cy, .int .i64 t.of', .int .i64 t.on', .int .i64 t.li, .int .i64 t.sh, .int .i64 t.ss, .int .i64 t.bt]) rfl)
            have c19 := bx_cell HKW.out.hz 19 (v := .slice c.ta c.tn c.tc) rfl
            have hsw := HS.out.O.size
            have htn1 : c.tn ≤ 3 := by have := HCB.out.tn; omega
            have HKA := Lib.hid (HKW.out.alloc (.cells (tcs t).toArray 57) hpB6)
            go_wp2_with (first | (refine wpList_load_mid rfl 57 (.tmp 10) rfl zt 0 rfl [.int .i64 t.cl, .int .i64 t.cs, .slice t.ba t.bn t.bc, .slice t.ka t.kn t.kc, .int .i64 t.fr, .int .i64 t.wd, .int .i64 t.bk, .int .i64 t.cy, .int .i64 t.of', .int .i64 t.on', .int .i64 t.li, .int .i64 t.sh, .int .i64 t.ss, .int .i64 t.bt] _ HZ0.out Tryz.underlying57 rfl (by kernel_rfl) ?_) | (at_builtin; refine wpList_append_te (wr.alloc (.cells (tcs t).toArray 57)) B6 rfl (.tmp 138) (.tmp 140) rfl (.slice c.ta c.tn c.tc) c.tn T rfl t wr.heap.size rfl (bx_new wr _ 57) HKA.out.t (by simp; omega) (by omega) ?_; intro v' w70 h70 hg70; refine Hid.out ?_))
            refine Lib.hid ?_
            obtain ⟨a1, c1, rfl, -, -, -⟩ := own_slice h70
            have hz70 : w70.heap[z]? = some (.cells (cfs c).toArray 37 (0, 0)) := (hg70.block z (heap_lt HKA.out.hz) (fun e => own_ne HKA.out.t HKA.out.hz (by decide) e.symm rfl)).trans HKA.out.hz
            have k19 := bx_cell hz70 19 (v := .slice c.ta c.tn c.tc) rfl
            have g19 := bx_fr hz70 19
            have hTl : ∀ g, (Value.slice c.ta c.tn c.tc).ownBlock = some g → B6 ≤ g := fun g hg => (HKA.out.t.lt g hg).1
            have HK2 := Lib.hid (HKA.out.addT (T' := addR T c.tn t) (fun k hk => addR_ne (by omega)) (by rw [addR_at]; exact own_base (own_only' HS.out.b (only_alloc (only_refl wr p) _) hpr) (by omega)) (by rw [addR_at]; exact own_base (own_only' HS.out.k (only_alloc (only_refl wr p) _) hpr) (by omega)) h70 hg70)
            have HD2 := Lib.hid (DiceS.set (q := z) (o := 19) (v := .slice a1 (c.tn + 1) c1) ((HS.out.D.alloc (.cells (tcs t).toArray 57)).grew hg70 (fun g hg => by have := hTl g hg; omega)) hzB)
            have HL2 := Lib.hid (LowP.set (q := z) (o := 19) (v := .slice a1 (c.tn + 1) c1) (LowP.grown (HL.out.trans (LowP.of (only_alloc HS.out.O (.cells (tcs t).toArray 57)) (by omega))) (by simp; omega) hg70 hTl) hB6z)
            have HCB2 := Lib.hid (HCB.out.addT (a1 := a1) (c1 := c1) HTB.out)
            have hfn : c.fn ≤ 60 * q := HCB.out.fn
            obtain ⟨c2, hc2⟩ : ∃ c2 : Cf, c2 = { c with ta := a1, tn := c.tn + 1, tc := c1 } := ⟨_, rfl⟩
            obtain ⟨T2, hT2⟩ : ∃ T2 : Nat → Te, T2 = addR T c.tn t := ⟨_, rfl⟩
            rw [← hc2, ← hT2] at HK2 HCB2
            have hfn2 : c2.fn ≤ 60 * q := by subst hc2; exact hfn
            go_upto_region 23 with fail
            clear k19 g19 hz70 hc2 hT2 hTl h70 hg70 HKA HKW HTB HBN HBB HT HS HZ0 hfn HCB HL HK
            generalize w70.setCell _ _ = w71 at *
            have htn2 : c2.tn = q + 1 := HCB2.out.tn
            obtain ⟨g0, hta, hg0B, hcell⟩ := HK2.out.toCfRw.row (q := q) (by omega)
            have HTA := Lib.hid hta
            have HCE := Lib.hid hcell
            have HTN := Lib.hid htn2
            have hg0p : g0 ≠ p := by omega
            have HM2 := HCB2.out.h.b1
            obtain ⟨mm, hmm⟩ : ∃ mm : Nat, c2.h 1 = mm := ⟨(c2.h 1).toNat, by omega⟩
            have hmm1 : 1 ≤ mm ∧ mm ≤ 3 := by omega
            have HMM := Lib.hid hmm
            have hz71 := bx_lt HK2.out.hz
            have hpw7 : p < w71.heap.size := by omega
            clear hta hcell hmm HM2 htn2
            refine wp_region_peelJ 0 8 (fun u u' => OnlyP u u' p) (fun i v u => match i with
              | 0 => v = .pointer (some ⟨z, 18, none⟩)
              | 1 => v = .slice c2.fa c2.fn c2.fc
              | 2 => v = .pointer (some ⟨p, 0, none⟩)
              | 3 => v = .agg (cfs c2).toArray
              | 4 => v = .int .i64 q
              | 5 => v = .bool noise
              | 6 => v = .bool moves
              | 7 => ∃ n, FdsAt u w71.heap.size q (c2.h 1) v n ∧ 1 ≤ n ∧ n ≤ 60
              | _ => True) (fun _ _ u => DiceS u p B) (by kernel_rfl) (by kernel_rfl) rfl (fun _ _ d _ _ h => by cases d <;> exact h) (only_drewN (only_refl _ _) 1) (fun _ _ _ h1 h2 => only_trans h1 h2) (fun _ _ _ _ _ _ _ h => h) (HD2.out.drewN 1) ?_ ?_ ?_
            · intro i v w1 w2 hb h
              match i with
              | 0 => exact h
              | 1 => exact h
              | 2 => exact h
              | 3 => exact h
              | 4 => exact h
              | 5 => exact h
              | 6 => exact h
              | 7 =>
                obtain ⟨n, e1, e2⟩ := h
                exact ⟨n, e1.keep hb hpw7, e2⟩
              | k + 8 => exact h
            · intro i o hp hi ho L vf u1 hun hw hb hj hd
              have hi' : i = 0 ∨ i = 1 ∨ i = 2 ∨ i = 3 ∨ i = 4 ∨ i = 5 ∨ i = 6 ∨ i = 7 := by omega
              rcases hi' with rfl | rfl | rfl | rfl | rfl | rfl | rfl | rfl
              all_goals obtain rfl := Option.some.inj ho
              all_goals simp only [fillA, List.take_succ_cons, List.take_zero, List.drop_succ_cons, List.drop_zero, Nat.zero_add, Nat.reduceAdd]
              · have HJ := Lib.hid hj
                clear hd hw hj
                go_wp2
                exact ⟨rfl, only_refl _ _, rfl, HJ.out⟩
              · have f0 := hd 0 (by omega) (by omega) (hw 0 (by kernel_rfl))
                have hcc := bx_cell (only_box hb hzp HK2.out.hz) 18 (v := .slice c2.fa c2.fn c2.fc) rfl
                have HJ := Lib.hid hj
                clear hd hw hj
                simp only [Act.put, List.setIfInBounds_toArray, List.set_cons_succ, List.set_cons_zero]
                generalize vf 0 = vv at *
                subst f0
                go_wp2
                exact ⟨rfl, only_refl _ _, rfl, HJ.out⟩
              · have HJ := Lib.hid hj
                clear hd hw hj
                go_wp2
                exact ⟨rfl, only_refl _ _, rfl, HJ.out⟩
              · have HRG := Lib.hid (bx_range (only_box hb hzp HK2.out.hz) (l := cfs c2) rfl)
                have HJ := Lib.hid hj
                clear hd hw hj
                simp only [Act.put, List.setIfInBounds_toArray, List.set_cons_succ, List.set_cons_zero]
                go_wp2_with (refine wpList_load_mid rfl 37 (.tmp 7) rfl z 0 rfl (cfs c2) _ HRG.out Tryz.underlying37 rfl (by kernel_rfl) ?_)
                exact ⟨rfl, only_refl _ _, rfl, HJ.out⟩
              · have HJ := Lib.hid hj
                clear hd hw hj
                go_wp2
                exact ⟨rfl, only_refl _ _, rfl, HJ.out⟩
              · have HJ := Lib.hid hj
                clear hd hw hj
                go_wp2
                exact ⟨rfl, only_refl _ _, rfl, HJ.out⟩
              · have HJ := Lib.hid hj
                clear hd hw hj
                go_wp2
                exact ⟨rfl, only_refl _ _, rfl, HJ.out⟩
              · have f2 := hd 2 (by omega) (by omega) (hw 2 (by kernel_rfl))
                have f3 := hd 3 (by omega) (by omega) (hw 3 (by kernel_rfl))
                have f4 := hd 4 (by omega) (by omega) (hw 4 (by kernel_rfl))
                have f5 := hd 5 (by omega) (by omega) (hw 5 (by kernel_rfl))
                have f6 := hd 6 (by omega) (by omega) (hw 6 (by kernel_rfl))
                have hsz := hb.size
                have KF := Lib.hid (fades22 c2 q g0 mm (T2 q).cl noise moves p B u1 (show DiceS u1 p B from hj) HMM.out hmm1 (by have := HTN.out; omega) (by have := HTN.out; omega) HTA.out hg0p (only_cell hb hg0p HCE.out))
                have HJ := Lib.hid hj
                clear hd hw hj
                simp only [Act.put, List.setIfInBounds_toArray, List.set_cons_succ, List.set_cons_zero]
                generalize vf 2 = y2 at *
                subst f2
                generalize vf 3 = y3 at *
                subst f3
                generalize vf 4 = y4 at *
                subst f4
                generalize vf 5 = y5 at *
                subst f5
                generalize vf 6 = y6 at *
                subst f6
                go_wp2_with (go_at_call 22; refine KF.out.mono ?_; rintro e w3 ⟨v, n, rfl, hv, hn, hd, ho⟩)
                exact ⟨rfl, ho, ⟨n, hv.base hsz, hn⟩, hd⟩
            intro vf u1 hb hj hd
            have f1 := hd 1 (by omega) (by omega)
            obtain ⟨k, hF, hk1, hk2⟩ := hd 7 (by omega) (by omega)
            have HF := Lib.hid hF
            have HK3 := Lib.hid (HK2.out.only hb hpB6)
            have HD3 := Lib.hid (show DiceS u1 p B from hj)
            have HL3 := Lib.hid (HL2.out.trans (LowP.of hb (by omega)))
            have hszu := hb.size
            clear hd hb hj hF
            simp only [fillA, List.take_succ_cons, List.take_zero, List.drop_succ_cons, List.drop_zero, Nat.zero_add, Nat.reduceAdd]
            simp only [Act.put, List.setIfInBounds_toArray, List.set_cons_succ, List.set_cons_zero]
            generalize vf 1 = v1 at *
            subst f1
            generalize vf 7 = v7 at *
            go_wp2_with (at_builtin; refine wpList_append_fds u1 B6 w71.heap.size rfl (.tmp 144) (.tmp 150) rfl (.slice c2.fa c2.fn c2.fc) c2.fn X rfl q (c2.h 1) v7 k hk1 rfl HF.out HK3.out.f (by omega) (by omega) ?_; intro v' w72 X2 h72 hx1 hx2 hg72; refine Hid.out ?_)
            refine Lib.hid ?_
            obtain ⟨a2, d2, rfl, -, -, -⟩ := own_slice h72
            have hz72 : w72.heap[z]? = some (.cells (cfs c2).toArray 37 (0, 0)) := (hg72.block z (heap_lt HK3.out.hz) (fun e => own_ne HK3.out.f HK3.out.hz (by decide) e.symm rfl)).trans HK3.out.hz
            have k18 := bx_cell hz72 18 (v := .slice c2.fa c2.fn c2.fc) rfl
            have g18 := bx_fr hz72 18
            have hFl : ∀ g, (Value.slice c2.fa c2.fn c2.fc).ownBlock = some g → B6 ≤ g := fun g hg => (HK3.out.f.lt g hg).1
            have HK4 := Lib.hid (HK3.out.addF h72 hg72)
            have HD4 := Lib.hid (DiceS.set (q := z) (o := 18) (v := .slice a2 (c2.fn + k) d2) (HD3.out.grew hg72 (fun g hg => by have := hFl g hg; omega)) hzB)
            have HL4 := Lib.hid (LowP.set (q := z) (o := 18) (v := .slice a2 (c2.fn + k) d2) (LowP.grown HL3.out (by omega) hg72 hFl) hB6z)
            have HCB4 := Lib.hid (HCB2.out.addF (a1 := a2) (c1 := d2) hfn2 hk2 hx1 hx2)
            clear h72 hg72 hx1 hx2 hz72 hFl
            go_wp2
            go_roundw
            case rel => exact ⟨q + 1, _, X2, T2, by go_num, by omega, HK4.out, HCB4.out, HD4.out, HL4.out⟩
            case measure => simp [intOf]; omega
          · have em : ((m + 1 : Nat) : Int) = (m : Int) + 1 := by omega
            rw [em]
            go_upto_if 118 with (go_at_call 12; refine (next12 (by decide) (by decide) HS.out.D).mono ?_; rintro e w44 ⟨v44, rfl, l44, u44, hd, ho⟩; replace HS := Lib.hid (HS.out.next hpr ho hd); clear ho hd)
            go_cut [12] (fun s12 wx => ∃ mo : Int, s12 = .int .i64 mo ∧ (mo = 1 ∨ mo = 2) ∧ wx = w44)
            case first =>
              by_cases h3 : v44 = 3
              · subst h3
                go_wp2_with fail
                go_meet
                exact ⟨2, rfl, .inr rfl, rfl⟩
              · have h3q : (v44 == 3) = false := by simp [h3]
                clear h3
                go_wp2_with fail
                go_meet
                exact ⟨1, rfl, .inl rfl, rfl⟩
            case rest =>
              obtain ⟨mo, rfl, hmo, hwx⟩ := hcut
              subst hwx
              go_upto_region 20 with fail
              have hzp2 : zt ≠ p := by omega
              have hpw4 : p < wc.heap.size := by have := HS.out.O.size; omega
              refine wp_region_peelJ 0 6 (fun u u' => OnlyP u u' p) (fun i v u => match i with
                | 0 => v = .pointer (some ⟨zt, 2, none⟩)
                | 1 => v = bV t
                | 2 => v = .pointer (some ⟨p, 0, none⟩)
                | 3 => v = .int .i64 mo
                | 4 => ∃ r, v = be11v r ∧ SideB mo r
                | 5 => ∃ r b0, v = .slice (some ⟨b0, 0, none⟩) 1 1 ∧ SideB mo r ∧ wc.heap.size ≤ b0 ∧ u.heap[b0]? = some (.cells (be11c r).toArray 71 (0, 0))
                | _ => True) (fun _ _ u => DiceS u p B) (by kernel_rfl) (by kernel_rfl) rfl (fun _ _ d _ _ h => by cases d <;> exact h) (only_drewN (only_refl _ _) 1) (fun _ _ _ h1 h2 => only_trans h1 h2) (fun _ _ _ _ _ _ _ h => h) (HS.out.D.drewN 1) ?_ ?_ ?_
              · intro i v w1 w2 hb h
                match i with
                | 0 => exact h
                | 1 => exact h
                | 2 => exact h
                | 3 => exact h
                | 4 => exact h
                | 5 =>
                  obtain ⟨r, b0, e1, e2, e3, e4⟩ := h
                  exact ⟨r, b0, e1, e2, e3, only_box hb (by omega) e4⟩
                | k + 6 => exact h
              · intro i o hp hi ho L vf u1 hun hw hb hj hd
                have hi' : i = 0 ∨ i = 1 ∨ i = 2 ∨ i = 3 ∨ i = 4 ∨ i = 5 := by omega
                rcases hi' with rfl | rfl | rfl | rfl | rfl | rfl
                all_goals obtain rfl := Option.some.inj ho
                all_goals simp only [fillA, List.take_succ_cons, List.take_zero, List.drop_succ_cons, List.drop_zero, Nat.zero_add, Nat.reduceAdd]
                · have HJ := Lib.hid hj
                  clear hd hw hj
                  go_wp2
                  exact ⟨rfl, only_refl _ _, rfl, HJ.out⟩
                · have f0 := hd 0 (by omega) (by omega) (hw 0 (by kernel_rfl))
                  have hcc := bx_cell (only_box hb hzp2 HS.out.zb) 2 (v := bV t) rfl
                  have HJ := Lib.hid hj
                  clear hd hw hj
                  simp only [Act.put, List.setIfInBounds_toArray, List.set_cons_succ, List.set_cons_zero]
                  generalize vf 0 = vv at *
                  subst f0
                  go_wp2
                  exact ⟨rfl, only_refl _ _, rfl, HJ.out⟩
                · have HJ := Lib.hid hj
                  clear hd hw hj
                  go_wp2
                  exact ⟨rfl, only_refl _ _, rfl, HJ.out⟩
                · have HJ := Lib.hid hj
                  clear hd hw hj
                  go_wp2
                  exact ⟨rfl, only_refl _ _, rfl, HJ.out⟩
                · have f2 := hd 2 (by omega) (by omega) (hw 2 (by kernel_rfl))
                  have f3 := hd 3 (by omega) (by omega) (hw 3 (by kernel_rfl))
                  have HJ := Lib.hid hj
                  clear hd hw hj
                  simp only [Act.put, List.setIfInBounds_toArray, List.set_cons_succ, List.set_cons_zero]
                  generalize vf 2 = v2 at *
                  subst f2
                  generalize vf 3 = v3 at *
                  subst f3
                  go_wp2_with (go_at_call 21; refine (side21 mo p B u1 HJ.out).mono ?_; rintro e w3 ⟨r, rfl, hr, hd, ho⟩)
                  exact ⟨rfl, ho, ⟨r, rfl, hr⟩, hd⟩
                · obtain ⟨r, f4, hr⟩ := hd 4 (by omega) (by omega) (hw 4 (by kernel_rfl))
                  have hsz := hb.size
                  have HJ := Lib.hid hj
                  clear hd hw hj
                  simp only [be11v] at f4
                  simp only [Act.put, List.setIfInBounds_toArray, List.set_cons_succ, List.set_cons_zero]
                  generalize vf 4 = v4 at *
                  subst f4
                  have HR := Lib.hid hr
                  clear hr
                  go_wp2
                  exact ⟨rfl, only_alloc (only_refl _ _) _, ⟨r, _, rfl, HR.out, hsz, bx_new u1 _ 71⟩, HJ.out.alloc _⟩
              intro vf u1 hb hj hd
              have f1 := hd 1 (by omega) (by omega)
              obtain ⟨r, b0, f5, hr, hb0, hbox⟩ := hd 5 (by omega) (by omega)
              have HR := Lib.hid hr
              have HBX := Lib.hid hbox
              replace HS := Lib.hid (HS.out.next hpr hb hj)
              have hszu : wR.heap.size ≤ u1.heap.size := HS.out.O.size
              clear hd hb hj hr hbox
              simp only [fillA, List.take_succ_cons, List.take_zero, List.drop_succ_cons, List.drop_zero, Nat.zero_add, Nat.reduceAdd]
              simp only [Act.put, List.setIfInBounds_toArray, List.set_cons_succ, List.set_cons_zero]
              generalize vf 1 = v1 at *
              subst f1
              generalize vf 5 = v5 at *
              subst f5
              have HOW := Lib.hid (show u1.ownsRow wR.heap.size 71 11 (bV t) n ((List.range (n * 11)).map (bev' t.be)) from by have := HS.out.b; rwa [HBN.out.1] at this)
              go_wp2_with (at_builtin; refine wpList_append_be u1 wR.heap.size rfl (.tmp 120) (.tmp 124) rfl (bV t) n t.be rfl r b0 rfl HBX.out HOW.out hszu (by omega) ?_; intro v' w50 h50 hg50; refine Hid.out ?_)
              refine Lib.hid ?_
              obtain ⟨a1, c1, rfl, -, -, -⟩ := own_slice h50
              have hbx : w50.heap[zt]? = some (.cells (tcs t).toArray 57 (0, 0)) := (hg50.block zt (heap_lt HS.out.zb) (fun e => own_ne HS.out.b HS.out.zb (by decide) e.symm rfl)).trans HS.out.zb
              have k2 := bx_cell hbx 2 (v := bV t) rfl
              have g2 := bx_fr hbx 2
              rw [← HBN.out.1] at h50
              have hS5 := HS.out.addB hwr h50 hg50
              rw [HBN.out.1] at hS5
              obtain ⟨t3, ht3⟩ : ∃ t3 : Te, t3 = { t with ba := a1, bn := n + 1, bc := c1, be := addR t.be n r } := ⟨_, rfl⟩
              replace HS := Lib.hid (show TeW wR (w50.setCell ⟨zt, 2, none⟩ (.slice a1 (n + 1) c1)) p B zt t3 from ht3 ▸ hS5)
              replace HT := Lib.hid (show TeB0 (c.h 1) t3 from ht3 ▸ HT.out.withB)
              replace HBB := Lib.hid (show BeB3 t3 (n + 1) n from ht3 ▸ HBB.out.withB hmo HR.out)
              replace HBN := Lib.hid (show t3.bn = n + 1 ∧ t3.kn = n from by subst ht3; exact ⟨rfl, HBN.out.2⟩)
              clear hS5 h50 hg50 hbx ht3 HR HBX HOW hszu hb0
              go_upto_region 21 with fail
              clear k2 g2
              generalize w50.setCell _ _ = w5 at *
              have hpw5 : p < w5.heap.size := by have := HS.out.O.size; omega
              refine wp_region_peelJ 0 8 (fun u u' => OnlyP u u' p) (fun i v u => match i with
                | 0 => v = .pointer (some ⟨zt, 3, none⟩)
                | 1 => v = kV t3
                | 2 => v = .pointer (some ⟨p, 0, none⟩)
                | 3 => ∃ x : Int, v = .int .i64 x ∧ 0 ≤ x ∧ x < 3
                | 4 => v = .pointer (some ⟨p, 0, none⟩)
                | 5 => ∃ x : Int, v = .int .i64 x ∧ 0 ≤ x ∧ x < 40
                | 6 => ∃ x y : Int, v = .agg (bu4 x y 80 0).toArray ∧ 0 ≤ x ∧ x < 3 ∧ 0 ≤ y ∧ y < 40
                | 7 => ∃ (x y : Int) (b0 : Nat), v = .slice (some ⟨b0, 0, none⟩) 1 1 ∧ (0 ≤ x ∧ x < 3 ∧ 0 ≤ y ∧ y < 40) ∧ w5.heap.size ≤ b0 ∧ u.heap[b0]? = some (.cells (bu4 x y 80 0).toArray 74 (0, 0))
                | _ => True) (fun _ _ u => DiceS u p B) (by kernel_rfl) (by kernel_rfl) rfl (fun _ _ d _ _ h => by cases d <;> exact h) (only_drewN (only_refl _ _) 1) (fun _ _ _ h1 h2 => only_trans h1 h2) (fun _ _ _ _ _ _ _ h => h) (HS.out.D.drewN 1) ?_ ?_ ?_
              · intro i v w1 w2 hb h
                match i with
                | 0 => exact h
                | 1 => exact h
                | 2 => exact h
                | 3 => exact h
                | 4 => exact h
                | 5 => exact h
                | 6 => exact h
                | 7 =>
                  obtain ⟨x, y, b0, e1, e2, e3, e4⟩ := h
                  exact ⟨x, y, b0, e1, e2, e3, only_box hb (by omega) e4⟩
                | k + 8 => exact h
              · intro i o hp hi ho L vf u1 hun hw hb hj hd
                have hi' : i = 0 ∨ i = 1 ∨ i = 2 ∨ i = 3 ∨ i = 4 ∨ i = 5 ∨ i = 6 ∨ i = 7 := by omega
                rcases hi' with rfl | rfl | rfl | rfl | rfl | rfl | rfl | rfl
                all_goals obtain rfl := Option.some.inj ho
                all_goals simp only [fillA, List.take_succ_cons, List.take_zero, List.drop_succ_cons, List.drop_zero, Nat.zero_add, Nat.reduceAdd]
                · have HJ := Lib.hid hj
                  clear hd hw hj
                  go_wp2
                  exact ⟨rfl, only_refl _ _, rfl, HJ.out⟩
                · have f0 := hd 0 (by omega) (by omega) (hw 0 (by kernel_rfl))
                  have hcc := bx_cell (only_box hb hzp2 HS.out.zb) 3 (v := kV t3) rfl
                  have HJ := Lib.hid hj
                  clear hd hw hj
                  simp only [Act.put, List.setIfInBounds_toArray, List.set_cons_succ, List.set_cons_zero]
                  generalize vf 0 = vv at *
                  subst f0
                  go_wp2
                  exact ⟨rfl, only_refl _ _, rfl, HJ.out⟩
                · have HJ := Lib.hid hj
                  clear hd hw hj
                  go_wp2
                  exact ⟨rfl, only_refl _ _, rfl, HJ.out⟩
                · have f2 := hd 2 (by omega) (by omega) (hw 2 (by kernel_rfl))
                  have HJ := Lib.hid hj
                  clear hd hw hj
                  simp only [Act.put, List.setIfInBounds_toArray, List.set_cons_succ, List.set_cons_zero]
                  generalize vf 2 = vv at *
                  subst f2
                  go_wp2_with (go_at_call 12; refine (next12 (by decide) (by decide) HJ.out).mono ?_; rintro e w3 ⟨x, rfl, h0, h1, hd, ho⟩)
                  exact ⟨rfl, ho, ⟨x, rfl, h0, h1⟩, hd⟩
                · have HJ := Lib.hid hj
                  clear hd hw hj
                  go_wp2
                  exact ⟨rfl, only_refl _ _, rfl, HJ.out⟩
                · have f4 := hd 4 (by omega) (by omega) (hw 4 (by kernel_rfl))
                  have HJ := Lib.hid hj
                  clear hd hw hj
                  simp only [Act.put, List.setIfInBounds_toArray, List.set_cons_succ, List.set_cons_zero]
                  generalize vf 4 = vv at *
                  subst f4
                  go_wp2_with (go_at_call 12; refine (next12 (by decide) (by decide) HJ.out).mono ?_; rintro e w3 ⟨x, rfl, h0, h1, hd, ho⟩)
                  exact ⟨rfl, ho, ⟨x, rfl, h0, h1⟩, hd⟩
                · obtain ⟨x, f3, x0, x1⟩ := hd 3 (by omega) (by omega) (hw 3 (by kernel_rfl))
                  obtain ⟨y, f5, y0, y1⟩ := hd 5 (by omega) (by omega) (hw 5 (by kernel_rfl))
                  have HJ := Lib.hid hj
                  clear hd hw hj
                  simp only [Act.put, List.setIfInBounds_toArray, List.set_cons_succ, List.set_cons_zero]
                  generalize vf 3 = v3 at *
                  subst f3
                  generalize vf 5 = v5 at *
                  subst f5
                  go_wp2
                  exact ⟨rfl, only_refl _ _, ⟨x, y, rfl, x0, x1, y0, y1⟩, HJ.out⟩
                · obtain ⟨x, y, f6, hxy⟩ := hd 6 (by omega) (by omega) (hw 6 (by kernel_rfl))
                  have hsz := hb.size
                  have HJ := Lib.hid hj
                  clear hd hw hj
                  simp only [bu4] at f6
                  simp only [Act.put, List.setIfInBounds_toArray, List.set_cons_succ, List.set_cons_zero]
                  generalize vf 6 = v6 at *
                  subst f6
                  go_wp2
                  exact ⟨rfl, only_alloc (only_refl _ _) _, ⟨x, y, _, rfl, hxy, hsz, bx_new u1 _ 74⟩, HJ.out.alloc _⟩
              intro vf u1 hb hj hd
              have f1 := hd 1 (by omega) (by omega)
              obtain ⟨x, y, b0, f7, hxy, hb0, hbox⟩ := hd 7 (by omega) (by omega)
              have HBX := Lib.hid hbox
              replace HS := Lib.hid (HS.out.next hpr hb hj)
              have hszu : wR.heap.size ≤ u1.heap.size := HS.out.O.size
              clear hd hb hj hbox
              simp only [fillA, List.take_succ_cons, List.take_zero, List.drop_succ_cons, List.drop_zero, Nat.zero_add, Nat.reduceAdd]
              simp only [Act.put, List.setIfInBounds_toArray, List.set_cons_succ, List.set_cons_zero]
              generalize vf 1 = v1 at *
              subst f1
              generalize vf 7 = v7 at *
              subst f7
              have HOW := Lib.hid (show u1.ownsRow wR.heap.size 74 4 (kV t3) n ((List.range (n * 4)).map (buv t3.P t3.R t3.M t3.T)) from by have := HS.out.k; rwa [HBN.out.2] at this)
              go_wp2_with (at_builtin; refine wpList_append_bu u1 wR.heap.size rfl (.tmp 128) (.tmp 134) rfl (kV t3) n t3.P t3.R t3.M t3.T rfl x y 80 0 b0 rfl HBX.out HOW.out hszu (by omega) ?_; intro v' w60 h60 hg60; refine Hid.out ?_)
              refine Lib.hid ?_
              obtain ⟨a1, c1, rfl, -, -, -⟩ := own_slice h60
              have hbx : w60.heap[zt]? = some (.cells (tcs t3).toArray 57 (0, 0)) := (hg60.block zt (heap_lt HS.out.zb) (fun e => own_ne HS.out.k HS.out.zb (by decide) e.symm rfl)).trans HS.out.zb
              have k3 := bx_cell hbx 3 (v := kV t3) rfl
              have g3 := bx_fr hbx 3
              rw [← HBN.out.2] at h60
              have hS6 := HS.out.addK hwr h60 hg60
              rw [HBN.out.2] at hS6
              obtain ⟨t4, ht4⟩ : ∃ t4 : Te, t4 = { t3 with ka := a1, kn := n + 1, kc := c1, P := addR t3.P n x, R := addR t3.R n y, M := addR t3.M n 80, T := addR t3.T n 0 } := ⟨_, rfl⟩
              replace HS := Lib.hid (show TeW wR (w60.setCell ⟨zt, 3, none⟩ (.slice a1 (n + 1) c1)) p B zt t4 from ht4 ▸ hS6)
              replace HT := Lib.hid (show TeB0 (c.h 1) t4 from ht4 ▸ HT.out.withK)
              replace HBB := Lib.hid (show BeB t4 (n + 1) from ht4 ▸ HBB.out.withK (by omega) (by omega))
              replace HBN := Lib.hid (show t4.bn = n + 1 ∧ t4.kn = n + 1 from by subst ht4; exact ⟨HBN.out.1, rfl⟩)
              clear hS6 h60 hg60 hbx ht4 HBX HOW hszu hb0
              go_wp2
              go_roundw
              case rel => exact ⟨m, n + 1, t4, by go_num, by omega, HS.out, HT.out, HBN.out.1, HBN.out.2, HBB.out⟩
              case measure => simp [intOf]
    · obtain rfl : q = nt := by omega
      have hH6 : wR.heap[w.heap.size]? = some (.cells z20 37 (0, 0)) := (HL.out.block w.heap.size (by have := hB6.out; omega) h6p).trans H6.out
      have HRG := Lib.hid (bx_range HK.out.hz (l := cfs c) rfl)
      have hs := bx_cells_same (cfs c) 0 hH6
      rw [setFrom_all (vs := cfs c) (cs := z20) rfl] at hs
      have HH6 := Lib.hid (bx_there_at hH6 0 20 (Nat.le_refl 20))
      have HS6 := Lib.hid hs
      clear hs hH6 hlt hq
      go_wp2_with (first | (refine wpList_load_mid rfl 37 (.tmp 7) rfl z 0 rfl (cfs c) _ HRG.out Tryz.underlying37 rfl (by kernel_rfl) ?_) | (refine wpList_store_mid rfl 37 (.tmp 6) (.tmp 153) rfl w.heap.size 0 (cfs c).toArray rfl rfl HH6.out (by kernel_rfl) (by kernel_rfl) ?_))
      exact bodyPost_ret (results_range Tryz.results11 _ _ w.heap.size (cfs c) _ rfl (bx_range HS6.out rfl) Tryz.underlying37 rfl (by kernel_rfl)) rfl ⟨c, X, T, q, rfl, (HK.out.toCfRw.sets (q := w.heap.size) (by have := hB6.out; omega) 0 (cfs c)).base (by have := hB6.out; omega), HCB.out, hnt, D1.out.sets (q := w.heap.size) hB 0 (cfs c), only_sets (only_low O1.out HL.out (by have := hB6.out; omega)) (Nat.le_refl _) 0 (cfs c)⟩
end Go.Proofs.YtgflfdnajchjaaaGreatDoor
