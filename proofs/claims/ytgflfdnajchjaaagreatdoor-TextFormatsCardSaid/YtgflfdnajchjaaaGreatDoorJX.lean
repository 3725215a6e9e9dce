import Derived.Test.YtgflfdnajchjaaaGreatDoorJW
import Derived.Test.YtgflfdnajchjaaaGreatDoorJL
import Derived.Test.YtgflfdnajchjaaaGreatDoorJO
/- Layer 45: the reference's check of a network and its traffic. -/
namespace Go.Proofs.YtgflfdnajchjaaaGreatDoor
set_option linter.unusedVariables false
set_option linter.unusedSimpArgs false
open Go.RowKit Go.Sort
open Tm
open Go.Proofs.YtgflfdnajchjaaaGreatDoor.Ch (btw)
attribute [local go_sem] gcell
set_option maxRecDepth 100000 in
set_option maxHeartbeats 8000000 in
theorem bad23 (c : Cf) (X : Nat → Ch.Fd) (T : Nat → Te) (a : Option Addr) (n cc : Nat) (Q : Nat → Tr) (w : World) (H : CfIn w c X T) (HQ : TrR w a n Q) (hn : n ≤ maxLen) :
    Calls Tryz.prog 23 #[cfv c, .slice a n cc] w fun e w' => e = .returned (.int .i64 (chkM c X T n Q)) ∧ Below w.heap.size w w' := by
  unfold maxLen at hn
  have hb0 : Below w.heap.size w (w.alloc (.cells (cfs c).toArray 37)) := (Below.refl _ _).alloc (Nat.le_refl _) _
  have hv0 := vat_list w (cfs c) 37 20 (ccell c) (cc_at c)
  have K44 := Lib.hid (check44 c X T)
  unfold cfv at K44 ⊢
  have HB := Lib.hid hb0
  have HR := Lib.hid (range_cf hv0)
  have HH := Lib.hid H
  have HHQ := Lib.hid HQ
  clear hb0 hv0 H HQ
  have hbx : ∀ W : World, W.alloc (.cells (cfs c).toArray 37) = W.alloc (.cells (cfs c).toArray 37) := fun _ => rfl
  clear hbx
  go_enter Tryz.func23, Tryz.ntmps23
  go_upto_region 1 with fail
  generalize w.alloc (.cells (cfs c).toArray 37) = w1 at *
  go_wp2_with (first | (refine wpList_load_mid rfl 37 (.tmp 2) rfl w.heap.size 0 rfl (cfs c) _ HR.out Tryz.underlying37 rfl (by kernel_rfl) ?_) | (go_at_call 44; refine (K44.out _ (HH.out.mono HB.out)).mono ?_; rintro e w2 ⟨rfl, hb2⟩; have HB2 := Lib.hid (bthen' HB.out hb2); clear hb2; refine Hid.out ?_))
  refine Lib.hid ?_
  have HN0 := Lib.hid (show netC c X T ≠ 0 → chkM c X T n Q = netC c X T from fun h => if_pos h)
  have HN1 := Lib.hid (show netC c X T = 0 → chkM c X T n Q = trafC n fun k => trS (Q k) from fun h => if_neg (fun h' => h' h))
  clear HR K44 HH
  generalize netC c X T = N0 at *
  by_cases h0 : N0 = 0
  · have hq : (N0 != 0) = false := by simp [h0]
    have HN2 := Lib.hid (HN1.out h0)
    clear h0 HN0 HN1
    by_cases hl : 200 < n
    · go_wp2
      go_ret
      exact ⟨ret_int (by rw [HN2.out, trafC_len hl]), HB2.out⟩
    · have HN3 := Lib.hid (HN2.out.trans (trafC_first hl))
      go_wp2
      go_loopw [6] (fun i wr => ∃ k : Nat, k ≤ n ∧ i = .int .i64 k ∧ Below w.heap.size w wr ∧ firstE (fun k => pktC (trS (Q k))) k = 0) (fun i _ => n - (intOf i).toNat)
      case atStart => exact ⟨0, Nat.zero_le _, rfl, HB2.out, rfl⟩
      case round =>
        obtain ⟨k, hk, rfl, hbr, hf⟩ := hrel
        have HBr := Lib.hid hbr
        have HF := Lib.hid hf
        clear hbr hf
        by_cases hlt : k < n
        · obtain ⟨b, m, h1, h2⟩ := HHQ.out.mono HBr.out
          obtain rfl := h1 (by omega)
          obtain ⟨c0, c1, c2, c3, c4, -, c6, -⟩ := h2 k hlt
          rw [c6] at c4
          have HE2 := Lib.hid (fun (h : pktC (trS (Q k)) ≠ 0) => HN3.out.trans (firstE_at (f := fun k => pktC (trS (Q k))) hlt HF.out h))
          have HE0 := Lib.hid (fun (h : pktC (trS (Q k)) = 0) => firstE_next (f := fun k => pktC (trS (Q k))) HF.out h)
          clear h1 h2 c6
          by_cases hs : (Q k).by'.length < 1 ∨ 1500 < (Q k).by'.length
          · have HE3 := Lib.hid (HE2.out (by rw [pktC_size hs]; decide))
            have HE4 := Lib.hid (HE3.out.trans (pktC_size hs))
            generalize (Q k).by'.length = bl at *
            rcases hs with hs | hs
            · go_wp2
              go_ret
              exact ⟨ret_int HE4.out.symm, HBr.out⟩
            · go_wp2
              go_ret
              exact ⟨ret_int HE4.out.symm, HBr.out⟩
          · have HP3 := Lib.hid (fun j (hj : j < 4) hx => pktC_rng (q := Q k) hs (j := j) hj hx)
            have HP0 := Lib.hid (fun hx => pktC_ok (q := Q k) hs hx)
            have hs1 : ¬ (Q k).by'.length < 1 := fun h => hs (.inl h)
            have hs2 : ¬ 1500 < (Q k).by'.length := fun h => hs (.inr h)
            clear hs
            generalize (Q k).by'.length = bl at *
            cases g0 : inR (Q k).a
            · have e3 := HP3.out 0 (by omega) g0
              have HE3 := Lib.hid (HE2.out (by rw [e3]; decide))
              have HE4 := Lib.hid (HE3.out.trans e3)
              clear e3
              go_wp2_with (go_at_call 45; refine (within45 _ _).mono ?_; rintro e w3 ⟨rfl, rfl⟩)
              go_ret
              exact ⟨ret_int HE4.out.symm, HBr.out⟩
            · skip
              cases g1 : inR (Q k).t
              · have e3 := HP3.out 1 (by omega) g1
                have HE3 := Lib.hid (HE2.out (by rw [e3]; decide))
                have HE4 := Lib.hid (HE3.out.trans e3)
                clear e3
                go_wp2_with (go_at_call 45; refine (within45 _ _).mono ?_; rintro e w3 ⟨rfl, rfl⟩)
                go_ret
                exact ⟨ret_int HE4.out.symm, HBr.out⟩
              · skip
                cases g2 : inR (Q k).b
                · have e3 := HP3.out 2 (by omega) g2
                  have HE3 := Lib.hid (HE2.out (by rw [e3]; decide))
                  have HE4 := Lib.hid (HE3.out.trans e3)
                  clear e3
                  go_wp2_with (go_at_call 45; refine (within45 _ _).mono ?_; rintro e w3 ⟨rfl, rfl⟩)
                  go_ret
                  exact ⟨ret_int HE4.out.symm, HBr.out⟩
                · skip
                  cases g3 : inR (Q k).d
                  · have e3 := HP3.out 3 (by omega) g3
                    have HE3 := Lib.hid (HE2.out (by rw [e3]; decide))
                    have HE4 := Lib.hid (HE3.out.trans e3)
                    clear e3
                    go_wp2_with (go_at_call 45; refine (within45 _ _).mono ?_; rintro e w3 ⟨rfl, rfl⟩)
                    go_ret
                    exact ⟨ret_int HE4.out.symm, HBr.out⟩
                  · have HE5 := Lib.hid (HE0.out (HP0.out (fun j hj => by
                      have : j = 0 ∨ j = 1 ∨ j = 2 ∨ j = 3 := by omega
                      rcases this with rfl | rfl | rfl | rfl
                      · exact g0
                      · exact g1
                      · exact g2
                      · exact g3)))
                    go_wp2_with (go_at_call 45; refine (within45 _ _).mono ?_; rintro e w3 ⟨rfl, rfl⟩)
                    go_roundw
                    case rel => exact ⟨k + 1, by omega, by go_num, HBr.out, HE5.out⟩
                    case measure => simp [intOf] <;> omega
        · obtain rfl : k = n := by omega
          go_wp2
          go_ret
          exact ⟨ret_int (by rw [HN3.out, HF.out]), HBr.out⟩
  · have hq : (N0 != 0) = true := by simp [h0]
    have HN2 := Lib.hid (HN0.out h0)
    clear h0 HN0 HN1
    go_wp2
    go_ret
    exact ⟨ret_int HN2.out.symm, HB2.out⟩
end Go.Proofs.YtgflfdnajchjaaaGreatDoor
/- Layer 45: the reference's writing of a document, by its lines. -/
namespace Go.Proofs.YtgflfdnajchjaaaGreatDoor
set_option linter.unusedVariables false
set_option linter.unusedSimpArgs false
open Go.RowKit Go.Sort
open Tm
/-- Lines, each with its end. -/
def catL (L : List (List UInt8)) : List UInt8 := L.flatMap fun l => l ++ [10]
theorem catL_take {L : List (List UInt8)} {j : Nat} (h : j < L.length) : catL (L.take (j + 1)) = (catL (L.take j) ++ L.getD j []) ++ [10] := by
  rw [List.take_succ_eq_append_getElem h, List.getD_eq_getElem?_getD, List.getElem?_eq_getElem h]
  unfold catL
  rw [List.flatMap_append]
  simp
theorem catL_len (L : List (List UInt8)) (j : Nat) : (catL (L.take j)).length ≤ (catL L).length := by
  have h : catL L = catL (L.take j) ++ catL (L.drop j) := by
    unfold catL
    rw [← List.flatMap_append, List.take_append_drop]
  rw [h, List.length_append]
  omega
theorem catL_ge : ∀ L : List (List UInt8), L.length ≤ (catL L).length
  | [] => Nat.le_refl _
  | l :: L => by
    have := catL_ge L
    unfold catL at this ⊢
    rw [List.flatMap_cons, List.length_append, List.length_append, List.length_cons]
    simp only [List.length_cons, List.length_nil]
    omega
set_option maxRecDepth 100000 in
set_option maxHeartbeats 8000000 in
theorem fmt13 (c : Cf) (X : Nat → Ch.Fd) (T : Nat → Te) (a : Option Addr) (n cc : Nat) (Q : Nat → Tr) (Ls : List (List UInt8)) (w : World) (H : CfIn w c X T) (HQ : TrR w a n Q) (hn : n ≤ maxLen) (hLs : (catL Ls).length ≤ 90000000)
    (K : chkM c X T n Q = 0 → ∀ W, Below w.heap.size w W → Calls Tryz.prog 24 #[cfv c, .slice a n cc] W fun e w' => ∃ v, e = .returned v ∧ OwnS w' W.heap.size v Ls ∧ Below W.heap.size W w') :
    Calls Tryz.prog 13 #[cfv c, .slice a n cc] w fun e w' => e = .returned (.tuple #[.string (bs (if chkM c X T n Q = 0 then catL Ls else [])), .int .i64 (chkM c X T n Q)]) ∧ Below w.heap.size w w' := by
  have hb0 : Below w.heap.size w (w.alloc (.cells (cfs c).toArray 37)) := (Below.refl _ _).alloc (Nat.le_refl _) _
  have hv0 := vat_list w (cfs c) 37 20 (ccell c) (cc_at c)
  have K23 := Lib.hid (bad23 c X T a n cc Q)
  have K24 := Lib.hid K
  unfold cfv at K23 K24 ⊢
  have HB := Lib.hid hb0
  have HR := Lib.hid (range_cf hv0)
  have HH := Lib.hid H
  have HHQ := Lib.hid HQ
  clear hb0 hv0 H HQ K
  go_enter Tryz.func13, Tryz.ntmps13
  go_upto_region 1 with fail
  generalize w.alloc (.cells (cfs c).toArray 37) = w1 at *
  have hz1 : w.heap.size < w1.heap.size := by
    rcases Nat.lt_or_ge w.heap.size w1.heap.size with h | h
    · exact h
    · have := HR.out 0 (.int .i64 (c.h 0)) rfl
      exact absurd (World.block_lt_of_cell? _ _ this) (by simp; omega)
  go_wp2_with (first | (refine wpList_load_mid rfl 37 (.tmp 2) rfl w.heap.size 0 rfl (cfs c) _ HR.out Tryz.underlying37 rfl (by kernel_rfl) ?_) | (go_at_call 23; refine (K23.out _ (HH.out.mono HB.out) (HHQ.out.mono HB.out) hn).mono ?_; rintro e w2 ⟨rfl, hb2⟩; have HB2 := Lib.hid (bthen' HB.out hb2); have HR2 := Lib.hid (show w2.rangeAt w.heap.size 0 (cfs c) from fun j v hv => (hb2.cell (World.block_lt_of_cell? _ _ (HR.out j v hv))).trans (HR.out j v hv)); clear hb2; refine Hid.out ?_))
  refine Lib.hid ?_
  clear K23 HH HHQ
  by_cases h0 : chkM c X T n Q = 0
  · have HZ := Lib.hid h0
    rw [h0]
    clear h0
    go_wp2_with (first | (refine wpList_load_mid rfl 37 (.tmp 2) rfl w.heap.size 0 rfl (cfs c) _ HR2.out Tryz.underlying37 rfl (by kernel_rfl) ?_) | (go_at_call 24; refine (K24.out HZ.out _ HB2.out).mono ?_; rintro e w3 ⟨v, rfl, ho3, hb3⟩; obtain ⟨a1, c1, b1, rfl, hc1, hp1, hs1⟩ := ho3.slice; have HS3 := Lib.hid hs1; have HP3 := Lib.hid hp1; have HB3 := Lib.hid (bthen' HB2.out hb3); clear hb3 ho3 hs1 hp1))
    have hbw := HB3.out.size
    clear HR2 HB2 K24 HR HB
    have hLb : Ls.length ≤ 90000000 := Nat.le_trans (catL_ge Ls) hLs
    have HL := Lib.hid hLs
    clear hLs
    have HLL := Lib.hid (show ∀ j, j < Ls.length → (catL (Ls.take j)).length + (Ls.getD j []).length + 1 ≤ 90000000 from fun j hj => by
      have h1 := catL_len Ls (j + 1)
      rw [catL_take hj, List.length_append, List.length_append] at h1
      have := HL.out
      simp only [List.length_cons, List.length_nil] at h1
      omega)
    go_loopw [8, 9] (fun r i wr => ∃ (j : Nat) (rv : Value), j ≤ Ls.length ∧ rv = r ∧ i = .int .i64 j ∧ OwnU wr w3.heap.size rv (catL (Ls.take j)) ∧ Below w3.heap.size w3 wr) (fun _ i _ => Ls.length - (intOf i).toNat)
    case atStart => exact ⟨0, _, Nat.zero_le _, rfl, rfl, World.ownsRow_nil _ _ _ _, Below.refl _ _⟩
    case round =>
      obtain ⟨j, rv, hj, rfl, rfl, hown, hbr⟩ := hrel
      have HO := Lib.hid hown
      have HR := Lib.hid hbr
      clear hown hbr
      by_cases hlt : j < Ls.length
      · obtain ⟨e1, -, hb1⟩ := HP3.out (by omega)
        subst e1
        have hc : wr.cell? ⟨b1, j, none⟩ = some (.string (bs (Ls.getD j []))) := by
          have h1 := HS3.out j hlt
          rw [Nat.zero_add] at h1
          exact (HR.out.cell (p := ⟨b1, j, none⟩) hb1).trans h1
        have HT := Lib.hid (catL_take hlt)
        have HLj := Lib.hid (HLL.out j hlt)
        generalize Ls.getD j [] = l at *
        go_wp2_with (at_builtin; refine wpB_str wr w3 w3.heap.size rfl _ _ rfl rv _ rfl HO.out l rfl (by have := HLj.out; omega) HR.out.size HR.out ?_; intro v1 w4 ho4 hb4 hs4; refine Hid.out ?_)
        refine Lib.hid ?_
        have HO4 := Lib.hid (own_below ho4 ((Below.refl _ _).alloc (Nat.le_refl _) (.cells #[.int .u8 10] 5)))
        have HB4 := Lib.hid (hb4.alloc hs4 (.cells #[.int .u8 10] 5))
        have HC4 := Lib.hid (show ∀ k, k < ([10] : List UInt8).length → (w4.alloc (.cells #[.int .u8 10] 5)).cell? ⟨w4.heap.size, k, none⟩ = some (.int .u8 ((([10] : List UInt8).getD k 0).toNat : Int)) from fun k hk => by
          obtain rfl : k = 0 := by (simp at hk; omega)
          exact cell_box (MapKept.heap_alloc w4 _).1 rfl)
        have hs4' : w3.heap.size ≤ (w4.alloc (.cells #[.int .u8 10] 5)).heap.size := by simp; omega
        clear ho4 hb4
        go_wp2_with (at_builtin; refine wpB_slice _ w3 w3.heap.size rfl _ _ rfl v1 _ rfl HO4.out [10] w4.heap.size 1 rfl HC4.out (by rw [List.length_append]; have := HLj.out; simp only [List.length_cons, List.length_nil]; omega) hs4' HB4.out ?_; intro v5 w5 ho5 hb5 hs5; refine Hid.out ?_)
        refine Lib.hid ?_
        rw [← HT.out] at ho5
        have HO5 := Lib.hid ho5
        have HB5 := Lib.hid hb5
        clear ho5 hb5 hs5 hs4 hs4'
        go_wp2
        go_roundw
        case rel => exact ⟨j + 1, _, by omega, rfl, by go_num, HO5.out, HB5.out⟩
        case measure => simp [intOf] <;> omega
      · obtain rfl : j = Ls.length := by omega
        rw [List.take_length] at HO
        obtain ⟨a', c', rfl, -, hby⟩ := HO.out.slice
        have hcv := conv_at c' hby
        clear hby HO
        have hz := HZ.out
        go_wp2
        go_ret2
        exact ⟨rfl, HB3.out.trans (HR.out.mono hbw)⟩
  · have hq : (chkM c X T n Q != 0) = true := by simp [h0]
    go_wp2
    go_ret2
    exact ⟨rfl, HB2.out⟩
end Go.Proofs.YtgflfdnajchjaaaGreatDoor
/- Layer 45: two documents that are written alike are the same. -/
namespace Go.Proofs.YtgflfdnajchjaaaGreatDoor
set_option linter.unusedVariables false
set_option linter.unusedSimpArgs false
open Go.RowKit Go.Sort
open Tm
theorem range_new (w : World) (c : Cf) : (w.alloc (.cells (cfs c).toArray 37)).rangeAt w.heap.size 0 (cfs c) := range_cf (vat_list w (cfs c) 37 20 (ccell c) (cc_at c))
theorem range_below {w w' : World} {b : Nat} {cs : List Value} (h : w.rangeAt b 0 cs) (hb : Below w.heap.size w w') : w'.rangeAt b 0 cs := fun j v hv => up hb (h j v hv)
set_option maxRecDepth 100000 in
set_option maxHeartbeats 4000000 in
theorem same18 (c1 c2 : Cf) (a1 a2 : Option Addr) (n1 n2 cc1 cc2 : Nat) (S : ByteArray) (r : Int) (w : World)
    (K1 : ∀ W, Below w.heap.size w W → Calls Tryz.prog 13 #[cfv c1, .slice a1 n1 cc1] W fun e w' => e = .returned (.tuple #[.string S, .int .i64 r]) ∧ Below W.heap.size W w')
    (K2 : ∀ W, Below w.heap.size w W → Calls Tryz.prog 13 #[cfv c2, .slice a2 n2 cc2] W fun e w' => e = .returned (.tuple #[.string S, .int .i64 r]) ∧ Below W.heap.size W w') :
    Calls Tryz.prog 18 #[cfv c1, cfv c2, .slice a1 n1 cc1, .slice a2 n2 cc2] w fun e w' => e = .returned (.bool true) ∧ Below w.heap.size w w' := by
  have HK1 := Lib.hid K1
  have HK2 := Lib.hid K2
  have hb1 : Below w.heap.size w (w.alloc (.cells (cfs c1).toArray 37)) := (Below.refl _ _).alloc (Nat.le_refl _) _
  have hb2 : Below (w.alloc (.cells (cfs c1).toArray 37)).heap.size (w.alloc (.cells (cfs c1).toArray 37)) ((w.alloc (.cells (cfs c1).toArray 37)).alloc (.cells (cfs c2).toArray 37)) := (Below.refl _ _).alloc (Nat.le_refl _) _
  have HB := Lib.hid (bthen' hb1 hb2)
  have HR1 := Lib.hid (range_below (range_new w c1) hb2)
  have hr2 := range_new (w.alloc (.cells (cfs c1).toArray 37)) c2
  have hsz : (w.alloc (.cells (cfs c1).toArray 37)).heap.size = w.heap.size + 1 := by simp
  rw [hsz] at hr2
  have HR2 := Lib.hid hr2
  unfold cfv at HK1 HK2 ⊢
  clear K1 K2 hb1 hb2 hr2 hsz
  go_enter Tryz.func18, Tryz.ntmps18
  go_upto_region 1 with fail
  generalize (w.alloc (.cells (cfs c1).toArray 37)).alloc (.cells (cfs c2).toArray 37) = w1 at *
  go_wp2_with (first | (refine wpList_load_mid rfl 37 (.tmp 4) rfl w.heap.size 0 rfl (cfs c1) _ HR1.out Tryz.underlying37 rfl (by kernel_rfl) ?_) | (refine wpList_load_mid rfl 37 (.tmp 5) rfl (w.heap.size + 1) 0 rfl (cfs c2) _ HR2.out Tryz.underlying37 rfl (by kernel_rfl) ?_) | (go_at_call 13; refine (HK1.out _ HB.out).mono ?_; rintro e w2 ⟨rfl, hb⟩; refine Hid.out ?_))
  refine Lib.hid ?_
  have HB2 := Lib.hid (bthen' HB.out hb)
  have HR3 := Lib.hid (range_below HR2.out hb)
  clear hb HR1 HR2
  go_wp2_with (first | (refine wpList_load_mid rfl 37 (.tmp 5) rfl (w.heap.size + 1) 0 rfl (cfs c2) _ HR3.out Tryz.underlying37 rfl (by kernel_rfl) ?_) | (go_at_call 13; refine (HK2.out _ HB2.out).mono ?_; rintro e w3 ⟨rfl, hb3⟩))
  go_ret
  exact ⟨by simp, bthen' HB2.out hb3⟩
end Go.Proofs.YtgflfdnajchjaaaGreatDoor
/- Layer 45: where each line of a document stands among its lines. Nothing of the program is named here. -/
namespace Go.Proofs.YtgflfdnajchjaaaGreatDoor
set_option linter.unusedVariables false
set_option linter.unusedSimpArgs false
open Tm
/-- The lines of the first k terminals. -/
def tpos (T : Nat → Te) : Nat → Nat
  | 0 => 0
  | k + 1 => tpos T k + (1 + (T k).bn)
theorem tpos_mono (T : Nat → Te) {a b : Nat} (h : a ≤ b) : tpos T a ≤ tpos T b := by
  induction b with
  | zero => obtain rfl : a = 0 := by omega
            exact Nat.le_refl _
  | succ b ih =>
    by_cases e : a = b + 1
    · subst e; exact Nat.le_refl _
    · have := ih (by omega)
      show _ ≤ tpos T b + (1 + (T b).bn)
      omega
theorem getD_app_l {α : Type} {A B : List α} {k : Nat} {d : α} (h : k < A.length) : (A ++ B).getD k d = A.getD k d := by
  rw [List.getD_eq_getElem?_getD, List.getElem?_append_left h, ← List.getD_eq_getElem?_getD]
theorem getD_app_r {α : Type} {A B : List α} {k : Nat} {d : α} : (A ++ B).getD (A.length + k) d = B.getD k d := by
  rw [List.getD_eq_getElem?_getD, List.getElem?_append_right (by omega), ← List.getD_eq_getElem?_getD]
  congr 1
  omega
def flatT (T : Nat → Te) (n : Nat) : List (List UInt8) := ((List.range n).map fun k => teS (T k)).flatMap termS
theorem termS_len (t : Te) : (termS (teS t)).length = 1 + t.bn := by
  simp [termS, teS]
  omega
theorem flatT_succ (T : Nat → Te) (n : Nat) : flatT T (n + 1) = flatT T n ++ termS (teS (T n)) := by
  unfold flatT
  rw [List.range_succ, List.map_append, List.flatMap_append]
  simp
theorem flatT_len (T : Nat → Te) : ∀ n, (flatT T n).length = tpos T n
  | 0 => rfl
  | n + 1 => by rw [flatT_succ, List.length_append, flatT_len T n, termS_len]; rfl
theorem flatT_at (T : Nat → Te) {k j : Nat} (hj : j < 1 + (T k).bn) : ∀ {n : Nat}, k < n → (flatT T n).getD (tpos T k + j) [] = (termS (teS (T k))).getD j []
  | 0, h => absurd h (Nat.not_lt_zero _)
  | n + 1, h => by
    rw [flatT_succ]
    by_cases e : k = n
    · subst e
      rw [← flatT_len T k, getD_app_r]
    · have hk : k < n := by omega
      have hm := tpos_mono T (show k + 1 ≤ n from hk)
      have hm2 : tpos T (k + 1) = tpos T k + (1 + (T k).bn) := rfl
      rw [getD_app_l (by rw [flatT_len]; omega), flatT_at T hj hk]
/-- What stands at each place of the lines. -/
structure LinesOf (M : List (List UInt8)) (c : Cf) (X : Nat → Ch.Fd) (T : Nat → Te) (n : Nat) (Q : Nat → Tr) : Prop where
  len : M.length = 4 + c.fn + tpos T c.tn + n
  h0 : M.getD 0 [] = lineS wNetwork [c.h 0, c.h 1, c.h 2, c.h 3, c.h 4, c.h 5, c.h 6, c.h 7, c.h 8]
  h1 : M.getD 1 [] = lineS wPatience [c.h 9, c.h 10, c.h 11]
  h2 : M.getD 2 [] = lineS wRule [c.h 12, c.h 13, c.h 14]
  h3 : M.getD 3 [] = lineS wOuter [c.h 16, c.h 17]
  f : ∀ j, j < c.fn → M.getD (4 + j) [] = lineS wFade (fdL (X j))
  t : ∀ k, k < c.tn → M.getD (4 + c.fn + tpos T k) [] = lineS wTerminal (teL' (T k))
  b : ∀ k j, k < c.tn → j < (T k).bn → M.getD (4 + c.fn + tpos T k + 1 + j) [] = lineS wBearer (beL ((T k).be j) ((T k).P j) ((T k).R j) ((T k).M j) ((T k).T j))
  p : ∀ q, q < n → M.getD (4 + c.fn + tpos T c.tn + q) [] = pktS (trS (Q q))
theorem linesOf (c : Cf) (X : Nat → Ch.Fd) (T : Nat → Te) (n : Nat) (Q : Nat → Tr) : LinesOf (textS (docOf c X T n Q)) c X T n Q := by
  have e : textS (docOf c X T n Q) = (([lineS wNetwork [c.h 0, c.h 1, c.h 2, c.h 3, c.h 4, c.h 5, c.h 6, c.h 7, c.h 8], lineS wPatience [c.h 9, c.h 10, c.h 11], lineS wRule [c.h 12, c.h 13, c.h 14], lineS wOuter [c.h 16, c.h 17]] ++ ((List.range c.fn).map fun k => fdL (X k)).map (lineS wFade)) ++ flatT T c.tn) ++ ((List.range n).map fun k => trS (Q k)).map pktS := rfl
  rw [e]
  generalize hA : [lineS wNetwork [c.h 0, c.h 1, c.h 2, c.h 3, c.h 4, c.h 5, c.h 6, c.h 7, c.h 8], lineS wPatience [c.h 9, c.h 10, c.h 11], lineS wRule [c.h 12, c.h 13, c.h 14], lineS wOuter [c.h 16, c.h 17]] = A
  have lA : A.length = 4 := by rw [← hA]; rfl
  generalize hF : ((List.range c.fn).map fun k => fdL (X k)).map (lineS wFade) = F
  have lF : F.length = c.fn := by rw [← hF]; simp
  have lG := flatT_len T c.tn
  generalize hG : flatT T c.tn = G at lG ⊢
  generalize hP : ((List.range n).map fun k => trS (Q k)).map pktS = Pk
  have lP : Pk.length = n := by rw [← hP]; simp
  have first : ∀ k, k < 4 → (((A ++ F) ++ G) ++ Pk).getD k [] = A.getD k [] := fun k hk => by
    rw [getD_app_l (by simp only [List.length_append]; omega), getD_app_l (by simp only [List.length_append]; omega), getD_app_l (by omega)]
  have mid : ∀ k j, k < c.tn → j < 1 + (T k).bn → (((A ++ F) ++ G) ++ Pk).getD (4 + c.fn + (tpos T k + j)) [] = (termS (teS (T k))).getD j [] := fun k j hk hj => by
    have hm := tpos_mono T (show k + 1 ≤ c.tn from hk)
    have hm2 : tpos T (k + 1) = tpos T k + (1 + (T k).bn) := rfl
    rw [getD_app_l (by simp only [List.length_append]; omega)]
    rw [show 4 + c.fn = (A ++ F).length by simp [lA, lF], getD_app_r, ← hG]
    exact flatT_at T hj hk
  refine ⟨by simp only [List.length_append]; omega, ?_, ?_, ?_, ?_, fun j hj => ?_, fun k hk => ?_, fun k j hk hj => ?_, fun q hq => ?_⟩
  · rw [first 0 (by omega), ← hA]; rfl
  · rw [first 1 (by omega), ← hA]; rfl
  · rw [first 2 (by omega), ← hA]; rfl
  · rw [first 3 (by omega), ← hA]; rfl
  · rw [getD_app_l (by simp only [List.length_append]; omega), getD_app_l (by simp only [List.length_append]; omega), show 4 + j = A.length + j by omega, getD_app_r, ← hF, List.map_map, getD_map_range _ _ _ _ hj]
    rfl
  · have := mid k 0 hk (by omega)
    rw [Nat.add_zero] at this
    rw [this]
    rfl
  · have := mid k (1 + j) hk (by omega)
    rw [show 4 + c.fn + tpos T k + 1 + j = 4 + c.fn + (tpos T k + (1 + j)) by omega, this, Nat.add_comm 1 j]
    show ((teS (T k)).bs.map (lineS wBearer)).getD j [] = _
    unfold teS
    simp only
    rw [List.map_map, getD_map_range _ _ _ _ hj]
    rfl
  · rw [show 4 + c.fn + tpos T c.tn + q = ((A ++ F) ++ G).length + q by simp only [List.length_append]; omega, getD_app_r, ← hP, List.map_map, getD_map_range _ _ _ _ hq]
    rfl
end Go.Proofs.YtgflfdnajchjaaaGreatDoor
/- Layer 45: the numbers of a document can be written; rows of numbers. -/
namespace Go.Proofs.YtgflfdnajchjaaaGreatDoor
set_option linter.unusedVariables false
set_option linter.unusedSimpArgs false
open Go.RowKit Go.Sort
open Tm
def I64s (l : List Int) : Prop := ∀ k, k < l.length → -9223372036854775808 < l.getD k 0 ∧ l.getD k 0 ≤ 9223372036854775807
structure HeadN (c : Cf) : Prop where
  wNetwork : I64s [c.h 0, c.h 1, c.h 2, c.h 3, c.h 4, c.h 5, c.h 6, c.h 7, c.h 8]
  wPatience : I64s [c.h 9, c.h 10, c.h 11]
  wRule : I64s [c.h 12, c.h 13, c.h 14]
  wOuter : I64s [c.h 16, c.h 17]
/-- The numbers of a document can be written. -/
structure NumN (c : Cf) (X : Nat → Ch.Fd) (T : Nat → Te) (n : Nat) (Q : Nat → Tr) : Prop where
  h : HeadN c
  f : ∀ j, j < c.fn → I64s (fdL (X j))
  t : ∀ i, i < c.tn → I64s (teL' (T i))
  b : ∀ i j, i < c.tn → j < (T i).bn → I64s (beL ((T i).be j) ((T i).P j) ((T i).R j) ((T i).M j) ((T i).T j))
  p : ∀ k, k < n → I64s [(Q k).a, (Q k).t, (Q k).b, (Q k).d]
  z : ∀ k, k < n → (Q k).by'.length ≤ 1000000
  e : ∀ i, i < c.tn → (T i).kn = (T i).bn
theorem nums_of {w : World} {b : Nat} {cs : Array Value} {ns : List Int} (h : w.heap[b]? = some (.cells cs 3 (0, 0))) (e : cs = (ns.map (Value.int .i64)).toArray := by rfl) : NumsAt w b ns := fun k hk => cell_box h (by
  rw [e, List.getElem?_toArray, List.getElem?_map, List.getD_eq_getElem?_getD, List.getElem?_eq_getElem hk]
  rfl)
theorem strv_of {M : List (List UInt8)} {k : Nat} {l : List UInt8} (h : M.getD k [] = l) : strv M k = .string (bs l) := by unfold strv; rw [h]
theorem tpos_ge (T : Nat → Te) : ∀ n, n ≤ tpos T n
  | 0 => Nat.le_refl _
  | n + 1 => by have := tpos_ge T n; show n + 1 ≤ tpos T n + (1 + (T n).bn); omega
theorem I64s.weak {l : List Int} (h : I64s l) : ∀ k, k < l.length → I64 (l.getD k 0) := fun k hk => by have := h k hk; exact ⟨by omega, this.2⟩
end Go.Proofs.YtgflfdnajchjaaaGreatDoor
