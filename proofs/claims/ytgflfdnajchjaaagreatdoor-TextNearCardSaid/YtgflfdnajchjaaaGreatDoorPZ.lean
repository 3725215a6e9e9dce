import Derived.Test.YtgflfdnajchjaaaGreatDoorPY
set_option linter.unusedVariables false
set_option linter.unusedSimpArgs false
namespace Go.Proofs.YtgflfdnajchjaaaGreatDoor
open Go.Lib (hid)
open Go.RowKit
section
open Go.RowKit Go.Sort
open Tm
attribute [local go_sem] gcell bs_tl
theorem head_of {M : List (List UInt8)} {W : List UInt8} (hne : M ≠ []) (h : M.headD [] = W) : M.getD 0 [] = W ∧ 0 < M.length := by
 cases M with
 | nil => exact absurd rfl hne
 | cons a l => exact ⟨h, Nat.zero_lt_succ _⟩
set_option maxRecDepth 100000 in
set_option maxHeartbeats 8000000 in
theorem readN0 (s : ByteArray) (hs : s.size ≤ 900000) (w : World) (z : Nat) (hc : w.cell? ⟨z, 0, none⟩ = some (.int .i64 0)) (W : List UInt8) (hW : (spl 32 s.data.toList).headD [] = W) (e0 : (W == [110, 101, 116, 119, 111, 114, 107]) = false) :
 Calls Tryz.prog 39 #[.pointer (some ⟨z, 0, none⟩), .string s] w fun e w' => e = .returned (.bool false) ∧ Below w.heap.size w w' := by
 have KC := hid (cut38 s hs 32 w)
 have HW := hid (head_of (spl_ne 32 s.data.toList) hW)
 generalize spl 32 s.data.toList = M at *
 clear hW
 go_enter Tryz.func39, Tryz.ntmps39
 go_wp2_with (go_at_call 38; refine KC.out.mono ?_; rintro e w1 ⟨v, rfl, ho1, hb1⟩; obtain ⟨a1, c1, b1, rfl, hc1, hp1, hs1⟩ := ho1.slice; obtain ⟨e9, -, -⟩ := hp1 HW.out.2; subst e9; have hc2 := hs1 0 HW.out.2; rw [Nat.zero_add, HW.out.1] at hc2; have hc3 := up hb1 hc; have hl1 := HW.out.2; have HB1 := hid hb1; clear hb1 ho1 hs1 hp1 hc; refine Hid.out ?_)
 refine hid ?_
 go_wp2
 go_ret
 exact ⟨rfl, HB1.out⟩
set_option maxRecDepth 100000 in
set_option maxHeartbeats 8000000 in
theorem readN1 (s : ByteArray) (hs : s.size ≤ 900000) (w : World) (z : Nat) (hc : w.cell? ⟨z, 0, none⟩ = some (.int .i64 1)) (W : List UInt8) (hW : (spl 32 s.data.toList).headD [] = W) (e0 : (W == [112, 97, 116, 105, 101, 110, 99, 101]) = false) :
 Calls Tryz.prog 39 #[.pointer (some ⟨z, 0, none⟩), .string s] w fun e w' => e = .returned (.bool false) ∧ Below w.heap.size w w' := by
 have KC := hid (cut38 s hs 32 w)
 have HW := hid (head_of (spl_ne 32 s.data.toList) hW)
 generalize spl 32 s.data.toList = M at *
 clear hW
 go_enter Tryz.func39, Tryz.ntmps39
 go_wp2_with (go_at_call 38; refine KC.out.mono ?_; rintro e w1 ⟨v, rfl, ho1, hb1⟩; obtain ⟨a1, c1, b1, rfl, hc1, hp1, hs1⟩ := ho1.slice; obtain ⟨e9, -, -⟩ := hp1 HW.out.2; subst e9; have hc2 := hs1 0 HW.out.2; rw [Nat.zero_add, HW.out.1] at hc2; have hc3 := up hb1 hc; have hl1 := HW.out.2; have HB1 := hid hb1; clear hb1 ho1 hs1 hp1 hc; refine Hid.out ?_)
 refine hid ?_
 go_wp2
 go_ret
 exact ⟨rfl, HB1.out⟩
set_option maxRecDepth 100000 in
set_option maxHeartbeats 8000000 in
theorem readN2 (s : ByteArray) (hs : s.size ≤ 900000) (w : World) (z : Nat) (hc : w.cell? ⟨z, 0, none⟩ = some (.int .i64 2)) (W : List UInt8) (hW : (spl 32 s.data.toList).headD [] = W) (e0 : (W == [114, 117, 108, 101]) = false) :
 Calls Tryz.prog 39 #[.pointer (some ⟨z, 0, none⟩), .string s] w fun e w' => e = .returned (.bool false) ∧ Below w.heap.size w w' := by
 have KC := hid (cut38 s hs 32 w)
 have HW := hid (head_of (spl_ne 32 s.data.toList) hW)
 generalize spl 32 s.data.toList = M at *
 clear hW
 go_enter Tryz.func39, Tryz.ntmps39
 go_wp2_with (go_at_call 38; refine KC.out.mono ?_; rintro e w1 ⟨v, rfl, ho1, hb1⟩; obtain ⟨a1, c1, b1, rfl, hc1, hp1, hs1⟩ := ho1.slice; obtain ⟨e9, -, -⟩ := hp1 HW.out.2; subst e9; have hc2 := hs1 0 HW.out.2; rw [Nat.zero_add, HW.out.1] at hc2; have hc3 := up hb1 hc; have hl1 := HW.out.2; have HB1 := hid hb1; clear hb1 ho1 hs1 hp1 hc; refine Hid.out ?_)
 refine hid ?_
 go_wp2
 go_ret
 exact ⟨rfl, HB1.out⟩
set_option maxRecDepth 100000 in
set_option maxHeartbeats 8000000 in
theorem readN3 (s : ByteArray) (hs : s.size ≤ 900000) (w : World) (z : Nat) (hc : w.cell? ⟨z, 0, none⟩ = some (.int .i64 3)) (W : List UInt8) (hW : (spl 32 s.data.toList).headD [] = W) (e0 : (W == [111, 117, 116, 101, 114]) = false) :
 Calls Tryz.prog 39 #[.pointer (some ⟨z, 0, none⟩), .string s] w fun e w' => e = .returned (.bool false) ∧ Below w.heap.size w w' := by
 have KC := hid (cut38 s hs 32 w)
 have HW := hid (head_of (spl_ne 32 s.data.toList) hW)
 generalize spl 32 s.data.toList = M at *
 clear hW
 go_enter Tryz.func39, Tryz.ntmps39
 go_wp2_with (go_at_call 38; refine KC.out.mono ?_; rintro e w1 ⟨v, rfl, ho1, hb1⟩; obtain ⟨a1, c1, b1, rfl, hc1, hp1, hs1⟩ := ho1.slice; obtain ⟨e9, -, -⟩ := hp1 HW.out.2; subst e9; have hc2 := hs1 0 HW.out.2; rw [Nat.zero_add, HW.out.1] at hc2; have hc3 := up hb1 hc; have hl1 := HW.out.2; have HB1 := hid hb1; clear hb1 ho1 hs1 hp1 hc; refine Hid.out ?_)
 refine hid ?_
 go_wp2
 go_ret
 exact ⟨rfl, HB1.out⟩
set_option maxRecDepth 100000 in
set_option maxHeartbeats 8000000 in
theorem readN4 (s : ByteArray) (hs : s.size ≤ 900000) (w : World) (z : Nat) (hc : w.cell? ⟨z, 0, none⟩ = some (.int .i64 4)) (W : List UInt8) (hW : (spl 32 s.data.toList).headD [] = W) (e0 : (W == [102, 97, 100, 101]) = false) (e1 : (W == [116, 101, 114, 109, 105, 110, 97, 108]) = false) (e2 : (W == [112, 97, 99, 107, 101, 116]) = false) :
 Calls Tryz.prog 39 #[.pointer (some ⟨z, 0, none⟩), .string s] w fun e w' => e = .returned (.bool false) ∧ Below w.heap.size w w' := by
 have KC := hid (cut38 s hs 32 w)
 have HW := hid (head_of (spl_ne 32 s.data.toList) hW)
 generalize spl 32 s.data.toList = M at *
 clear hW
 go_enter Tryz.func39, Tryz.ntmps39
 go_wp2_with (go_at_call 38; refine KC.out.mono ?_; rintro e w1 ⟨v, rfl, ho1, hb1⟩; obtain ⟨a1, c1, b1, rfl, hc1, hp1, hs1⟩ := ho1.slice; obtain ⟨e9, -, -⟩ := hp1 HW.out.2; subst e9; have hc2 := hs1 0 HW.out.2; rw [Nat.zero_add, HW.out.1] at hc2; have hc3 := up hb1 hc; have hl1 := HW.out.2; have HB1 := hid hb1; clear hb1 ho1 hs1 hp1 hc; refine Hid.out ?_)
 refine hid ?_
 go_wp2
 go_ret
 exact ⟨rfl, HB1.out⟩
set_option maxRecDepth 100000 in
set_option maxHeartbeats 8000000 in
theorem readN5 (s : ByteArray) (hs : s.size ≤ 900000) (w : World) (z : Nat) (hc : w.cell? ⟨z, 0, none⟩ = some (.int .i64 5)) (W : List UInt8) (hW : (spl 32 s.data.toList).headD [] = W) (e0 : (W == [116, 101, 114, 109, 105, 110, 97, 108]) = false) (e1 : (W == [98, 101, 97, 114, 101, 114]) = false) (e2 : (W == [112, 97, 99, 107, 101, 116]) = false) :
 Calls Tryz.prog 39 #[.pointer (some ⟨z, 0, none⟩), .string s] w fun e w' => e = .returned (.bool false) ∧ Below w.heap.size w w' := by
 have KC := hid (cut38 s hs 32 w)
 have HW := hid (head_of (spl_ne 32 s.data.toList) hW)
 generalize spl 32 s.data.toList = M at *
 clear hW
 go_enter Tryz.func39, Tryz.ntmps39
 go_wp2_with (go_at_call 38; refine KC.out.mono ?_; rintro e w1 ⟨v, rfl, ho1, hb1⟩; obtain ⟨a1, c1, b1, rfl, hc1, hp1, hs1⟩ := ho1.slice; obtain ⟨e9, -, -⟩ := hp1 HW.out.2; subst e9; have hc2 := hs1 0 HW.out.2; rw [Nat.zero_add, HW.out.1] at hc2; have hc3 := up hb1 hc; have hl1 := HW.out.2; have HB1 := hid hb1; clear hb1 ho1 hs1 hp1 hc; refine Hid.out ?_)
 refine hid ?_
 go_wp2
 go_ret
 exact ⟨rfl, HB1.out⟩
set_option maxRecDepth 100000 in
set_option maxHeartbeats 8000000 in
theorem readN6 (s : ByteArray) (hs : s.size ≤ 900000) (w : World) (z : Nat) (hc : w.cell? ⟨z, 0, none⟩ = some (.int .i64 6)) (W : List UInt8) (hW : (spl 32 s.data.toList).headD [] = W) (e0 : (W == [112, 97, 99, 107, 101, 116]) = false) :
 Calls Tryz.prog 39 #[.pointer (some ⟨z, 0, none⟩), .string s] w fun e w' => e = .returned (.bool false) ∧ Below w.heap.size w w' := by
 have KC := hid (cut38 s hs 32 w)
 have HW := hid (head_of (spl_ne 32 s.data.toList) hW)
 generalize spl 32 s.data.toList = M at *
 clear hW
 go_enter Tryz.func39, Tryz.ntmps39
 go_wp2_with (go_at_call 38; refine KC.out.mono ?_; rintro e w1 ⟨v, rfl, ho1, hb1⟩; obtain ⟨a1, c1, b1, rfl, hc1, hp1, hs1⟩ := ho1.slice; obtain ⟨e9, -, -⟩ := hp1 HW.out.2; subst e9; have hc2 := hs1 0 HW.out.2; rw [Nat.zero_add, HW.out.1] at hc2; have hc3 := up hb1 hc; have hl1 := HW.out.2; have HB1 := hid hb1; clear hb1 ho1 hs1 hp1 hc; refine Hid.out ?_)
 refine hid ?_
 go_wp2
 go_ret
 exact ⟨rfl, HB1.out⟩
end
section
open Go.RowKit Go.Sort
open Tm
theorem DocR.addB2 {w : World} {B z : Nat} {p : Int} {c : Cf} {X : Nat → Ch.Fd} {T : Nat → Te} {lv : Value} {n : Nat} {Q : Nat → Tr} (D : DocR w B z p c X T lv n Q) {u : World} {k0 g : Nat} (hk0 : k0 + 1 = c.tn) (hta : c.ta = some ⟨g, 0, none⟩) {a1 : Option Addr} {c1 : Nat} {a2 : Option Addr} {c2 : Nat} {be : Nat → BeR} {P R M T2 : Nat → Int} {gcs : Array Value}
 (hgw : w.heap[g]? = some (.cells gcs 57 (0, 0))) (hgu : u.heap[g]? = some (.cells ((gcs.setIfInBounds (k0 * 14 + 2) (.slice a1 ((T k0).bn + 1) c1)).setIfInBounds (k0 * 14 + 3) (.slice a2 ((T k0).bn + 1) c2)) 57 (0, 0)))
 (hsz : w.heap.size ≤ u.heap.size) (hk : ∀ i, i < w.heap.size → (bV (T k0)).ownBlock ≠ some i → (kV (T k0)).ownBlock ≠ some i → i ≠ g → u.heap[i]? = w.heap[i]?)
 (hB : u.ownsRow B 71 11 (.slice a1 ((T k0).bn + 1) c1) ((T k0).bn + 1) ((List.range (((T k0).bn + 1) * 11)).map (bev' be)))
 (hK : u.ownsRow B 74 4 (.slice a2 ((T k0).bn + 1) c2) ((T k0).bn + 1) ((List.range (((T k0).bn + 1) * 4)).map (buv P R M T2)))
 (n1 : ∀ i, (Value.slice a1 ((T k0).bn + 1) c1).ownBlock = some i → (bV (T k0)).ownBlock = some i ∨ w.heap.size ≤ i) (n2 : ∀ i, (Value.slice a2 ((T k0).bn + 1) c2).ownBlock = some i → (kV (T k0)).ownBlock = some i ∨ w.heap.size ≤ i) :
 DocR u B z p c X (fun k => if k = k0 then teB (T k0) a1 c1 a2 c2 ((T k0).bn + 1) be P R M T2 else T k) lv n Q := by
 obtain ⟨u0, h1, h2, h3⟩ : ∃ u0 : World, (∀ i, i ≠ g → u0.heap[i]? = u.heap[i]?) ∧ u0.heap[g]? = some (.cells gcs 57 (0, 0)) ∧ u0.heap.size = u.heap.size :=
  ⟨{ u with heap := u.heap.setIfInBounds g (.cells gcs 57 (0, 0)) }, fun i hi => Array.getElem?_setIfInBounds_ne (fun e => hi e.symm), Array.getElem?_setIfInBounds_self_of_lt (heap_lt hgu), by simp⟩
 have DB := D.addB (u := u0) hk0 hta (a1 := a1) (c1 := c1) (a2 := a2) (c2 := c2) (be := be) (P := P) (R := R) (M := M) (T2 := T2) (by omega) (fun i hi q1 q2 => by
  by_cases e : i = g
  · subst e; rw [h2, hgw]
  · exact (h1 i e).trans (hk i hi q1 q2 e)) (own_kept hB fun i hi => h1 i (own_ne hB hgu (by decide) hi)) (own_kept hK fun i hi => h1 i (own_ne hK hgu (by decide) hi)) n1 n2
 refine DB.out fun i _ _ => ?_
 by_cases e : i = g
 · subst e
   rw [heap_set_same (heap_set_same h2 _) _, hgu]
 · rw [heap_set_other _ e, heap_set_other _ e, h1 i e]
end
end Go.Proofs.YtgflfdnajchjaaaGreatDoor
