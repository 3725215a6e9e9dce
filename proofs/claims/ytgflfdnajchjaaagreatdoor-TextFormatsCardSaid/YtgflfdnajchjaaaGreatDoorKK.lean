import Derived.Test.YtgflfdnajchjaaaGreatDoorJX
import Derived.Test.YtgflfdnajchjaaaGreatDoorJB
import Derived.Deep.WholeRow
/- Layer 45: the reference's lines of a document. -/
namespace Go.Proofs.YtgflfdnajchjaaaGreatDoor
set_option linter.unusedVariables false
set_option linter.unusedSimpArgs false
open Go.RowKit Go.Sort
open Tm
theorem own_four {w : World} {B b0 : Nat} {M : List (List UInt8)} {v0 v1 v2 v3 : Value} (h : w.heap[b0]? = some (.cells #[v0, v1, v2, v3] 9 (0, 0))) (hb : B ≤ b0) (h0 : strv M 0 = v0) (h1 : strv M 1 = v1) (h2 : strv M 2 = v2) (h3 : strv M 3 = v3) :
    w.ownsRow B 9 1 (.slice (some ⟨b0, 0, none⟩) 4 4) 4 ((List.range 4).map (strv M)) := by
  subst h0 h1 h2 h3
  exact ⟨by simp, .inr ⟨b0, 4, _, rfl, hb, h, Nat.le_refl _, by decide, rfl, rfl⟩⟩
theorem below_trans2 {w w1 w2 : World} {z : Nat} (h : Below z w w1) (k : Below w1.heap.size w1 w2) (hz : z ≤ w1.heap.size) : Below z w w2 := h.trans (k.mono hz)
set_option maxRecDepth 100000 in
set_option maxHeartbeats 16000000 in
theorem text24 (c : Cf) (X : Nat → Ch.Fd) (T : Nat → Te) (a : Option Addr) (n cc : Nat) (Q : Nat → Tr) (w : World) (H : CfIn w c X T) (HQ : TrR w a n Q) (hn : n ≤ maxLen) (hN : NumN c X T n Q) (hs : (textS (docOf c X T n Q)).length ≤ 1000000) :
    Calls Tryz.prog 24 #[cfv c, .slice a n cc] w fun e w' => ∃ v, e = .returned v ∧ OwnS w' w.heap.size v (textS (docOf c X T n Q)) ∧ Below w.heap.size w w' := by
  have hb0 : Below w.heap.size w (w.alloc (.cells (cfs c).toArray 37)) := (Below.refl _ _).alloc (Nat.le_refl _) _
  have hv0 := vat_list w (cfs c) 37 20 (ccell c) (cc_at c)
  have HM := Lib.hid (linesOf c X T n Q)
  generalize textS (docOf c X T n Q) = M at *
  unfold OwnS
  have hlen := HM.out.len
  have HML := Lib.hid hlen
  rw [hlen]
  rw [hlen] at hs
  have HML2 := Lib.hid hs
  clear hs hlen
  unfold cfv
  have HB := Lib.hid hb0
  have HR := Lib.hid (range_cf hv0)
  have HH := Lib.hid H
  have HHQ := Lib.hid HQ
  have HN := Lib.hid hN
  clear hb0 hv0 H HQ hN
  go_enter Tryz.func24, Tryz.ntmps24
  go_upto_region 1 with fail
  have HBz := Lib.hid (show w.heap.size ≤ (w.alloc (.cells (cfs c).toArray 37)).heap.size by simp)
  generalize w.alloc (.cells (cfs c).toArray 37) = w1 at *
  generalize hS : w.heap.size = z at *
  have HRX := Lib.hid (show ∀ k v, (cfs c)[k]? = some v → w1.cell? ⟨z, k, none⟩ = some v from fun k v hv => by
    have h1 := HR.out k v hv
    rwa [Nat.zero_add] at h1)
  have HBW := Lib.hid (show ∀ u, Below w1.heap.size w1 u → Below w.heap.size w u from fun u hb => by
    rw [hS]
    exact HB.out.trans (hb.mono HBz.out))
  have HZ := Lib.hid (show ∀ u, Below w1.heap.size w1 u → ∀ k, k < 18 → u.cell? ⟨z, k, none⟩ = some (.int .i64 (c.h k)) from fun u hb k hk => by
    have h1 := HR.out k (.int .i64 (c.h k)) (by
      have : k = 0 ∨ k = 1 ∨ k = 2 ∨ k = 3 ∨ k = 4 ∨ k = 5 ∨ k = 6 ∨ k = 7 ∨ k = 8 ∨ k = 9 ∨ k = 10 ∨ k = 11 ∨ k = 12 ∨ k = 13 ∨ k = 14 ∨ k = 15 ∨ k = 16 ∨ k = 17 := by omega
      rcases this with rfl | rfl | rfl | rfl | rfl | rfl | rfl | rfl | rfl | rfl | rfl | rfl | rfl | rfl | rfl | rfl | rfl | rfl <;> rfl)
    rw [Nat.zero_add] at h1
    exact up hb h1)
  refine wp_region_peelF 0 51 (fun i v u => match i with
    | 0 => v = .pointer (some ⟨z, 0, none⟩)
    | 1 => v = .int .i64 (c.h 0)
    | 2 => v = .pointer (some ⟨z, 1, none⟩)
    | 3 => v = .int .i64 (c.h 1)
    | 4 => v = .pointer (some ⟨z, 2, none⟩)
    | 5 => v = .int .i64 (c.h 2)
    | 6 => v = .pointer (some ⟨z, 3, none⟩)
    | 7 => v = .int .i64 (c.h 3)
    | 8 => v = .pointer (some ⟨z, 4, none⟩)
    | 9 => v = .int .i64 (c.h 4)
    | 10 => v = .pointer (some ⟨z, 5, none⟩)
    | 11 => v = .int .i64 (c.h 5)
    | 12 => v = .pointer (some ⟨z, 6, none⟩)
    | 13 => v = .int .i64 (c.h 6)
    | 14 => v = .pointer (some ⟨z, 7, none⟩)
    | 15 => v = .int .i64 (c.h 7)
    | 16 => v = .pointer (some ⟨z, 8, none⟩)
    | 17 => v = .int .i64 (c.h 8)
    | 18 => ∃ b0, v = .slice (some ⟨b0, 0, none⟩) 9 9 ∧ u.heap[b0]? = some (.cells #[.int .i64 (c.h 0), .int .i64 (c.h 1), .int .i64 (c.h 2), .int .i64 (c.h 3), .int .i64 (c.h 4), .int .i64 (c.h 5), .int .i64 (c.h 6), .int .i64 (c.h 7), .int .i64 (c.h 8)] 3 (0, 0))
    | 19 => v = .string (bs (lineS wNetwork [c.h 0, c.h 1, c.h 2, c.h 3, c.h 4, c.h 5, c.h 6, c.h 7, c.h 8]))
    | 20 => v = .pointer (some ⟨z, 9, none⟩)
    | 21 => v = .pointer (some ⟨z, 9, none⟩)
    | 22 => v = .int .i64 (c.h 9)
    | 23 => v = .pointer (some ⟨z, 9, none⟩)
    | 24 => v = .pointer (some ⟨z, 10, none⟩)
    | 25 => v = .int .i64 (c.h 10)
    | 26 => v = .pointer (some ⟨z, 9, none⟩)
    | 27 => v = .pointer (some ⟨z, 11, none⟩)
    | 28 => v = .int .i64 (c.h 11)
    | 29 => ∃ b0, v = .slice (some ⟨b0, 0, none⟩) 3 3 ∧ u.heap[b0]? = some (.cells #[.int .i64 (c.h 9), .int .i64 (c.h 10), .int .i64 (c.h 11)] 3 (0, 0))
    | 30 => v = .string (bs (lineS wPatience [c.h 9, c.h 10, c.h 11]))
    | 31 => v = .pointer (some ⟨z, 12, none⟩)
    | 32 => v = .pointer (some ⟨z, 12, none⟩)
    | 33 => v = .int .i64 (c.h 12)
    | 34 => v = .pointer (some ⟨z, 12, none⟩)
    | 35 => v = .pointer (some ⟨z, 13, none⟩)
    | 36 => v = .int .i64 (c.h 13)
    | 37 => v = .pointer (some ⟨z, 12, none⟩)
    | 38 => v = .pointer (some ⟨z, 14, none⟩)
    | 39 => v = .int .i64 (c.h 14)
    | 40 => ∃ b0, v = .slice (some ⟨b0, 0, none⟩) 3 3 ∧ u.heap[b0]? = some (.cells #[.int .i64 (c.h 12), .int .i64 (c.h 13), .int .i64 (c.h 14)] 3 (0, 0))
    | 41 => v = .string (bs (lineS wRule [c.h 12, c.h 13, c.h 14]))
    | 42 => v = .pointer (some ⟨z, 15, none⟩)
    | 43 => v = .pointer (some ⟨z, 16, none⟩)
    | 44 => v = .int .i64 (c.h 16)
    | 45 => v = .pointer (some ⟨z, 15, none⟩)
    | 46 => v = .pointer (some ⟨z, 17, none⟩)
    | 47 => v = .int .i64 (c.h 17)
    | 48 => ∃ b0, v = .slice (some ⟨b0, 0, none⟩) 2 2 ∧ u.heap[b0]? = some (.cells #[.int .i64 (c.h 16), .int .i64 (c.h 17)] 3 (0, 0))
    | 49 => v = .string (bs (lineS wOuter [c.h 16, c.h 17]))
    | 50 => ∃ b0, v = .slice (some ⟨b0, 0, none⟩) 4 4 ∧ w1.heap.size ≤ b0 ∧ u.heap[b0]? = some (.cells #[.string (bs (lineS wNetwork [c.h 0, c.h 1, c.h 2, c.h 3, c.h 4, c.h 5, c.h 6, c.h 7, c.h 8])), .string (bs (lineS wPatience [c.h 9, c.h 10, c.h 11])), .string (bs (lineS wRule [c.h 12, c.h 13, c.h 14])), .string (bs (lineS wOuter [c.h 16, c.h 17]))] 9 (0, 0))
    | _ => True) (by kernel_rfl) (by kernel_rfl) rfl (fun _ _ d _ _ h => by cases d <;> exact h) ?_ ?_ ?_
  · intro i v w1 w2 hb h
    match i with
    | 0 => exact h
    | 1 => exact h
    | 2 => exact h
    | 3 => exact h
    | 4 => exact h
    | 5 => exact h
    | 6 => exact h
    | 7 => exact h
    | 8 => exact h
    | 9 => exact h
    | 10 => exact h
    | 11 => exact h
    | 12 => exact h
    | 13 => exact h
    | 14 => exact h
    | 15 => exact h
    | 16 => exact h
    | 17 => exact h
    | 18 =>
      obtain ⟨b0, e1, e2⟩ := h
      exact ⟨b0, e1, (hb.block b0 (heap_lt e2)).trans e2⟩
    | 19 => exact h
    | 20 => exact h
    | 21 => exact h
    | 22 => exact h
    | 23 => exact h
    | 24 => exact h
    | 25 => exact h
    | 26 => exact h
    | 27 => exact h
    | 28 => exact h
    | 29 =>
      obtain ⟨b0, e1, e2⟩ := h
      exact ⟨b0, e1, (hb.block b0 (heap_lt e2)).trans e2⟩
    | 30 => exact h
    | 31 => exact h
    | 32 => exact h
    | 33 => exact h
    | 34 => exact h
    | 35 => exact h
    | 36 => exact h
    | 37 => exact h
    | 38 => exact h
    | 39 => exact h
    | 40 =>
      obtain ⟨b0, e1, e2⟩ := h
      exact ⟨b0, e1, (hb.block b0 (heap_lt e2)).trans e2⟩
    | 41 => exact h
    | 42 => exact h
    | 43 => exact h
    | 44 => exact h
    | 45 => exact h
    | 46 => exact h
    | 47 => exact h
    | 48 =>
      obtain ⟨b0, e1, e2⟩ := h
      exact ⟨b0, e1, (hb.block b0 (heap_lt e2)).trans e2⟩
    | 49 => exact h
    | 50 =>
      obtain ⟨b0, e1, e0, e2⟩ := h
      exact ⟨b0, e1, e0, (hb.block b0 (heap_lt e2)).trans e2⟩
    | k + 51 => exact h
  · intro i o hp hi ho vf u1 hb hd
    have hi' : i = 0 ∨ i = 1 ∨ i = 2 ∨ i = 3 ∨ i = 4 ∨ i = 5 ∨ i = 6 ∨ i = 7 ∨ i = 8 ∨ i = 9 ∨ i = 10 ∨ i = 11 ∨ i = 12 ∨ i = 13 ∨ i = 14 ∨ i = 15 ∨ i = 16 ∨ i = 17 ∨ i = 18 ∨ i = 19 ∨ i = 20 ∨ i = 21 ∨ i = 22 ∨ i = 23 ∨ i = 24 ∨ i = 25 ∨ i = 26 ∨ i = 27 ∨ i = 28 ∨ i = 29 ∨ i = 30 ∨ i = 31 ∨ i = 32 ∨ i = 33 ∨ i = 34 ∨ i = 35 ∨ i = 36 ∨ i = 37 ∨ i = 38 ∨ i = 39 ∨ i = 40 ∨ i = 41 ∨ i = 42 ∨ i = 43 ∨ i = 44 ∨ i = 45 ∨ i = 46 ∨ i = 47 ∨ i = 48 ∨ i = 49 ∨ i = 50 := by omega
    rcases hi' with rfl | rfl | rfl | rfl | rfl | rfl | rfl | rfl | rfl | rfl | rfl | rfl | rfl | rfl | rfl | rfl | rfl | rfl | rfl | rfl | rfl | rfl | rfl | rfl | rfl | rfl | rfl | rfl | rfl | rfl | rfl | rfl | rfl | rfl | rfl | rfl | rfl | rfl | rfl | rfl | rfl | rfl | rfl | rfl | rfl | rfl | rfl | rfl | rfl | rfl | rfl
    all_goals obtain rfl := Option.some.inj ho
    all_goals simp only [fillA, List.take_succ_cons, List.take_zero, List.drop_succ_cons, List.drop_zero, Nat.zero_add, Nat.reduceAdd]
    · clear hd
      go_wp2
      exact ⟨rfl, Below.refl _ _, rfl⟩
    · have f0 := hd 0 (by omega) (by omega) (by kernel_rfl)
      clear hd
      have hcc := HZ.out u1 hb 0 (by omega)
      go_wp2
      exact ⟨rfl, Below.refl _ _, rfl⟩
    · clear hd
      go_wp2
      exact ⟨rfl, Below.refl _ _, rfl⟩
    · have f2 := hd 2 (by omega) (by omega) (by kernel_rfl)
      clear hd
      have hcc := HZ.out u1 hb 1 (by omega)
      go_wp2
      exact ⟨rfl, Below.refl _ _, rfl⟩
    · clear hd
      go_wp2
      exact ⟨rfl, Below.refl _ _, rfl⟩
    · have f4 := hd 4 (by omega) (by omega) (by kernel_rfl)
      clear hd
      have hcc := HZ.out u1 hb 2 (by omega)
      go_wp2
      exact ⟨rfl, Below.refl _ _, rfl⟩
    · clear hd
      go_wp2
      exact ⟨rfl, Below.refl _ _, rfl⟩
    · have f6 := hd 6 (by omega) (by omega) (by kernel_rfl)
      clear hd
      have hcc := HZ.out u1 hb 3 (by omega)
      go_wp2
      exact ⟨rfl, Below.refl _ _, rfl⟩
    · clear hd
      go_wp2
      exact ⟨rfl, Below.refl _ _, rfl⟩
    · have f8 := hd 8 (by omega) (by omega) (by kernel_rfl)
      clear hd
      have hcc := HZ.out u1 hb 4 (by omega)
      go_wp2
      exact ⟨rfl, Below.refl _ _, rfl⟩
    · clear hd
      go_wp2
      exact ⟨rfl, Below.refl _ _, rfl⟩
    · have f10 := hd 10 (by omega) (by omega) (by kernel_rfl)
      clear hd
      have hcc := HZ.out u1 hb 5 (by omega)
      go_wp2
      exact ⟨rfl, Below.refl _ _, rfl⟩
    · clear hd
      go_wp2
      exact ⟨rfl, Below.refl _ _, rfl⟩
    · have f12 := hd 12 (by omega) (by omega) (by kernel_rfl)
      clear hd
      have hcc := HZ.out u1 hb 6 (by omega)
      go_wp2
      exact ⟨rfl, Below.refl _ _, rfl⟩
    · clear hd
      go_wp2
      exact ⟨rfl, Below.refl _ _, rfl⟩
    · have f14 := hd 14 (by omega) (by omega) (by kernel_rfl)
      clear hd
      have hcc := HZ.out u1 hb 7 (by omega)
      go_wp2
      exact ⟨rfl, Below.refl _ _, rfl⟩
    · clear hd
      go_wp2
      exact ⟨rfl, Below.refl _ _, rfl⟩
    · have f16 := hd 16 (by omega) (by omega) (by kernel_rfl)
      clear hd
      have hcc := HZ.out u1 hb 8 (by omega)
      go_wp2
      exact ⟨rfl, Below.refl _ _, rfl⟩
    · have f1 := hd 1 (by omega) (by omega) (by kernel_rfl)
      have f3 := hd 3 (by omega) (by omega) (by kernel_rfl)
      have f5 := hd 5 (by omega) (by omega) (by kernel_rfl)
      have f7 := hd 7 (by omega) (by omega) (by kernel_rfl)
      have f9 := hd 9 (by omega) (by omega) (by kernel_rfl)
      have f11 := hd 11 (by omega) (by omega) (by kernel_rfl)
      have f13 := hd 13 (by omega) (by omega) (by kernel_rfl)
      have f15 := hd 15 (by omega) (by omega) (by kernel_rfl)
      have f17 := hd 17 (by omega) (by omega) (by kernel_rfl)
      clear hd
      go_wp2
      exact ⟨rfl, (Below.refl _ _).alloc (Nat.le_refl _) _, _, rfl, (MapKept.heap_alloc u1 _).1⟩
    · obtain ⟨b0, f18, g18⟩ := hd 18 (by omega) (by omega) (by kernel_rfl)
      clear hd
      have KL := Lib.hid (line46 wNetwork (by decide) b0 [c.h 0, c.h 1, c.h 2, c.h 3, c.h 4, c.h 5, c.h 6, c.h 7, c.h 8] 9 u1 (nums_of g18) (fun k hk => HN.out.h.wNetwork k hk) (by simp))
      simp only [Act.put, List.setIfInBounds_toArray, List.set_cons_succ, List.set_cons_zero]
      generalize vf 18 = v18 at *
      subst f18
      go_wp2_with (go_at_call 46; refine KL.out.mono ?_; rintro e w3 ⟨rfl, hb3⟩)
      exact ⟨rfl, hb3, rfl⟩
    · clear hd
      go_wp2
      exact ⟨rfl, Below.refl _ _, rfl⟩
    · have f20 := hd 20 (by omega) (by omega) (by kernel_rfl)
      clear hd
      go_wp2
      exact ⟨rfl, Below.refl _ _, rfl⟩
    · have f21 := hd 21 (by omega) (by omega) (by kernel_rfl)
      clear hd
      have hcc := HZ.out u1 hb 9 (by omega)
      go_wp2
      exact ⟨rfl, Below.refl _ _, rfl⟩
    · clear hd
      go_wp2
      exact ⟨rfl, Below.refl _ _, rfl⟩
    · have f23 := hd 23 (by omega) (by omega) (by kernel_rfl)
      clear hd
      go_wp2
      exact ⟨rfl, Below.refl _ _, rfl⟩
    · have f24 := hd 24 (by omega) (by omega) (by kernel_rfl)
      clear hd
      have hcc := HZ.out u1 hb 10 (by omega)
      go_wp2
      exact ⟨rfl, Below.refl _ _, rfl⟩
    · clear hd
      go_wp2
      exact ⟨rfl, Below.refl _ _, rfl⟩
    · have f26 := hd 26 (by omega) (by omega) (by kernel_rfl)
      clear hd
      go_wp2
      exact ⟨rfl, Below.refl _ _, rfl⟩
    · have f27 := hd 27 (by omega) (by omega) (by kernel_rfl)
      clear hd
      have hcc := HZ.out u1 hb 11 (by omega)
      go_wp2
      exact ⟨rfl, Below.refl _ _, rfl⟩
    · have f22 := hd 22 (by omega) (by omega) (by kernel_rfl)
      have f25 := hd 25 (by omega) (by omega) (by kernel_rfl)
      have f28 := hd 28 (by omega) (by omega) (by kernel_rfl)
      clear hd
      go_wp2
      exact ⟨rfl, (Below.refl _ _).alloc (Nat.le_refl _) _, _, rfl, (MapKept.heap_alloc u1 _).1⟩
    · obtain ⟨b0, f29, g29⟩ := hd 29 (by omega) (by omega) (by kernel_rfl)
      clear hd
      have KL := Lib.hid (line46 wPatience (by decide) b0 [c.h 9, c.h 10, c.h 11] 3 u1 (nums_of g29) (fun k hk => HN.out.h.wPatience k hk) (by simp))
      simp only [Act.put, List.setIfInBounds_toArray, List.set_cons_succ, List.set_cons_zero]
      generalize vf 29 = v29 at *
      subst f29
      go_wp2_with (go_at_call 46; refine KL.out.mono ?_; rintro e w3 ⟨rfl, hb3⟩)
      exact ⟨rfl, hb3, rfl⟩
    · clear hd
      go_wp2
      exact ⟨rfl, Below.refl _ _, rfl⟩
    · have f31 := hd 31 (by omega) (by omega) (by kernel_rfl)
      clear hd
      go_wp2
      exact ⟨rfl, Below.refl _ _, rfl⟩
    · have f32 := hd 32 (by omega) (by omega) (by kernel_rfl)
      clear hd
      have hcc := HZ.out u1 hb 12 (by omega)
      go_wp2
      exact ⟨rfl, Below.refl _ _, rfl⟩
    · clear hd
      go_wp2
      exact ⟨rfl, Below.refl _ _, rfl⟩
    · have f34 := hd 34 (by omega) (by omega) (by kernel_rfl)
      clear hd
      go_wp2
      exact ⟨rfl, Below.refl _ _, rfl⟩
    · have f35 := hd 35 (by omega) (by omega) (by kernel_rfl)
      clear hd
      have hcc := HZ.out u1 hb 13 (by omega)
      go_wp2
      exact ⟨rfl, Below.refl _ _, rfl⟩
    · clear hd
      go_wp2
      exact ⟨rfl, Below.refl _ _, rfl⟩
    · have f37 := hd 37 (by omega) (by omega) (by kernel_rfl)
      clear hd
      go_wp2
      exact ⟨rfl, Below.refl _ _, rfl⟩
    · have f38 := hd 38 (by omega) (by omega) (by kernel_rfl)
      clear hd
      have hcc := HZ.out u1 hb 14 (by omega)
      go_wp2
      exact ⟨rfl, Below.refl _ _, rfl⟩
    · have f33 := hd 33 (by omega) (by omega) (by kernel_rfl)
      have f36 := hd 36 (by omega) (by omega) (by kernel_rfl)
      have f39 := hd 39 (by omega) (by omega) (by kernel_rfl)
      clear hd
      go_wp2
      exact ⟨rfl, (Below.refl _ _).alloc (Nat.le_refl _) _, _, rfl, (MapKept.heap_alloc u1 _).1⟩
    · obtain ⟨b0, f40, g40⟩ := hd 40 (by omega) (by omega) (by kernel_rfl)
      clear hd
      have KL := Lib.hid (line46 wRule (by decide) b0 [c.h 12, c.h 13, c.h 14] 3 u1 (nums_of g40) (fun k hk => HN.out.h.wRule k hk) (by simp))
      simp only [Act.put, List.setIfInBounds_toArray, List.set_cons_succ, List.set_cons_zero]
      generalize vf 40 = v40 at *
      subst f40
      go_wp2_with (go_at_call 46; refine KL.out.mono ?_; rintro e w3 ⟨rfl, hb3⟩)
      exact ⟨rfl, hb3, rfl⟩
    · clear hd
      go_wp2
      exact ⟨rfl, Below.refl _ _, rfl⟩
    · have f42 := hd 42 (by omega) (by omega) (by kernel_rfl)
      clear hd
      go_wp2
      exact ⟨rfl, Below.refl _ _, rfl⟩
    · have f43 := hd 43 (by omega) (by omega) (by kernel_rfl)
      clear hd
      have hcc := HZ.out u1 hb 16 (by omega)
      go_wp2
      exact ⟨rfl, Below.refl _ _, rfl⟩
    · clear hd
      go_wp2
      exact ⟨rfl, Below.refl _ _, rfl⟩
    · have f45 := hd 45 (by omega) (by omega) (by kernel_rfl)
      clear hd
      go_wp2
      exact ⟨rfl, Below.refl _ _, rfl⟩
    · have f46 := hd 46 (by omega) (by omega) (by kernel_rfl)
      clear hd
      have hcc := HZ.out u1 hb 17 (by omega)
      go_wp2
      exact ⟨rfl, Below.refl _ _, rfl⟩
    · have f44 := hd 44 (by omega) (by omega) (by kernel_rfl)
      have f47 := hd 47 (by omega) (by omega) (by kernel_rfl)
      clear hd
      go_wp2
      exact ⟨rfl, (Below.refl _ _).alloc (Nat.le_refl _) _, _, rfl, (MapKept.heap_alloc u1 _).1⟩
    · obtain ⟨b0, f48, g48⟩ := hd 48 (by omega) (by omega) (by kernel_rfl)
      clear hd
      have KL := Lib.hid (line46 wOuter (by decide) b0 [c.h 16, c.h 17] 2 u1 (nums_of g48) (fun k hk => HN.out.h.wOuter k hk) (by simp))
      simp only [Act.put, List.setIfInBounds_toArray, List.set_cons_succ, List.set_cons_zero]
      generalize vf 48 = v48 at *
      subst f48
      go_wp2_with (go_at_call 46; refine KL.out.mono ?_; rintro e w3 ⟨rfl, hb3⟩)
      exact ⟨rfl, hb3, rfl⟩
    · have f19 := hd 19 (by omega) (by omega) (by kernel_rfl)
      have f30 := hd 30 (by omega) (by omega) (by kernel_rfl)
      have f41 := hd 41 (by omega) (by omega) (by kernel_rfl)
      have f49 := hd 49 (by omega) (by omega) (by kernel_rfl)
      clear hd
      go_wp2
      exact ⟨rfl, (Below.refl _ _).alloc (Nat.le_refl _) _, _, rfl, hb.size, (MapKept.heap_alloc u1 _).1⟩
  · intro vf u1 hb hd
    obtain ⟨b0, f50, hb0, g50⟩ := hd 50 (by omega) (by omega)
    clear hd
    simp only [fillA, List.take_succ_cons, List.take_zero, List.drop_succ_cons, List.drop_zero, Nat.zero_add, Nat.reduceAdd, Act.put, List.setIfInBounds_toArray, List.set_cons_succ, List.set_cons_zero]
    generalize vf 50 = v50 at *
    subst f50
    have HO := Lib.hid (show u1.ownsRow w1.heap.size 9 1 (.slice (some ⟨b0, 0, none⟩) 4 4) 4 ((List.range 4).map (strv M)) from own_four g50 hb0 (strv_of HM.out.h0) (strv_of HM.out.h1) (strv_of HM.out.h2) (strv_of HM.out.h3))
    have HU := Lib.hid hb
    clear hb g50
    go_wp2
    go_loopw [5, 6] (fun r i wr => ∃ (j : Nat) (rv : Value), j ≤ c.fn ∧ rv = r ∧ i = .int .i64 j ∧ wr.ownsRow w1.heap.size 9 1 rv (4 + j) ((List.range (4 + j)).map (strv M)) ∧ Below w1.heap.size w1 wr) (fun _ i _ => c.fn - (intOf i).toNat)
    case atStart => exact ⟨0, _, Nat.zero_le _, rfl, rfl, HO.out, HU.out⟩
    case round =>
      obtain ⟨j, rv, hj, rfl, rfl, hown, hbr⟩ := hrel
      have HO2 := Lib.hid hown
      have HR2 := Lib.hid hbr
      have hc18 : wr.cell? ⟨z, 18, none⟩ = some (.slice c.fa c.fn c.fc) := up hbr (HRX.out 18 _ rfl)
      clear hown hbr
      by_cases hlt : j < c.fn
      · obtain ⟨b, m, h1, h2⟩ := HH.out.f.mono (HBW.out _ HR2.out)
        have hfa : c.fa = some ⟨b, m, none⟩ := h1 (by omega)
        obtain ⟨c0, c1, c2, c3, c4⟩ := h2 j hlt
        have HF2 := Lib.hid (strv_of (HM.out.f j hlt))
        have HF3 := Lib.hid (HN.out.f j hlt)
        have hML2 := HML2.out
        rw [hfa] at hc18
        clear h1 h2 hfa
        unfold fdL at HF2 HF3
        generalize (X j).t = x0 at *
        generalize (X j).c = x1 at *
        generalize (X j).f = x2 at *
        generalize (X j).g = x3 at *
        generalize (X j).n = x4 at *
        have hg3 : ((wr.alloc (.cells #[.int .i64 x0, .int .i64 x1, .int .i64 x2, .int .i64 x3, .int .i64 x4] 86)).alloc (.cells #[.int .i64 x0, .int .i64 x1, .int .i64 x2, .int .i64 x3, .int .i64 x4] 3)).heap[wr.heap.size + 1]? = some (.cells #[.int .i64 x0, .int .i64 x1, .int .i64 x2, .int .i64 x3, .int .i64 x4] 3 (0, 0)) := by
          have := (MapKept.heap_alloc (wr.alloc (.cells #[.int .i64 x0, .int .i64 x1, .int .i64 x2, .int .i64 x3, .int .i64 x4] 86)) (.cells #[.int .i64 x0, .int .i64 x1, .int .i64 x2, .int .i64 x3, .int .i64 x4] 3)).1
          simpa using this
        have KL := Lib.hid (line46 wFade (by decide) _ [x0, x1, x2, x3, x4] 5 _ (nums_of hg3) (fun k hk => HF3.out k hk) (by simp))
        have HBA := Lib.hid (show Below wr.heap.size wr ((wr.alloc (.cells #[.int .i64 x0, .int .i64 x1, .int .i64 x2, .int .i64 x3, .int .i64 x4] 86)).alloc (.cells #[.int .i64 x0, .int .i64 x1, .int .i64 x2, .int .i64 x3, .int .i64 x4] 3)) from ((Below.refl _ _).alloc (Nat.le_refl _) _).alloc (by simp) _)
        have hsA : ((wr.alloc (.cells #[.int .i64 x0, .int .i64 x1, .int .i64 x2, .int .i64 x3, .int .i64 x4] 86)).alloc (.cells #[.int .i64 x0, .int .i64 x1, .int .i64 x2, .int .i64 x3, .int .i64 x4] 3)).heap.size = wr.heap.size + 2 := by simp
        clear hg3
        go_wp2_with (go_at_call 46; refine KL.out.mono ?_; rintro e w5 ⟨rfl, hb5⟩; have HW5 := Lib.hid (bthen HBA.out hb5 (by omega)); have HO5 := Lib.hid (own_below HO2.out HW5.out); have HB5 := Lib.hid (HR2.out.trans (HW5.out.mono HR2.out.size)); clear hb5 hsA; refine Hid.out ?_)
        refine Lib.hid ?_
        go_wp2_with (at_builtin; refine wpList_append1 w5 w1 w1.heap.size rfl _ _ 77 rfl 9 (.string ⟨#[]⟩) 16 Tryz.underlying77 pz9 rfl (by decide) rv (4 + j) (strv M) rfl _ rfl HO5.out HB5.out HB5.out.size HF2.out.symm rfl (by omega) ?_; intro v6 w6 hown hB6 _ _ _; refine Hid.out ?_)
        refine Lib.hid ?_
        have HO6 := Lib.hid hown
        have HB6 := Lib.hid hB6
        clear hown hB6
        go_wp2
        go_roundw
        case rel => exact ⟨j + 1, _, by omega, rfl, by go_num, HO6.out, HB6.out⟩
        case measure => simp [intOf] <;> omega
      · obtain rfl : j = c.fn := by omega
        have HOF := Lib.hid (show wr.ownsRow w1.heap.size 9 1 rv (4 + c.fn + tpos T 0) ((List.range (4 + c.fn + tpos T 0)).map (strv M)) from HO2.out)
        clear HO2
        go_wp2
        clear hc18
        go_loopw [5, 8] (fun r i wr => ∃ (k : Nat) (rv : Value), k ≤ c.tn ∧ rv = r ∧ i = .int .i64 k ∧ wr.ownsRow w1.heap.size 9 1 rv (4 + c.fn + tpos T k) ((List.range (4 + c.fn + tpos T k)).map (strv M)) ∧ Below w1.heap.size w1 wr) (fun _ i _ => c.tn - (intOf i).toNat)
        case atStart => exact ⟨0, _, Nat.zero_le _, rfl, rfl, HOF.out, HR2.out⟩
        case round =>
          clear HOF HR2
          obtain ⟨k, rv2, hk, rfl, rfl, hown, hbr⟩ := hrel
          have HO2 := Lib.hid hown
          have HR2 := Lib.hid hbr
          have hc19 : wr.cell? ⟨z, 19, none⟩ = some (.slice c.ta c.tn c.tc) := up hbr (HRX.out 19 _ rfl)
          clear hown hbr
          by_cases hlt : k < c.tn
          · have hkb : k + 1 ≤ 1000000 := by have h5 := tpos_ge T c.tn; have h6 := HML2.out; omega
            obtain ⟨b, m, h1, h2⟩ := HH.out.t
            have hta : c.ta = some ⟨b, m, none⟩ := h1 (by omega)
            obtain ⟨hct, hti⟩ := h2 k hlt
            have HTI := Lib.hid hti
            have HRT := Lib.hid (range_te fun q hq => up (HBW.out _ HR2.out) (hct q hq))
            have HF2 := Lib.hid (strv_of (HM.out.t k hlt))
            have HFB := Lib.hid (fun j hj => strv_of (HM.out.b k j hlt hj))
            have HF3 := Lib.hid (HN.out.t k hlt)
            have HFB3 := Lib.hid (fun j hj => HN.out.b k j hlt hj)
            have HKN := Lib.hid (HN.out.e k hlt)
            have HTP := Lib.hid (show tpos T (k + 1) = tpos T k + (1 + (T k).bn) from rfl)
            have hbd : 4 + c.fn + tpos T k + 1 + (T k).bn ≤ 1000000 := by
              have h5 := tpos_mono T (show k + 1 ≤ c.tn from hlt)
              have h6 := HML2.out
              have h7 := HTP.out
              omega
            rw [hta] at hc19
            clear h1 h2 hct hti hta
            generalize T k = t at *
            unfold teL' at HF2 HF3
            have hst : (storeCells ⟨wr.heap.size, 0, none⟩ (tcs t) 0).run Tryz.prog (wr.alloc (.cells #[.int .i64 0, .int .i64 0, .slice none 0 0, .slice none 0 0, .int .i64 0, .int .i64 0, .int .i64 0, .int .i64 0, .int .i64 0, .int .i64 0, .int .i64 0, .int .i64 0, .int .i64 0, .int .i64 0] 57)) = .ok () (wr.alloc (.cells (tcs t).toArray 57)) := run_storeCells_new wr 57 _ (tcs t).toArray (by kernel_rfl) rfl (by kernel_rfl)
            go_upto_region 11 with (refine wpList_load_mid rfl 57 (.tmp 105) rfl b (m + k * 14) rfl (tcs t) _ HRT.out Tryz.underlying57 rfl (by kernel_rfl) ?_)
            clear hst hc19 HRT
            have HZ4 := Lib.hid (MapKept.heap_alloc wr (.cells (tcs t).toArray 57)).1
            have hb4 : Below wr.heap.size wr (wr.alloc (.cells (tcs t).toArray 57)) := (Below.refl _ _).alloc (Nat.le_refl _) _
            have HB4 := Lib.hid (bthen' HR2.out hb4)
            have HO4 := Lib.hid (own_below HO2.out hb4)
            clear hb4 HR2 HO2
            generalize wr.alloc (.cells (tcs t).toArray 57) = w4 at *
            generalize wr.heap.size = zt at *
            refine wp_region_boxes 0 7 (fun i v => match i with
              | 0 => v = .pointer (some ⟨zt, 4, none⟩)
              | 1 => v = .agg #[.int .i64 t.fr, .int .i64 t.wd, .int .i64 t.bk]
              | 2 => v = .pointer (some ⟨zt, 7, none⟩)
              | 3 => v = .agg #[.int .i64 t.cy, .int .i64 t.of', .int .i64 t.on', .int .i64 t.li, .int .i64 t.sh, .int .i64 t.ss]
              | _ => True) [⟨4, 6, 53, #[.int .i64 0, .int .i64 0, .int .i64 0], #[.int .i64 t.fr, .int .i64 t.wd, .int .i64 t.bk]⟩, ⟨5, 7, 55, #[.int .i64 0, .int .i64 0, .int .i64 0, .int .i64 0, .int .i64 0, .int .i64 0], #[.int .i64 t.cy, .int .i64 t.of', .int .i64 t.on', .int .i64 t.li, .int .i64 t.sh, .int .i64 t.ss]⟩] (by kernel_rfl) (by kernel_rfl) (by kernel_rfl) rfl (fun _ _ d _ _ h => by cases d <;> exact h) ?_ ?_ ?_ ?_ ?_
            · intro x hx
              simp only [List.mem_cons, List.not_mem_nil, or_false] at hx
              rcases hx with rfl | rfl <;> rfl
            · intro i o _ hi ho hni vf u hb hd
              have hni2 : i ∉ [4, 6, 5, 7] := hni
              simp only [List.mem_cons, List.not_mem_nil, or_false, not_or] at hni2
              have hi' : i = 0 ∨ i = 1 ∨ i = 2 ∨ i = 3 := by omega
              clear hni hni2
              rcases hi' with rfl | rfl | rfl | rfl
              · obtain rfl := Option.some.inj ho
                clear hd
                simp only [fillA, List.take_succ_cons, List.take_zero, List.drop_succ_cons, List.drop_zero, Nat.zero_add, Nat.reduceAdd]
                go_wp2
                exact ⟨rfl, rfl, rfl⟩
              · obtain rfl := Option.some.inj ho
                have f0 := hd 0 (by omega) (by omega) (by show (0 : Nat) ∉ [4, 6, 5, 7]; decide) (by kernel_rfl)
                clear hd
                have hzu : u.heap[zt]? = some (.cells (tcs t).toArray 57 (0, 0)) := (hb.block zt (heap_lt HZ4.out)).trans HZ4.out
                have hc4 := cell_box hzu (k := 4) (v := .int .i64 t.fr) rfl
                have hc5 := cell_box hzu (k := 5) (v := .int .i64 t.wd) rfl
                have hc6 := cell_box hzu (k := 6) (v := .int .i64 t.bk) rfl
                clear hzu
                simp only [fillA, List.take_succ_cons, List.take_zero, List.drop_succ_cons, List.drop_zero, Nat.zero_add, Nat.reduceAdd]
                go_wp2
                exact ⟨rfl, rfl, rfl⟩
              · obtain rfl := Option.some.inj ho
                clear hd
                simp only [fillA, List.take_succ_cons, List.take_zero, List.drop_succ_cons, List.drop_zero, Nat.zero_add, Nat.reduceAdd]
                go_wp2
                exact ⟨rfl, rfl, rfl⟩
              · obtain rfl := Option.some.inj ho
                have f2 := hd 2 (by omega) (by omega) (by show (2 : Nat) ∉ [4, 6, 5, 7]; decide) (by kernel_rfl)
                clear hd
                have hzu : u.heap[zt]? = some (.cells (tcs t).toArray 57 (0, 0)) := (hb.block zt (heap_lt HZ4.out)).trans HZ4.out
                have hc7 := cell_box hzu (k := 7) (v := .int .i64 t.cy) rfl
                have hc8 := cell_box hzu (k := 8) (v := .int .i64 t.of') rfl
                have hc9 := cell_box hzu (k := 9) (v := .int .i64 t.on') rfl
                have hc10 := cell_box hzu (k := 10) (v := .int .i64 t.li) rfl
                have hc11 := cell_box hzu (k := 11) (v := .int .i64 t.sh) rfl
                have hc12 := cell_box hzu (k := 12) (v := .int .i64 t.ss) rfl
                clear hzu
                simp only [fillA, List.take_succ_cons, List.take_zero, List.drop_succ_cons, List.drop_zero, Nat.zero_add, Nat.reduceAdd]
                go_wp2
                exact ⟨rfl, rfl, rfl⟩
            · intro x hx o ho vf u
              simp only [List.mem_cons, List.not_mem_nil, or_false] at hx
              rcases hx with rfl | rfl
              · obtain rfl := Option.some.inj ho
                simp only [fillA, List.take_succ_cons, List.take_zero, List.drop_succ_cons, List.drop_zero, Nat.zero_add, Nat.reduceAdd]
                go_wp2
                exact ⟨rfl, rfl, rfl⟩
              · obtain rfl := Option.some.inj ho
                simp only [fillA, List.take_succ_cons, List.take_zero, List.drop_succ_cons, List.drop_zero, Nat.zero_add, Nat.reduceAdd]
                go_wp2
                exact ⟨rfl, rfl, rfl⟩
            · intro x hx hlt o ho vf u g hb e1 ht hd
              simp only [List.mem_cons, List.not_mem_nil, or_false] at hx
              rcases hx with rfl | rfl
              · obtain rfl := Option.some.inj ho
                have fv := hd 1 (by omega) (by omega) (by show (1 : Nat) ∉ [4, 6, 5, 7]; decide) (by kernel_rfl)
                have ep : vf 4 = .pointer (some ⟨g, 0, none⟩) := e1
                have hq : vf 1 = .agg #[.int .i64 t.fr, .int .i64 t.wd, .int .i64 t.bk] := fv
                clear hd fv e1
                simp only [fillA, List.take_succ_cons, List.take_zero, List.drop_succ_cons, List.drop_zero, Nat.zero_add, Nat.reduceAdd, Act.put, List.setIfInBounds_toArray, List.set_cons_succ, List.set_cons_zero]
                generalize vf 4 = vp at *
                subst ep
                generalize vf 1 = vv at *
                subst hq
                refine wpList_store_mid rfl 53 (.tmp 10) (.tmp 108) rfl g 0 #[.int .i64 t.fr, .int .i64 t.wd, .int .i64 t.bk] rfl rfl ht (by kernel_rfl) (by kernel_rfl) ?_
                go_wp2
                exact ⟨rfl, rfl⟩
              · exact absurd hlt (by show ¬ (7 < 7); decide)
            · intro vf u hb hf hx hne
              obtain ⟨g4, e4, b4, h4⟩ := hx ⟨4, 6, 53, #[.int .i64 0, .int .i64 0, .int .i64 0], #[.int .i64 t.fr, .int .i64 t.wd, .int .i64 t.bk]⟩ (.head _)
              have ep4 : vf 4 = .pointer (some ⟨g4, 0, none⟩) := e4
              have hg4 : u.heap[g4]? = some (.cells #[.int .i64 t.fr, .int .i64 t.wd, .int .i64 t.bk] 53 (0, 0)) := h4
              clear e4 h4
              obtain ⟨g5, e5, b5, h5⟩ := hx ⟨5, 7, 55, #[.int .i64 0, .int .i64 0, .int .i64 0, .int .i64 0, .int .i64 0, .int .i64 0], #[.int .i64 t.cy, .int .i64 t.of', .int .i64 t.on', .int .i64 t.li, .int .i64 t.sh, .int .i64 t.ss]⟩ (.tail _ (.head _))
              have ep5 : vf 5 = .pointer (some ⟨g5, 0, none⟩) := e5
              have hg5 : u.heap[g5]? = some (.cells #[.int .i64 0, .int .i64 0, .int .i64 0, .int .i64 0, .int .i64 0, .int .i64 0] 55 (0, 0)) := h5
              clear e5 h5
              have n4_5 : g4 ≠ g5 := fun e => absurd (congrArg Bx.al (hne ⟨4, 6, 53, #[.int .i64 0, .int .i64 0, .int .i64 0], #[.int .i64 t.fr, .int .i64 t.wd, .int .i64 t.bk]⟩ (.head _) ⟨5, 7, 55, #[.int .i64 0, .int .i64 0, .int .i64 0, .int .i64 0, .int .i64 0, .int .i64 0], #[.int .i64 t.cy, .int .i64 t.of', .int .i64 t.on', .int .i64 t.li, .int .i64 t.sh, .int .i64 t.ss]⟩ (.tail _ (.head _)) (by show vf 4 = vf 5; rw [ep4, ep5, e]))) (by show ¬ ((4 : Nat) = 5); decide)
              clear hx hne
              have f3 : vf 3 = .agg #[.int .i64 t.cy, .int .i64 t.of', .int .i64 t.on', .int .i64 t.li, .int .i64 t.sh, .int .i64 t.ss] := hf 3 (by omega) (by omega) (by show (3 : Nat) ∉ [4, 6, 5, 7]; decide)
              clear hf
              simp only [fillA, List.take_succ_cons, List.take_zero, List.drop_succ_cons, List.drop_zero, Nat.zero_add, Nat.reduceAdd, Act.put, List.setIfInBounds_toArray, List.set_cons_succ, List.set_cons_zero]
              generalize vf 4 = v4 at *
              generalize vf 5 = v5 at *
              generalize vf 3 = v3 at *
              subst ep4 ep5 f3
              have ht5 : u.there g5 0 6 := bx_there hg5
              refine wpList_store_mid rfl 55 (.tmp 11) (.tmp 110) rfl g5 0 #[.int .i64 t.cy, .int .i64 t.of', .int .i64 t.on', .int .i64 t.li, .int .i64 t.sh, .int .i64 t.ss] rfl rfl ht5 (by kernel_rfl) (by kernel_rfl) ?_
              clear ht5
              have hbS : Below w4.heap.size w4 (u.setCells g5 0 (#[.int .i64 t.cy, .int .i64 t.of', .int .i64 t.on', .int .i64 t.li, .int .i64 t.sh, .int .i64 t.ss] : Array Value).toList) := hb.trans (bx_cells_base b5 _ _ _)
              have hzS : (u.setCells g5 0 (#[.int .i64 t.cy, .int .i64 t.of', .int .i64 t.on', .int .i64 t.li, .int .i64 t.sh, .int .i64 t.ss] : Array Value).toList).heap[zt]? = some (.cells (tcs t).toArray 57 (0, 0)) := (hbS.block zt (heap_lt HZ4.out)).trans HZ4.out
              have hgS : (u.setCells g5 0 (#[.int .i64 t.cy, .int .i64 t.of', .int .i64 t.on', .int .i64 t.li, .int .i64 t.sh, .int .i64 t.ss] : Array Value).toList).heap[g4]? = some (.cells #[.int .i64 t.fr, .int .i64 t.wd, .int .i64 t.bk] 53 (0, 0)) := (bx_cells_other n4_5 _ _).trans hg4
              have hrS : (u.setCells g5 0 (#[.int .i64 t.cy, .int .i64 t.of', .int .i64 t.on', .int .i64 t.li, .int .i64 t.sh, .int .i64 t.ss] : Array Value).toList).heap[g5]? = some (.cells #[.int .i64 t.cy, .int .i64 t.of', .int .i64 t.on', .int .i64 t.li, .int .i64 t.sh, .int .i64 t.ss] 55 (0, 0)) := by
                exact (bx_cells_same _ _ hg5).trans (congrArg (fun x => some (Obj.cells x 55 (0, 0))) (setFrom_all rfl))
              go_upto_region 12 with fail
              generalize u.setCells g5 0 (#[.int .i64 t.cy, .int .i64 t.of', .int .i64 t.on', .int .i64 t.li, .int .i64 t.sh, .int .i64 t.ss] : Array Value).toList = w6 at *
              clear hb hg4 hg5 b4 b5 n4_5
              have HB6 := Lib.hid (bthen' HB4.out hbS)
              have HO6 := Lib.hid (own_below HO4.out hbS)
              have HZ6 := Lib.hid hzS
              clear hbS HB4 HO4 HZ4
              have hc0 := cell_box hzS (k := 0) (v := .int .i64 t.cl) rfl
              have hc1 := cell_box hzS (k := 1) (v := .int .i64 t.cs) rfl
              have hc13 := cell_box hzS (k := 13) (v := .int .i64 t.bt) rfl
              have hg0 := cell_box hgS (k := 0) (v := .int .i64 t.fr) rfl
              have hg1 := cell_box hgS (k := 1) (v := .int .i64 t.wd) rfl
              have hg2 := cell_box hgS (k := 2) (v := .int .i64 t.bk) rfl
              have hr0 := cell_box hrS (k := 0) (v := .int .i64 t.cy) rfl
              have hr1 := cell_box hrS (k := 1) (v := .int .i64 t.of') rfl
              have hr2 := cell_box hrS (k := 2) (v := .int .i64 t.on') rfl
              have hr3 := cell_box hrS (k := 3) (v := .int .i64 t.li) rfl
              have hr4 := cell_box hrS (k := 4) (v := .int .i64 t.sh) rfl
              have hr5 := cell_box hrS (k := 5) (v := .int .i64 t.ss) rfl
              clear hzS hgS hrS
              have KL := Lib.hid (line46 wTerminal (by decide) w6.heap.size [t.cl, t.cs, t.bt, t.fr, t.wd, t.bk, t.cy, t.of', t.on', t.li, t.sh, t.ss] 12 (w6.alloc (.cells #[.int .i64 t.cl, .int .i64 t.cs, .int .i64 t.bt, .int .i64 t.fr, .int .i64 t.wd, .int .i64 t.bk, .int .i64 t.cy, .int .i64 t.of', .int .i64 t.on', .int .i64 t.li, .int .i64 t.sh, .int .i64 t.ss] 3)) (nums_of (MapKept.heap_alloc w6 _).1) (fun q hq => HF3.out q hq) (by simp))
              go_wp2_with (go_at_call 46; refine KL.out.mono ?_; rintro e w7 ⟨rfl, hb7⟩; have HW7 := Lib.hid (bthen ((Below.refl w6.heap.size w6).alloc (Nat.le_refl _) _) hb7 (by simp)); have HO7 := Lib.hid (own_below HO6.out HW7.out); have HB7 := Lib.hid (bthen' HB6.out HW7.out); have HZ7 := Lib.hid ((HW7.out.block zt (heap_lt HZ6.out)).trans HZ6.out); clear hb7 HW7 HO6 HB6 HZ6 KL hc0 hc1 hc13 hg0 hg1 hg2 hr0 hr1 hr2 hr3 hr4 hr5; refine Hid.out ?_)
              refine Lib.hid ?_
              go_wp2_with (at_builtin; refine wpList_append1 w7 w1 w1.heap.size rfl _ _ 77 rfl 9 (.string ⟨#[]⟩) 16 Tryz.underlying77 pz9 rfl (by decide) rv2 (4 + c.fn + tpos T k) (strv M) rfl _ rfl HO7.out HB7.out HB7.out.size HF2.out.symm rfl (by omega) ?_; intro v8 w8 hown8 hB8 hb8 hs8 hgr8; refine Hid.out ?_)
              refine Lib.hid ?_
              have HO8 := Lib.hid hown8
              have HB8 := Lib.hid hB8
              have HZ8 := Lib.hid ((hgr8.block zt (heap_lt HZ7.out) (fun h => own_ne HO7.out HZ7.out (by decide) h.symm rfl)).trans HZ7.out)
              clear hown8 hB8 hb8 hs8 hgr8 HO7 HB7 HZ7
              go_wp2
              go_loopw [5, 12] (fun r i wr => ∃ (j : Nat) (rv3 : Value), j ≤ t.bn ∧ rv3 = r ∧ i = .int .i64 j ∧ wr.ownsRow w1.heap.size 9 1 rv3 (4 + c.fn + tpos T k + 1 + j) ((List.range (4 + c.fn + tpos T k + 1 + j)).map (strv M)) ∧ Below w1.heap.size w1 wr ∧ wr.heap[zt]? = some (.cells (tcs t).toArray 57 (0, 0))) (fun _ i _ => t.bn - (intOf i).toNat)
              case atStart => exact ⟨0, _, Nat.zero_le _, rfl, rfl, HO8.out, HB8.out, HZ8.out⟩
              case round =>
                clear HO8 HB8 HZ8
                obtain ⟨j, rv3, hj, rfl, rfl, hown, hbr, hzx⟩ := hrel
                have HOX := Lib.hid hown
                have HRX2 := Lib.hid hbr
                have HZX := Lib.hid hzx
                have hc2 := cell_box hzx (k := 2) (v := .slice t.ba t.bn t.bc) rfl
                clear hown hbr hzx
                by_cases hlt2 : j < t.bn
                · obtain ⟨b', m', h1, h2⟩ := HTI.out.b.mono (HBW.out _ HRX2.out)
                  have HBA := Lib.hid (h1 (by omega))
                  have HCB := Lib.hid (fun (u : World) (hb : Below wr.heap.size wr u) => (show u.cell? ⟨b', m' + j * 11, none⟩ = some (.int .i64 (t.be j).mo) ∧ u.cell? ⟨b', m' + j * 11 + 1, none⟩ = some (.int .i64 (t.be j).co) ∧ u.cell? ⟨b', m' + j * 11 + 2, none⟩ = some (.int .i64 (t.be j).wi) ∧ u.cell? ⟨b', m' + j * 11 + 3, none⟩ = some (.int .i64 (t.be j).bi) ∧ u.cell? ⟨b', m' + j * 11 + 4, none⟩ = some (.int .i64 (t.be j).wa) ∧ u.cell? ⟨b', m' + j * 11 + 5, none⟩ = some (.int .i64 (t.be j).b) ∧ u.cell? ⟨b', m' + j * 11 + 6, none⟩ = some (.int .i64 (t.be j).e) ∧ u.cell? ⟨b', m' + j * 11 + 7, none⟩ = some (.int .i64 (t.be j).p) ∧ u.cell? ⟨b', m' + j * 11 + 8, none⟩ = some (.int .i64 (t.be j).v) ∧ u.cell? ⟨b', m' + j * 11 + 9, none⟩ = some (.int .i64 (t.be j).q) ∧ u.cell? ⟨b', m' + j * 11 + 10, none⟩ = some (.int .i64 (t.be j).t) from by
                    obtain ⟨q0, q1, q2, q3, q4, q5, q6, q7, q8, q9, q10⟩ := h2 j hlt2
                    exact ⟨up hb q0, up hb q1, up hb q2, up hb q3, up hb q4, up hb q5, up hb q6, up hb q7, up hb q8, up hb q9, up hb q10⟩))
                  have HF2 := Lib.hid (HFB.out j hlt2)
                  have HF3 := Lib.hid (HFB3.out j hlt2)
                  unfold beL at HF2 HF3
                  rw [HBA.out] at hc2
                  clear h1 h2
                  go_upto_region 16 with fail
                  clear hc2
                  refine wp_region_boxes 0 17 (fun i v => match i with
                    | 0 => v = .pointer (some ⟨zt, 2, none⟩)
                    | 1 => v = .slice (some ⟨b', m', none⟩) t.bn t.bc
                    | 2 => v = .int .i64 j
                    | 3 => v = .pointer (some ⟨b', m' + j * 11, none⟩)
                    | 4 => v = .agg #[.int .i64 ((t.be j).mo), .int .i64 ((t.be j).co), .int .i64 ((t.be j).wi), .int .i64 ((t.be j).bi), .int .i64 ((t.be j).wa), .int .i64 ((t.be j).b), .int .i64 ((t.be j).e), .int .i64 ((t.be j).p), .int .i64 ((t.be j).v), .int .i64 ((t.be j).q), .int .i64 ((t.be j).t)]
                    | 5 => v = .pointer (some ⟨zt, 2, none⟩)
                    | 6 => v = .slice (some ⟨b', m', none⟩) t.bn t.bc
                    | 7 => v = .int .i64 j
                    | 8 => v = .pointer (some ⟨b', m' + j * 11, none⟩)
                    | 9 => v = .pointer (some ⟨b', m' + j * 11 + 5, none⟩)
                    | 10 => v = .agg #[.int .i64 ((t.be j).b), .int .i64 ((t.be j).e), .int .i64 ((t.be j).p), .int .i64 ((t.be j).v), .int .i64 ((t.be j).q), .int .i64 ((t.be j).t)]
                    | 11 => v = .agg #[.int .i64 0, .int .i64 0, .int .i64 0, .int .i64 0]
                    | _ => True) [⟨12, 15, 71, #[.int .i64 0, .int .i64 0, .int .i64 0, .int .i64 0, .int .i64 0, .int .i64 0, .int .i64 0, .int .i64 0, .int .i64 0, .int .i64 0, .int .i64 0], #[.int .i64 ((t.be j).mo), .int .i64 ((t.be j).co), .int .i64 ((t.be j).wi), .int .i64 ((t.be j).bi), .int .i64 ((t.be j).wa), .int .i64 ((t.be j).b), .int .i64 ((t.be j).e), .int .i64 ((t.be j).p), .int .i64 ((t.be j).v), .int .i64 ((t.be j).q), .int .i64 ((t.be j).t)]⟩, ⟨13, 16, 69, #[.int .i64 0, .int .i64 0, .int .i64 0, .int .i64 0, .int .i64 0, .int .i64 0], #[.int .i64 ((t.be j).b), .int .i64 ((t.be j).e), .int .i64 ((t.be j).p), .int .i64 ((t.be j).v), .int .i64 ((t.be j).q), .int .i64 ((t.be j).t)]⟩, ⟨14, 17, 74, #[.int .i64 0, .int .i64 0, .int .i64 0, .int .i64 0], #[.int .i64 0, .int .i64 0, .int .i64 0, .int .i64 0]⟩] (by kernel_rfl) (by kernel_rfl) (by kernel_rfl) rfl (fun _ _ d _ _ h => by cases d <;> exact h) ?_ ?_ ?_ ?_ ?_
                  · intro x hx
                    simp only [List.mem_cons, List.not_mem_nil, or_false] at hx
                    rcases hx with rfl | rfl | rfl <;> rfl
                  · intro i o _ hi ho hni vf u hb hd
                    have hni2 : i ∉ [12, 15, 13, 16, 14, 17] := hni
                    simp only [List.mem_cons, List.not_mem_nil, or_false, not_or] at hni2
                    have hi' : i = 0 ∨ i = 1 ∨ i = 2 ∨ i = 3 ∨ i = 4 ∨ i = 5 ∨ i = 6 ∨ i = 7 ∨ i = 8 ∨ i = 9 ∨ i = 10 ∨ i = 11 := by omega
                    clear hni hni2
                    rcases hi' with rfl | rfl | rfl | rfl | rfl | rfl | rfl | rfl | rfl | rfl | rfl | rfl
                    · obtain rfl := Option.some.inj ho
                      clear hd
                      simp only [fillA, List.take_succ_cons, List.take_zero, List.drop_succ_cons, List.drop_zero, Nat.zero_add, Nat.reduceAdd]
                      go_wp2
                      exact ⟨rfl, rfl, rfl⟩
                    · obtain rfl := Option.some.inj ho
                      have f0 := hd 0 (by omega) (by omega) (by show (0 : Nat) ∉ [12, 15, 13, 16, 14, 17]; decide) (by kernel_rfl)
                      clear hd
                      have hzu : u.heap[zt]? = some (.cells (tcs t).toArray 57 (0, 0)) := (hb.block zt (heap_lt HZX.out)).trans HZX.out
                      have hc2 := cell_box hzu (k := 2) (v := .slice t.ba t.bn t.bc) rfl
                      clear hzu
                      rw [HBA.out] at hc2
                      simp only [fillA, List.take_succ_cons, List.take_zero, List.drop_succ_cons, List.drop_zero, Nat.zero_add, Nat.reduceAdd]
                      go_wp2
                      exact ⟨rfl, rfl, rfl⟩
                    · obtain rfl := Option.some.inj ho
                      clear hd
                      simp only [fillA, List.take_succ_cons, List.take_zero, List.drop_succ_cons, List.drop_zero, Nat.zero_add, Nat.reduceAdd]
                      go_wp2
                      exact ⟨rfl, rfl, rfl⟩
                    · obtain rfl := Option.some.inj ho
                      have f1 := hd 1 (by omega) (by omega) (by show (1 : Nat) ∉ [12, 15, 13, 16, 14, 17]; decide) (by kernel_rfl)
                      have f2 := hd 2 (by omega) (by omega) (by show (2 : Nat) ∉ [12, 15, 13, 16, 14, 17]; decide) (by kernel_rfl)
                      clear hd
                      simp only [fillA, List.take_succ_cons, List.take_zero, List.drop_succ_cons, List.drop_zero, Nat.zero_add, Nat.reduceAdd]
                      go_wp2
                      exact ⟨rfl, rfl, rfl⟩
                    · obtain rfl := Option.some.inj ho
                      have f3 := hd 3 (by omega) (by omega) (by show (3 : Nat) ∉ [12, 15, 13, 16, 14, 17]; decide) (by kernel_rfl)
                      clear hd
                      have hcb := HCB.out u hb
                      obtain ⟨q0, q1, q2, q3, q4, q5, q6, q7, q8, q9, q10⟩ := hcb
                      simp only [fillA, List.take_succ_cons, List.take_zero, List.drop_succ_cons, List.drop_zero, Nat.zero_add, Nat.reduceAdd]
                      go_wp2
                      exact ⟨rfl, rfl, rfl⟩
                    · obtain rfl := Option.some.inj ho
                      clear hd
                      simp only [fillA, List.take_succ_cons, List.take_zero, List.drop_succ_cons, List.drop_zero, Nat.zero_add, Nat.reduceAdd]
                      go_wp2
                      exact ⟨rfl, rfl, rfl⟩
                    · obtain rfl := Option.some.inj ho
                      have f5 := hd 5 (by omega) (by omega) (by show (5 : Nat) ∉ [12, 15, 13, 16, 14, 17]; decide) (by kernel_rfl)
                      clear hd
                      have hzu : u.heap[zt]? = some (.cells (tcs t).toArray 57 (0, 0)) := (hb.block zt (heap_lt HZX.out)).trans HZX.out
                      have hc2 := cell_box hzu (k := 2) (v := .slice t.ba t.bn t.bc) rfl
                      clear hzu
                      rw [HBA.out] at hc2
                      simp only [fillA, List.take_succ_cons, List.take_zero, List.drop_succ_cons, List.drop_zero, Nat.zero_add, Nat.reduceAdd]
                      go_wp2
                      exact ⟨rfl, rfl, rfl⟩
                    · obtain rfl := Option.some.inj ho
                      clear hd
                      simp only [fillA, List.take_succ_cons, List.take_zero, List.drop_succ_cons, List.drop_zero, Nat.zero_add, Nat.reduceAdd]
                      go_wp2
                      exact ⟨rfl, rfl, rfl⟩
                    · obtain rfl := Option.some.inj ho
                      have f6 := hd 6 (by omega) (by omega) (by show (6 : Nat) ∉ [12, 15, 13, 16, 14, 17]; decide) (by kernel_rfl)
                      have f7 := hd 7 (by omega) (by omega) (by show (7 : Nat) ∉ [12, 15, 13, 16, 14, 17]; decide) (by kernel_rfl)
                      clear hd
                      simp only [fillA, List.take_succ_cons, List.take_zero, List.drop_succ_cons, List.drop_zero, Nat.zero_add, Nat.reduceAdd]
                      go_wp2
                      exact ⟨rfl, rfl, rfl⟩
                    · obtain rfl := Option.some.inj ho
                      have f8 := hd 8 (by omega) (by omega) (by show (8 : Nat) ∉ [12, 15, 13, 16, 14, 17]; decide) (by kernel_rfl)
                      clear hd
                      simp only [fillA, List.take_succ_cons, List.take_zero, List.drop_succ_cons, List.drop_zero, Nat.zero_add, Nat.reduceAdd]
                      go_wp2
                      exact ⟨rfl, rfl, rfl⟩
                    · obtain rfl := Option.some.inj ho
                      have f9 := hd 9 (by omega) (by omega) (by show (9 : Nat) ∉ [12, 15, 13, 16, 14, 17]; decide) (by kernel_rfl)
                      clear hd
                      have hcb := HCB.out u hb
                      obtain ⟨q0, q1, q2, q3, q4, q5, q6, q7, q8, q9, q10⟩ := hcb
                      simp only [fillA, List.take_succ_cons, List.take_zero, List.drop_succ_cons, List.drop_zero, Nat.zero_add, Nat.reduceAdd]
                      go_wp2
                      exact ⟨rfl, rfl, rfl⟩
                    · obtain rfl := Option.some.inj ho
                      clear hd
                      simp only [fillA, List.take_succ_cons, List.take_zero, List.drop_succ_cons, List.drop_zero, Nat.zero_add, Nat.reduceAdd]
                      go_wp2
                      exact ⟨rfl, rfl, rfl⟩
                  · intro x hx o ho vf u
                    simp only [List.mem_cons, List.not_mem_nil, or_false] at hx
                    rcases hx with rfl | rfl | rfl
                    · obtain rfl := Option.some.inj ho
                      simp only [fillA, List.take_succ_cons, List.take_zero, List.drop_succ_cons, List.drop_zero, Nat.zero_add, Nat.reduceAdd]
                      go_wp2
                      exact ⟨rfl, rfl, rfl⟩
                    · obtain rfl := Option.some.inj ho
                      simp only [fillA, List.take_succ_cons, List.take_zero, List.drop_succ_cons, List.drop_zero, Nat.zero_add, Nat.reduceAdd]
                      go_wp2
                      exact ⟨rfl, rfl, rfl⟩
                    · obtain rfl := Option.some.inj ho
                      simp only [fillA, List.take_succ_cons, List.take_zero, List.drop_succ_cons, List.drop_zero, Nat.zero_add, Nat.reduceAdd]
                      go_wp2
                      exact ⟨rfl, rfl, rfl⟩
                  · intro x hx hlt o ho vf u g hb e1 ht hd
                    simp only [List.mem_cons, List.not_mem_nil, or_false] at hx
                    rcases hx with rfl | rfl | rfl
                    · obtain rfl := Option.some.inj ho
                      have fv := hd 4 (by omega) (by omega) (by show (4 : Nat) ∉ [12, 15, 13, 16, 14, 17]; decide) (by kernel_rfl)
                      have ep : vf 12 = .pointer (some ⟨g, 0, none⟩) := e1
                      have hq : vf 4 = .agg #[.int .i64 ((t.be j).mo), .int .i64 ((t.be j).co), .int .i64 ((t.be j).wi), .int .i64 ((t.be j).bi), .int .i64 ((t.be j).wa), .int .i64 ((t.be j).b), .int .i64 ((t.be j).e), .int .i64 ((t.be j).p), .int .i64 ((t.be j).v), .int .i64 ((t.be j).q), .int .i64 ((t.be j).t)] := fv
                      clear hd fv e1
                      simp only [fillA, List.take_succ_cons, List.take_zero, List.drop_succ_cons, List.drop_zero, Nat.zero_add, Nat.reduceAdd, Act.put, List.setIfInBounds_toArray, List.set_cons_succ, List.set_cons_zero]
                      generalize vf 12 = vp at *
                      subst ep
                      generalize vf 4 = vv at *
                      subst hq
                      refine wpList_store_mid rfl 71 (.tmp 13) (.tmp 151) rfl g 0 #[.int .i64 ((t.be j).mo), .int .i64 ((t.be j).co), .int .i64 ((t.be j).wi), .int .i64 ((t.be j).bi), .int .i64 ((t.be j).wa), .int .i64 ((t.be j).b), .int .i64 ((t.be j).e), .int .i64 ((t.be j).p), .int .i64 ((t.be j).v), .int .i64 ((t.be j).q), .int .i64 ((t.be j).t)] rfl rfl ht (by kernel_rfl) (by kernel_rfl) ?_
                      go_wp2
                      exact ⟨rfl, rfl⟩
                    · obtain rfl := Option.some.inj ho
                      have fv := hd 10 (by omega) (by omega) (by show (10 : Nat) ∉ [12, 15, 13, 16, 14, 17]; decide) (by kernel_rfl)
                      have ep : vf 13 = .pointer (some ⟨g, 0, none⟩) := e1
                      have hq : vf 10 = .agg #[.int .i64 ((t.be j).b), .int .i64 ((t.be j).e), .int .i64 ((t.be j).p), .int .i64 ((t.be j).v), .int .i64 ((t.be j).q), .int .i64 ((t.be j).t)] := fv
                      clear hd fv e1
                      simp only [fillA, List.take_succ_cons, List.take_zero, List.drop_succ_cons, List.drop_zero, Nat.zero_add, Nat.reduceAdd, Act.put, List.setIfInBounds_toArray, List.set_cons_succ, List.set_cons_zero]
                      generalize vf 13 = vp at *
                      subst ep
                      generalize vf 10 = vv at *
                      subst hq
                      refine wpList_store_mid rfl 69 (.tmp 14) (.tmp 157) rfl g 0 #[.int .i64 ((t.be j).b), .int .i64 ((t.be j).e), .int .i64 ((t.be j).p), .int .i64 ((t.be j).v), .int .i64 ((t.be j).q), .int .i64 ((t.be j).t)] rfl rfl ht (by kernel_rfl) (by kernel_rfl) ?_
                      go_wp2
                      exact ⟨rfl, rfl⟩
                    · exact absurd hlt (by show ¬ (17 < 17); decide)
                  · intro vf u hb hf hx hne
                    obtain ⟨g12, e12, b12, h12⟩ := hx ⟨12, 15, 71, #[.int .i64 0, .int .i64 0, .int .i64 0, .int .i64 0, .int .i64 0, .int .i64 0, .int .i64 0, .int .i64 0, .int .i64 0, .int .i64 0, .int .i64 0], #[.int .i64 ((t.be j).mo), .int .i64 ((t.be j).co), .int .i64 ((t.be j).wi), .int .i64 ((t.be j).bi), .int .i64 ((t.be j).wa), .int .i64 ((t.be j).b), .int .i64 ((t.be j).e), .int .i64 ((t.be j).p), .int .i64 ((t.be j).v), .int .i64 ((t.be j).q), .int .i64 ((t.be j).t)]⟩ (.head _)
                    have ep12 : vf 12 = .pointer (some ⟨g12, 0, none⟩) := e12
                    have hg12 : u.heap[g12]? = some (.cells #[.int .i64 ((t.be j).mo), .int .i64 ((t.be j).co), .int .i64 ((t.be j).wi), .int .i64 ((t.be j).bi), .int .i64 ((t.be j).wa), .int .i64 ((t.be j).b), .int .i64 ((t.be j).e), .int .i64 ((t.be j).p), .int .i64 ((t.be j).v), .int .i64 ((t.be j).q), .int .i64 ((t.be j).t)] 71 (0, 0)) := h12
                    clear e12 h12
                    obtain ⟨g13, e13, b13, h13⟩ := hx ⟨13, 16, 69, #[.int .i64 0, .int .i64 0, .int .i64 0, .int .i64 0, .int .i64 0, .int .i64 0], #[.int .i64 ((t.be j).b), .int .i64 ((t.be j).e), .int .i64 ((t.be j).p), .int .i64 ((t.be j).v), .int .i64 ((t.be j).q), .int .i64 ((t.be j).t)]⟩ (.tail _ (.head _))
                    have ep13 : vf 13 = .pointer (some ⟨g13, 0, none⟩) := e13
                    have hg13 : u.heap[g13]? = some (.cells #[.int .i64 ((t.be j).b), .int .i64 ((t.be j).e), .int .i64 ((t.be j).p), .int .i64 ((t.be j).v), .int .i64 ((t.be j).q), .int .i64 ((t.be j).t)] 69 (0, 0)) := h13
                    clear e13 h13
                    obtain ⟨g14, e14, b14, h14⟩ := hx ⟨14, 17, 74, #[.int .i64 0, .int .i64 0, .int .i64 0, .int .i64 0], #[.int .i64 0, .int .i64 0, .int .i64 0, .int .i64 0]⟩ (.tail _ (.tail _ (.head _)))
                    have ep14 : vf 14 = .pointer (some ⟨g14, 0, none⟩) := e14
                    have hg14 : u.heap[g14]? = some (.cells #[.int .i64 0, .int .i64 0, .int .i64 0, .int .i64 0] 74 (0, 0)) := h14
                    clear e14 h14
                    have n12_13 : g12 ≠ g13 := fun e => absurd (congrArg Bx.al (hne ⟨12, 15, 71, #[.int .i64 0, .int .i64 0, .int .i64 0, .int .i64 0, .int .i64 0, .int .i64 0, .int .i64 0, .int .i64 0, .int .i64 0, .int .i64 0, .int .i64 0], #[.int .i64 ((t.be j).mo), .int .i64 ((t.be j).co), .int .i64 ((t.be j).wi), .int .i64 ((t.be j).bi), .int .i64 ((t.be j).wa), .int .i64 ((t.be j).b), .int .i64 ((t.be j).e), .int .i64 ((t.be j).p), .int .i64 ((t.be j).v), .int .i64 ((t.be j).q), .int .i64 ((t.be j).t)]⟩ (.head _) ⟨13, 16, 69, #[.int .i64 0, .int .i64 0, .int .i64 0, .int .i64 0, .int .i64 0, .int .i64 0], #[.int .i64 ((t.be j).b), .int .i64 ((t.be j).e), .int .i64 ((t.be j).p), .int .i64 ((t.be j).v), .int .i64 ((t.be j).q), .int .i64 ((t.be j).t)]⟩ (.tail _ (.head _)) (by show vf 12 = vf 13; rw [ep12, ep13, e]))) (by show ¬ ((12 : Nat) = 13); decide)
                    have n12_14 : g12 ≠ g14 := fun e => absurd (congrArg Bx.al (hne ⟨12, 15, 71, #[.int .i64 0, .int .i64 0, .int .i64 0, .int .i64 0, .int .i64 0, .int .i64 0, .int .i64 0, .int .i64 0, .int .i64 0, .int .i64 0, .int .i64 0], #[.int .i64 ((t.be j).mo), .int .i64 ((t.be j).co), .int .i64 ((t.be j).wi), .int .i64 ((t.be j).bi), .int .i64 ((t.be j).wa), .int .i64 ((t.be j).b), .int .i64 ((t.be j).e), .int .i64 ((t.be j).p), .int .i64 ((t.be j).v), .int .i64 ((t.be j).q), .int .i64 ((t.be j).t)]⟩ (.head _) ⟨14, 17, 74, #[.int .i64 0, .int .i64 0, .int .i64 0, .int .i64 0], #[.int .i64 0, .int .i64 0, .int .i64 0, .int .i64 0]⟩ (.tail _ (.tail _ (.head _))) (by show vf 12 = vf 14; rw [ep12, ep14, e]))) (by show ¬ ((12 : Nat) = 14); decide)
                    have n13_14 : g13 ≠ g14 := fun e => absurd (congrArg Bx.al (hne ⟨13, 16, 69, #[.int .i64 0, .int .i64 0, .int .i64 0, .int .i64 0, .int .i64 0, .int .i64 0], #[.int .i64 ((t.be j).b), .int .i64 ((t.be j).e), .int .i64 ((t.be j).p), .int .i64 ((t.be j).v), .int .i64 ((t.be j).q), .int .i64 ((t.be j).t)]⟩ (.tail _ (.head _)) ⟨14, 17, 74, #[.int .i64 0, .int .i64 0, .int .i64 0, .int .i64 0], #[.int .i64 0, .int .i64 0, .int .i64 0, .int .i64 0]⟩ (.tail _ (.tail _ (.head _))) (by show vf 13 = vf 14; rw [ep13, ep14, e]))) (by show ¬ ((13 : Nat) = 14); decide)
                    clear hx hne
                    have f11 : vf 11 = .agg #[.int .i64 0, .int .i64 0, .int .i64 0, .int .i64 0] := hf 11 (by omega) (by omega) (by show (11 : Nat) ∉ [12, 15, 13, 16, 14, 17]; decide)
                    clear hf
                    simp only [fillA, List.take_succ_cons, List.take_zero, List.drop_succ_cons, List.drop_zero, Nat.zero_add, Nat.reduceAdd, Act.put, List.setIfInBounds_toArray, List.set_cons_succ, List.set_cons_zero]
                    generalize vf 12 = v12 at *
                    generalize vf 13 = v13 at *
                    generalize vf 14 = v14 at *
                    generalize vf 11 = v11 at *
                    subst ep12 ep13 ep14 f11
                    have ht14 : u.there g14 0 4 := bx_there hg14
                    refine wpList_store_mid rfl 74 (.tmp 15) (.tmp 158) rfl g14 0 #[.int .i64 0, .int .i64 0, .int .i64 0, .int .i64 0] rfl rfl ht14 (by kernel_rfl) (by kernel_rfl) ?_
                    clear ht14
                    have hbS : Below wr.heap.size wr (u.setCells g14 0 (#[.int .i64 0, .int .i64 0, .int .i64 0, .int .i64 0] : Array Value).toList) := hb.trans (bx_cells_base b14 _ _ _)
                    have h13S : (u.setCells g14 0 (#[.int .i64 0, .int .i64 0, .int .i64 0, .int .i64 0] : Array Value).toList).heap[g12]? = some (.cells #[.int .i64 ((t.be j).mo), .int .i64 ((t.be j).co), .int .i64 ((t.be j).wi), .int .i64 ((t.be j).bi), .int .i64 ((t.be j).wa), .int .i64 ((t.be j).b), .int .i64 ((t.be j).e), .int .i64 ((t.be j).p), .int .i64 ((t.be j).v), .int .i64 ((t.be j).q), .int .i64 ((t.be j).t)] 71 (0, 0)) := (bx_cells_other n12_14 _ _).trans hg12
                    have h14S : (u.setCells g14 0 (#[.int .i64 0, .int .i64 0, .int .i64 0, .int .i64 0] : Array Value).toList).heap[g13]? = some (.cells #[.int .i64 ((t.be j).b), .int .i64 ((t.be j).e), .int .i64 ((t.be j).p), .int .i64 ((t.be j).v), .int .i64 ((t.be j).q), .int .i64 ((t.be j).t)] 69 (0, 0)) := (bx_cells_other n13_14 _ _).trans hg13
                    have h15S : (u.setCells g14 0 (#[.int .i64 0, .int .i64 0, .int .i64 0, .int .i64 0] : Array Value).toList).heap[g14]? = some (.cells #[.int .i64 0, .int .i64 0, .int .i64 0, .int .i64 0] 74 (0, 0)) := by
                      exact (bx_cells_same _ _ hg14).trans (congrArg (fun x => some (Obj.cells x 74 (0, 0))) (setFrom_all rfl))
                    go_upto_region 17 with fail
                    generalize u.setCells g14 0 (#[.int .i64 0, .int .i64 0, .int .i64 0, .int .i64 0] : Array Value).toList = w6 at *
                    have hz6 : w6.heap[zt]? = some (.cells (tcs t).toArray 57 (0, 0)) := (hbS.block zt (heap_lt HZX.out)).trans HZX.out
                    have hc3 := cell_box hz6 (k := 3) (v := .slice t.ka t.kn t.kc) rfl
                    obtain ⟨b2, m2, hk1, hk2⟩ := HTI.out.k.mono (HBW.out _ (bthen' HRX2.out hbS))
                    have hka : t.ka = some ⟨b2, m2, none⟩ := hk1 (by have := HKN.out; omega)
                    obtain ⟨k0, k1, k2, k3⟩ := hk2 j (by have := HKN.out; omega)
                    rw [hka, HKN.out] at hc3
                    clear hk1 hk2 hka
                    have HB6 := Lib.hid (bthen' HRX2.out hbS)
                    have HO6 := Lib.hid (own_below HOX.out hbS)
                    have HZ6 := Lib.hid hz6
                    have HW6 := Lib.hid (⟨b14, h13S, h14S, h15S, n12_14, n13_14⟩ : wr.heap.size ≤ g14 ∧ w6.heap[g12]? = some (.cells #[.int .i64 ((t.be j).mo), .int .i64 ((t.be j).co), .int .i64 ((t.be j).wi), .int .i64 ((t.be j).bi), .int .i64 ((t.be j).wa), .int .i64 ((t.be j).b), .int .i64 ((t.be j).e), .int .i64 ((t.be j).p), .int .i64 ((t.be j).v), .int .i64 ((t.be j).q), .int .i64 ((t.be j).t)] 71 (0, 0)) ∧ w6.heap[g13]? = some (.cells #[.int .i64 ((t.be j).b), .int .i64 ((t.be j).e), .int .i64 ((t.be j).p), .int .i64 ((t.be j).v), .int .i64 ((t.be j).q), .int .i64 ((t.be j).t)] 69 (0, 0)) ∧ w6.heap[g14]? = some (.cells #[.int .i64 0, .int .i64 0, .int .i64 0, .int .i64 0] 74 (0, 0)) ∧ g12 ≠ g14 ∧ g13 ≠ g14)
                    have HBS := Lib.hid hbS
                    have ht15 : w6.there g14 0 4 := bx_there h15S
                    clear hb hbS h13S h14S h15S hz6 hg12 hg13 hg14 b12 b13 b14 n12_13 n12_14 n13_14
                    go_upto_region 19 with (refine wpList_store_mid rfl 74 _ _ rfl g14 0 #[.int .i64 (t.P j), .int .i64 (t.R j), .int .i64 (t.M j), .int .i64 (t.T j)] rfl rfl ht15 (by kernel_rfl) (by kernel_rfl) ?_)
                    clear ht15 k0 k1 k2 k3 hc3
                    have h13S : (w6.setCells g14 0 (#[.int .i64 (t.P j), .int .i64 (t.R j), .int .i64 (t.M j), .int .i64 (t.T j)] : Array Value).toList).heap[g12]? = some (.cells #[.int .i64 ((t.be j).mo), .int .i64 ((t.be j).co), .int .i64 ((t.be j).wi), .int .i64 ((t.be j).bi), .int .i64 ((t.be j).wa), .int .i64 ((t.be j).b), .int .i64 ((t.be j).e), .int .i64 ((t.be j).p), .int .i64 ((t.be j).v), .int .i64 ((t.be j).q), .int .i64 ((t.be j).t)] 71 (0, 0)) := (bx_cells_other HW6.out.2.2.2.2.1 _ _).trans HW6.out.2.1
                    have h14S : (w6.setCells g14 0 (#[.int .i64 (t.P j), .int .i64 (t.R j), .int .i64 (t.M j), .int .i64 (t.T j)] : Array Value).toList).heap[g13]? = some (.cells #[.int .i64 ((t.be j).b), .int .i64 ((t.be j).e), .int .i64 ((t.be j).p), .int .i64 ((t.be j).v), .int .i64 ((t.be j).q), .int .i64 ((t.be j).t)] 69 (0, 0)) := (bx_cells_other HW6.out.2.2.2.2.2 _ _).trans HW6.out.2.2.1
                    have h15S : (w6.setCells g14 0 (#[.int .i64 (t.P j), .int .i64 (t.R j), .int .i64 (t.M j), .int .i64 (t.T j)] : Array Value).toList).heap[g14]? = some (.cells #[.int .i64 (t.P j), .int .i64 (t.R j), .int .i64 (t.M j), .int .i64 (t.T j)] 74 (0, 0)) := by
                      exact (bx_cells_same _ _ HW6.out.2.2.2.1).trans (congrArg (fun x => some (Obj.cells x 74 (0, 0))) (setFrom_all rfl))
                    have hbT : Below wr.heap.size w6 (w6.setCells g14 0 (#[.int .i64 (t.P j), .int .i64 (t.R j), .int .i64 (t.M j), .int .i64 (t.T j)] : Array Value).toList) := bx_cells_base HW6.out.1 _ _ _
                    have hbU := HBS.out.trans hbT
                    have hz7 := (hbU.block zt (heap_lt HZX.out)).trans HZX.out
                    have HB7 := Lib.hid (bthen' HRX2.out hbU)
                    have HO7 := Lib.hid (own_below HOX.out hbU)
                    have HZ7 := Lib.hid hz7
                    generalize w6.setCells g14 0 (#[.int .i64 (t.P j), .int .i64 (t.R j), .int .i64 (t.M j), .int .i64 (t.T j)] : Array Value).toList = w7 at *
                    clear hbT hbU HBS HW6 HB6 HO6 HZ6 hz7
                    have p0 := cell_box h13S (k := 0) (v := .int .i64 ((t.be j).mo)) rfl
                    have p1 := cell_box h13S (k := 1) (v := .int .i64 ((t.be j).co)) rfl
                    have p2 := cell_box h13S (k := 2) (v := .int .i64 ((t.be j).wi)) rfl
                    have p3 := cell_box h13S (k := 3) (v := .int .i64 ((t.be j).bi)) rfl
                    have p4 := cell_box h13S (k := 4) (v := .int .i64 ((t.be j).wa)) rfl
                    have p5 := cell_box h14S (k := 0) (v := .int .i64 ((t.be j).b)) rfl
                    have p6 := cell_box h14S (k := 1) (v := .int .i64 ((t.be j).e)) rfl
                    have p7 := cell_box h14S (k := 2) (v := .int .i64 ((t.be j).p)) rfl
                    have p8 := cell_box h14S (k := 3) (v := .int .i64 ((t.be j).v)) rfl
                    have p9 := cell_box h14S (k := 4) (v := .int .i64 ((t.be j).q)) rfl
                    have p10 := cell_box h14S (k := 5) (v := .int .i64 ((t.be j).t)) rfl
                    have p11 := cell_box h15S (k := 0) (v := .int .i64 (t.P j)) rfl
                    have p12 := cell_box h15S (k := 1) (v := .int .i64 (t.R j)) rfl
                    have p13 := cell_box h15S (k := 2) (v := .int .i64 (t.M j)) rfl
                    have p14 := cell_box h15S (k := 3) (v := .int .i64 (t.T j)) rfl
                    clear h13S h14S h15S
                    have KL := Lib.hid (line46 wBearer (by decide) w7.heap.size [(t.be j).mo, (t.be j).co, (t.be j).wi, (t.be j).bi, (t.be j).wa, (t.be j).b, (t.be j).e, (t.be j).p, (t.be j).v, (t.be j).q, (t.be j).t, t.P j, t.R j, t.M j, t.T j] 15 (w7.alloc (.cells #[.int .i64 ((t.be j).mo), .int .i64 ((t.be j).co), .int .i64 ((t.be j).wi), .int .i64 ((t.be j).bi), .int .i64 ((t.be j).wa), .int .i64 ((t.be j).b), .int .i64 ((t.be j).e), .int .i64 ((t.be j).p), .int .i64 ((t.be j).v), .int .i64 ((t.be j).q), .int .i64 ((t.be j).t), .int .i64 (t.P j), .int .i64 (t.R j), .int .i64 (t.M j), .int .i64 (t.T j)] 3)) (nums_of (MapKept.heap_alloc w7 _).1) (fun q hq => HF3.out q hq) (by simp))
                    go_wp2_with (go_at_call 46; refine KL.out.mono ?_; rintro e w8 ⟨rfl, hb8⟩; have HW8 := Lib.hid (bthen ((Below.refl w7.heap.size w7).alloc (Nat.le_refl _) _) hb8 (by simp)); have HO8 := Lib.hid (own_below HO7.out HW8.out); have HB8 := Lib.hid (bthen' HB7.out HW8.out); have HZ8 := Lib.hid ((HW8.out.block zt (heap_lt HZ7.out)).trans HZ7.out); clear hb8 HW8 HO7 HB7 HZ7 KL p0 p1 p2 p3 p4 p5 p6 p7 p8 p9 p10 p11 p12 p13 p14; refine Hid.out ?_)
                    refine Lib.hid ?_
                    go_wp2_with (at_builtin; refine wpList_append1 w8 w1 w1.heap.size rfl _ _ 77 rfl 9 (.string ⟨#[]⟩) 16 Tryz.underlying77 pz9 rfl (by decide) rv3 (4 + c.fn + tpos T k + 1 + j) (strv M) rfl _ rfl HO8.out HB8.out HB8.out.size HF2.out.symm rfl (by omega) ?_; intro v9 w9 hown9 hB9 hb9 hs9 hgr9; refine Hid.out ?_)
                    refine Lib.hid ?_
                    have HO9 := Lib.hid hown9
                    have HB9 := Lib.hid hB9
                    have HZ9 := Lib.hid ((hgr9.block zt (heap_lt HZ8.out) (fun h => own_ne HO8.out HZ8.out (by decide) h.symm rfl)).trans HZ8.out)
                    clear hown9 hB9 hb9 hs9 hgr9 HO8 HB8 HZ8
                    go_wp2
                    go_roundw
                    case rel => exact ⟨j + 1, _, by omega, rfl, by go_num, HO9.out, HB9.out, HZ9.out⟩
                    case measure => simp [intOf] <;> omega
                · obtain rfl : j = t.bn := by omega
                  go_wp2
                  go_roundw
                  case rel => exact ⟨k + 1, _, by omega, rfl, by go_num, by rw [show 4 + c.fn + tpos T (k + 1) = 4 + c.fn + tpos T k + 1 + t.bn by have := HTP.out; omega]; exact HOX.out, HRX2.out⟩
                  case measure => simp [intOf] <;> omega
          · obtain rfl : k = c.tn := by omega
            have HOF := Lib.hid (show wr.ownsRow w1.heap.size 9 1 rv2 (4 + c.fn + tpos T c.tn + 0) ((List.range (4 + c.fn + tpos T c.tn + 0)).map (strv M)) from HO2.out)
            clear HO2
            go_wp2
            clear hc19
            go_loopw [5, 16] (fun r i wr => ∃ (q : Nat) (rv4 : Value), q ≤ n ∧ rv4 = r ∧ i = .int .i64 q ∧ wr.ownsRow w1.heap.size 9 1 rv4 (4 + c.fn + tpos T c.tn + q) ((List.range (4 + c.fn + tpos T c.tn + q)).map (strv M)) ∧ Below w1.heap.size w1 wr) (fun _ i _ => n - (intOf i).toNat)
            case atStart => exact ⟨0, _, Nat.zero_le _, rfl, rfl, HOF.out, HR2.out⟩
            case round =>
              clear HOF HR2
              obtain ⟨q, rv4, hq, rfl, rfl, hown, hbr⟩ := hrel
              have HOP := Lib.hid hown
              have HRP := Lib.hid hbr
              clear hown hbr
              by_cases hlt : q < n
              · obtain ⟨b, m, h1, h2⟩ := HHQ.out
                obtain rfl := h1 (by omega)
                have HCQ := Lib.hid (fun (u : World) (hb : Below wr.heap.size wr u) => (show u.cell? ⟨b, m + q * 5, none⟩ = some (.int .i64 (Q q).a) ∧ u.cell? ⟨b, m + q * 5 + 1, none⟩ = some (.int .i64 (Q q).t) ∧ u.cell? ⟨b, m + q * 5 + 2, none⟩ = some (.int .i64 (Q q).b) ∧ u.cell? ⟨b, m + q * 5 + 3, none⟩ = some (.int .i64 (Q q).d) ∧ u.cell? ⟨b, m + q * 5 + 4, none⟩ = some (.slice (Q q).pa (Q q).by'.length (Q q).pc) from by
                  obtain ⟨c0, c1, c2, c3, c4, -, c6, -⟩ := h2 q hlt
                  rw [c6] at c4
                  have hbb := HBW.out _ (bthen' HRP.out hb)
                  exact ⟨up hbb c0, up hbb c1, up hbb c2, up hbb c3, up hbb c4⟩))
                have HBY := Lib.hid ((h2 q hlt).2.2.2.2.2.1.mono (HBW.out _ (Below.refl _ _)))
                have HBL := Lib.hid (HN.out.z q hlt)
                have HP3 := Lib.hid (HN.out.p q hlt)
                have hF := strv_of (HM.out.p q hlt)
                have hbd : 4 + c.fn + tpos T c.tn + q + 1 ≤ 1000000 := by have := HML2.out; omega
                obtain ⟨LS, hLS⟩ : ∃ LS, lineS wPacket [(Q q).a, (Q q).t, (Q q).b, (Q q).d] = LS := ⟨_, rfl⟩
                obtain ⟨HX, hHX⟩ : ∃ HX, hexS (Q q).by' = HX := ⟨_, rfl⟩
                have hx1 : (bs LS).size ≤ 3000 := by
                  have := lineS_len (word := wPacket) (by decide) (ns := [(Q q).a, (Q q).t, (Q q).b, (Q q).d]) (fun x hx => by have := HP3.out x hx; exact ⟨by omega, this.2⟩)
                  rw [bs_size, ← hLS]
                  simp only [List.length_cons, List.length_nil] at this
                  omega
                have hx2 : (bs HX).size ≤ 2000000 := by
                  rw [bs_size, ← hHX, hexS_len]
                  have := HBL.out
                  omega
                have HF2 := Lib.hid (show strv M (4 + c.fn + tpos T c.tn + q) = .string (bs LS ++ ⟨#[32]⟩ ++ bs HX) from by
                  rw [hF]
                  show Value.string (bs (lineS wPacket [(Q q).a, (Q q).t, (Q q).b, (Q q).d] ++ 32 :: hexS (Q q).by')) = _
                  rw [hLS, hHX, show (⟨#[32]⟩ : ByteArray) = bs [32] from rfl, bs_add, bs_add]
                  simp)
                have HLS := Lib.hid hLS
                have HHX := Lib.hid hHX
                clear h1 h2 hF hLS hHX
                go_upto_region 23 with fail
                refine wp_region_peelF 0 32 (fun i v u => match i with
                  | 0 => v = rv4
                  | 1 => v = .slice (some ⟨b, m, none⟩) n cc
                  | 2 => v = .int .i64 q
                  | 3 => v = .pointer (some ⟨b, m + q * 5, none⟩)
                  | 4 => v = .pointer (some ⟨b, m + q * 5, none⟩)
                  | 5 => v = .int .i64 (Q q).a
                  | 6 => v = .slice (some ⟨b, m, none⟩) n cc
                  | 7 => v = .int .i64 q
                  | 8 => v = .pointer (some ⟨b, m + q * 5, none⟩)
                  | 9 => v = .pointer (some ⟨b, m + q * 5 + 1, none⟩)
                  | 10 => v = .int .i64 (Q q).t
                  | 11 => v = .slice (some ⟨b, m, none⟩) n cc
                  | 12 => v = .int .i64 q
                  | 13 => v = .pointer (some ⟨b, m + q * 5, none⟩)
                  | 14 => v = .pointer (some ⟨b, m + q * 5 + 2, none⟩)
                  | 15 => v = .int .i64 (Q q).b
                  | 16 => v = .slice (some ⟨b, m, none⟩) n cc
                  | 17 => v = .int .i64 q
                  | 18 => v = .pointer (some ⟨b, m + q * 5, none⟩)
                  | 19 => v = .pointer (some ⟨b, m + q * 5 + 3, none⟩)
                  | 20 => v = .int .i64 (Q q).d
                  | 21 => ∃ b0, v = .slice (some ⟨b0, 0, none⟩) 4 4 ∧ u.heap[b0]? = some (.cells #[.int .i64 (Q q).a, .int .i64 (Q q).t, .int .i64 (Q q).b, .int .i64 (Q q).d] 3 (0, 0))
                  | 22 => v = .string (bs LS)
                  | 23 => v = .string (bs LS ++ ⟨#[32]⟩)
                  | 24 => v = .slice (some ⟨b, m, none⟩) n cc
                  | 25 => v = .int .i64 q
                  | 26 => v = .pointer (some ⟨b, m + q * 5, none⟩)
                  | 27 => v = .pointer (some ⟨b, m + q * 5 + 4, none⟩)
                  | 28 => v = .slice (Q q).pa (Q q).by'.length (Q q).pc
                  | 29 => v = .string (bs HX)
                  | 30 => v = .string (bs LS ++ ⟨#[32]⟩ ++ bs HX)
                  | 31 => ∃ b0, v = .slice (some ⟨b0, 0, none⟩) 1 1 ∧ u.heap[b0]? = some (.cells #[.string (bs LS ++ ⟨#[32]⟩ ++ bs HX)] 9 (0, 0))
                  | _ => True) (by kernel_rfl) (by kernel_rfl) rfl (fun _ _ d _ _ h => by cases d <;> exact h) ?_ ?_ ?_
                · intro i v w1 w2 hb h
                  match i with
                  | 0 => exact h
                  | 1 => exact h
                  | 2 => exact h
                  | 3 => exact h
                  | 4 => exact h
                  | 5 => exact h
                  | 6 => exact h
                  | 7 => exact h
                  | 8 => exact h
                  | 9 => exact h
                  | 10 => exact h
                  | 11 => exact h
                  | 12 => exact h
                  | 13 => exact h
                  | 14 => exact h
                  | 15 => exact h
                  | 16 => exact h
                  | 17 => exact h
                  | 18 => exact h
                  | 19 => exact h
                  | 20 => exact h
                  | 21 =>
                    obtain ⟨b0, e1, e2⟩ := h
                    exact ⟨b0, e1, (hb.block b0 (heap_lt e2)).trans e2⟩
                  | 22 => exact h
                  | 23 => exact h
                  | 24 => exact h
                  | 25 => exact h
                  | 26 => exact h
                  | 27 => exact h
                  | 28 => exact h
                  | 29 => exact h
                  | 30 => exact h
                  | 31 =>
                    obtain ⟨b0, e1, e2⟩ := h
                    exact ⟨b0, e1, (hb.block b0 (heap_lt e2)).trans e2⟩
                  | k + 32 => exact h
                · intro i o hp hi ho vf u1 hb hd
                  have hi' : i = 0 ∨ i = 1 ∨ i = 2 ∨ i = 3 ∨ i = 4 ∨ i = 5 ∨ i = 6 ∨ i = 7 ∨ i = 8 ∨ i = 9 ∨ i = 10 ∨ i = 11 ∨ i = 12 ∨ i = 13 ∨ i = 14 ∨ i = 15 ∨ i = 16 ∨ i = 17 ∨ i = 18 ∨ i = 19 ∨ i = 20 ∨ i = 21 ∨ i = 22 ∨ i = 23 ∨ i = 24 ∨ i = 25 ∨ i = 26 ∨ i = 27 ∨ i = 28 ∨ i = 29 ∨ i = 30 ∨ i = 31 := by omega
                  rcases hi' with rfl | rfl | rfl | rfl | rfl | rfl | rfl | rfl | rfl | rfl | rfl | rfl | rfl | rfl | rfl | rfl | rfl | rfl | rfl | rfl | rfl | rfl | rfl | rfl | rfl | rfl | rfl | rfl | rfl | rfl | rfl | rfl
                  all_goals obtain rfl := Option.some.inj ho
                  all_goals simp only [fillA, List.take_succ_cons, List.take_zero, List.drop_succ_cons, List.drop_zero, Nat.zero_add, Nat.reduceAdd]
                  · clear hd
                    go_wp2
                    exact ⟨rfl, Below.refl _ _, rfl⟩
                  · clear hd
                    go_wp2
                    exact ⟨rfl, Below.refl _ _, rfl⟩
                  · clear hd
                    go_wp2
                    exact ⟨rfl, Below.refl _ _, rfl⟩
                  · have f1 := hd 1 (by omega) (by omega) (by kernel_rfl)
                    have f2 := hd 2 (by omega) (by omega) (by kernel_rfl)
                    clear hd
                    go_wp2
                    exact ⟨rfl, Below.refl _ _, rfl⟩
                  · have f3 := hd 3 (by omega) (by omega) (by kernel_rfl)
                    clear hd
                    go_wp2
                    exact ⟨rfl, Below.refl _ _, rfl⟩
                  · have f4 := hd 4 (by omega) (by omega) (by kernel_rfl)
                    clear hd
                    have hcc := (HCQ.out u1 hb).1
                    go_wp2
                    exact ⟨rfl, Below.refl _ _, rfl⟩
                  · clear hd
                    go_wp2
                    exact ⟨rfl, Below.refl _ _, rfl⟩
                  · clear hd
                    go_wp2
                    exact ⟨rfl, Below.refl _ _, rfl⟩
                  · have f6 := hd 6 (by omega) (by omega) (by kernel_rfl)
                    have f7 := hd 7 (by omega) (by omega) (by kernel_rfl)
                    clear hd
                    go_wp2
                    exact ⟨rfl, Below.refl _ _, rfl⟩
                  · have f8 := hd 8 (by omega) (by omega) (by kernel_rfl)
                    clear hd
                    go_wp2
                    exact ⟨rfl, Below.refl _ _, rfl⟩
                  · have f9 := hd 9 (by omega) (by omega) (by kernel_rfl)
                    clear hd
                    have hcc := (HCQ.out u1 hb).2.1
                    go_wp2
                    exact ⟨rfl, Below.refl _ _, rfl⟩
                  · clear hd
                    go_wp2
                    exact ⟨rfl, Below.refl _ _, rfl⟩
                  · clear hd
                    go_wp2
                    exact ⟨rfl, Below.refl _ _, rfl⟩
                  · have f11 := hd 11 (by omega) (by omega) (by kernel_rfl)
                    have f12 := hd 12 (by omega) (by omega) (by kernel_rfl)
                    clear hd
                    go_wp2
                    exact ⟨rfl, Below.refl _ _, rfl⟩
                  · have f13 := hd 13 (by omega) (by omega) (by kernel_rfl)
                    clear hd
                    go_wp2
                    exact ⟨rfl, Below.refl _ _, rfl⟩
                  · have f14 := hd 14 (by omega) (by omega) (by kernel_rfl)
                    clear hd
                    have hcc := (HCQ.out u1 hb).2.2.1
                    go_wp2
                    exact ⟨rfl, Below.refl _ _, rfl⟩
                  · clear hd
                    go_wp2
                    exact ⟨rfl, Below.refl _ _, rfl⟩
                  · clear hd
                    go_wp2
                    exact ⟨rfl, Below.refl _ _, rfl⟩
                  · have f16 := hd 16 (by omega) (by omega) (by kernel_rfl)
                    have f17 := hd 17 (by omega) (by omega) (by kernel_rfl)
                    clear hd
                    go_wp2
                    exact ⟨rfl, Below.refl _ _, rfl⟩
                  · have f18 := hd 18 (by omega) (by omega) (by kernel_rfl)
                    clear hd
                    go_wp2
                    exact ⟨rfl, Below.refl _ _, rfl⟩
                  · have f19 := hd 19 (by omega) (by omega) (by kernel_rfl)
                    clear hd
                    have hcc := (HCQ.out u1 hb).2.2.2.1
                    go_wp2
                    exact ⟨rfl, Below.refl _ _, rfl⟩
                  · have f5 := hd 5 (by omega) (by omega) (by kernel_rfl)
                    have f10 := hd 10 (by omega) (by omega) (by kernel_rfl)
                    have f15 := hd 15 (by omega) (by omega) (by kernel_rfl)
                    have f20 := hd 20 (by omega) (by omega) (by kernel_rfl)
                    clear hd
                    go_wp2
                    exact ⟨rfl, (Below.refl _ _).alloc (Nat.le_refl _) _, _, rfl, (MapKept.heap_alloc u1 _).1⟩
                  · obtain ⟨b0, f21, g21⟩ := hd 21 (by omega) (by omega) (by kernel_rfl)
                    clear hd
                    have KL := Lib.hid (line46 wPacket (by decide) b0 [(Q q).a, (Q q).t, (Q q).b, (Q q).d] 4 u1 (nums_of g21) (fun k hk => HP3.out k hk) (by simp))
                    rw [HLS.out] at KL
                    simp only [Act.put, List.setIfInBounds_toArray, List.set_cons_succ, List.set_cons_zero]
                    generalize vf 21 = v21 at *
                    subst f21
                    go_wp2_with (go_at_call 46; refine KL.out.mono ?_; rintro e w3 ⟨rfl, hb3⟩)
                    exact ⟨rfl, hb3, rfl⟩
                  · have f22 := hd 22 (by omega) (by omega) (by kernel_rfl)
                    clear hd
                    go_wp2
                    exact ⟨rfl, Below.refl _ _, rfl⟩
                  · clear hd
                    go_wp2
                    exact ⟨rfl, Below.refl _ _, rfl⟩
                  · clear hd
                    go_wp2
                    exact ⟨rfl, Below.refl _ _, rfl⟩
                  · have f24 := hd 24 (by omega) (by omega) (by kernel_rfl)
                    have f25 := hd 25 (by omega) (by omega) (by kernel_rfl)
                    clear hd
                    go_wp2
                    exact ⟨rfl, Below.refl _ _, rfl⟩
                  · have f26 := hd 26 (by omega) (by omega) (by kernel_rfl)
                    clear hd
                    go_wp2
                    exact ⟨rfl, Below.refl _ _, rfl⟩
                  · have f27 := hd 27 (by omega) (by omega) (by kernel_rfl)
                    clear hd
                    have hcc := (HCQ.out u1 hb).2.2.2.2
                    go_wp2
                    exact ⟨rfl, Below.refl _ _, rfl⟩
                  · have f28 := hd 28 (by omega) (by omega) (by kernel_rfl)
                    clear hd
                    have KH := Lib.hid (hex47 (Q q).pa (Q q).pc (Q q).by' u1 (HBY.out.mono (HRP.out.trans (hb.mono HRP.out.size))) HBL.out)
                    rw [HHX.out] at KH
                    simp only [Act.put, List.setIfInBounds_toArray, List.set_cons_succ, List.set_cons_zero]
                    generalize vf 28 = v28 at *
                    subst f28
                    go_wp2_with (go_at_call 47; refine KH.out.mono ?_; rintro e w3 ⟨rfl, hb3⟩)
                    exact ⟨rfl, hb3, rfl⟩
                  · have f23 := hd 23 (by omega) (by omega) (by kernel_rfl)
                    have f29 := hd 29 (by omega) (by omega) (by kernel_rfl)
                    clear hd
                    go_wp2
                    exact ⟨rfl, Below.refl _ _, rfl⟩
                  · have f30 := hd 30 (by omega) (by omega) (by kernel_rfl)
                    clear hd
                    go_wp2
                    exact ⟨rfl, (Below.refl _ _).alloc (Nat.le_refl _) _, _, rfl, (MapKept.heap_alloc u1 _).1⟩
                · intro vf u1 hb hd
                  obtain ⟨b0, f31, g31⟩ := hd 31 (by omega) (by omega)
                  have f0 : vf 0 = rv4 := hd 0 (by omega) (by omega)
                  clear hd
                  simp only [fillA, List.take_succ_cons, List.take_zero, List.drop_succ_cons, List.drop_zero, Nat.zero_add, Nat.reduceAdd, Act.put, List.setIfInBounds_toArray, List.set_cons_succ, List.set_cons_zero]
                  generalize vf 31 = v31 at *
                  generalize vf 0 = v0 at *
                  subst f31 f0
                  have HOU := Lib.hid (own_below HOP.out hb)
                  have HBU := Lib.hid (bthen' HRP.out hb)
                  clear hb
                  refine wpList_append_at u1 w1.heap.size rfl _ _ 77 rfl 9 (.string ⟨#[]⟩) 1 16 Tryz.underlying77 pz9 rfl (by decide) (by decide) v0 (4 + c.fn + tpos T c.tn + q) (strv M) rfl b0 _ _ rfl g31 rfl (fun y hy => by simp at hy; rw [hy]; rfl) (strv M) (fun _ _ => rfl) (fun x hx => by cases (show x = 0 by omega); rw [Nat.mul_one, Nat.add_zero, HF2.out]; rfl) (by rw [Nat.mul_one]; exact HOU.out) HBU.out.size (by omega) ?_
                  intro v9 w9 hown9 hgr9 _
                  rw [Nat.mul_one] at hown9
                  have HO9 := Lib.hid hown9
                  have HB9 := Lib.hid (HBU.out.grown hgr9 HBU.out.size (fun g hg => (HOU.out.lt g hg).1))
                  clear hown9 hgr9 HOU HBU
                  go_wp2
                  go_roundw
                  case rel => exact ⟨q + 1, _, by omega, rfl, by go_num, HO9.out, HB9.out⟩
                  case measure => simp [intOf] <;> omega
              · obtain rfl : q = n := by omega
                go_wp2
                go_ret
                exact ⟨_, rfl, own_base HOP.out (by rw [hS]; exact HBz.out), HBW.out _ HRP.out⟩
end Go.Proofs.YtgflfdnajchjaaaGreatDoor
