/- Layer 36: all functions against the reference. -/
import Derived.Test.YtobmnajgbhgdlaaP13
namespace Go.Proofs.Ytobmnajgbhgdlaa
set_option linter.unusedVariables false
set_option linter.unusedSimpArgs false
open Go.RowKit Go.Sort
attribute [local go_sem] gcell

/-- A box that holds a pager is written anew with other pages. -/
def rebox (W : World) (B : Nat) (cy mo tr : Int) (v : Value) : World := (((W.setCell ⟨B, 0, none⟩ (.int .i64 cy)).setCell ⟨B, 1, none⟩ (.int .i64 mo)).setCell ⟨B, 2, none⟩ (.int .i64 tr)).setCell ⟨B, 3, none⟩ v
structure Bx (W : World) (B : Nat) (cy mo tr : Int) (v : Value) : Prop where
  c0 : W.cell? ⟨B, 0, none⟩ = some (.int .i64 cy)
  c1 : W.cell? ⟨B, 1, none⟩ = some (.int .i64 mo)
  c2 : W.cell? ⟨B, 2, none⟩ = some (.int .i64 tr)
  c3 : W.cell? ⟨B, 3, none⟩ = some v
  f : ∀ o, W.frozen? ⟨B, o, none⟩ = false
theorem Bx.lt {W : World} {B : Nat} {cy mo tr : Int} {v : Value} (h : Bx W B cy mo tr v) : B < W.heap.size := lt_of_cell h.c0
theorem Bx.mono {W w : World} {B : Nat} {cy mo tr : Int} {v : Value} (h : Bx W B cy mo tr v) (hb : Below W.heap.size W w) : Bx w B cy mo tr v :=
  ⟨up hb h.c0, up hb h.c1, up hb h.c2, up hb h.c3, fun o => upf hb h.lt (h.f o)⟩
theorem Bx.new (W : World) (cy mo tr : Int) (v : Value) : Bx (W.alloc (.cells #[.int .i64 cy, .int .i64 mo, .int .i64 tr, v] 25)) W.heap.size cy mo tr v :=
  ⟨by simp [go_sem], by simp [go_sem], by simp [go_sem], by simp [go_sem], fun o => by simp [go_sem]⟩
theorem set_same {W : World} {x y : Addr} {u v : Value} (h : W.cell? x = some v) (hy : W.cell? y = some u) : (W.setCell x v).cell? y = some u := by
  rw [cell_set]
  by_cases e : x = y
  · subst e
    rw [if_pos rfl, h, ← hy, h]; rfl
  · rw [if_neg e]; exact hy
theorem set_far {W : World} {x y : Addr} {u v : Value} (hne : x ≠ y) (hy : W.cell? y = some u) : (W.setCell x v).cell? y = some u := by
  rw [cell_set, if_neg hne]; exact hy
theorem Bx.re {W : World} {B : Nat} {cy mo tr : Int} {v : Value} (h : Bx W B cy mo tr v) (u : Value) : Bx (rebox W B cy mo tr u) B cy mo tr u := by
  have a0 := set_same h.c0 h.c0
  have a1 := set_same h.c0 h.c1
  have a2 := set_same h.c0 h.c2
  have a3 := set_same h.c0 h.c3
  have b0 := set_same a1 a0
  have b1 := set_same a1 a1
  have b2 := set_same a1 a2
  have b3 := set_same a1 a3
  have d0 := set_same b2 b0
  have d1 := set_same b2 b1
  have d2 := set_same b2 b2
  have d3 := set_same b2 b3
  refine ⟨set_far (by simp) d0, set_far (by simp) d1, set_far (by simp) d2, ?_, fun o => ?_⟩
  · unfold rebox
    rw [cell_set, if_pos rfl, d3]; rfl
  · unfold rebox
    rw [World.frozen?_setCell, World.frozen?_setCell, World.frozen?_setCell, World.frozen?_setCell]
    exact h.f o
/-- A number that lies in memory lies there still. -/
theorem Bx.int {W : World} {B : Nat} {cy mo tr x : Int} {v : Value} (h : Bx W B cy mo tr v) (hv : ∀ y, v ≠ .int .i64 y) (u : Value) {p : Addr} (hp : W.cell? p = some (.int .i64 x)) : (rebox W B cy mo tr u).cell? p = some (.int .i64 x) := by
  have a1 := set_same h.c0 h.c1
  have a2 := set_same h.c0 h.c2
  have a3 := set_same h.c0 h.c3
  have b2 := set_same a1 a2
  have b3 := set_same a1 a3
  have d3 := set_same b2 b3
  have ap := set_same b2 (set_same a1 (set_same h.c0 hp))
  refine set_far (fun e => ?_) ap
  rw [e, ap] at d3
  exact hv x (Option.some.inj d3).symm
theorem Bx.r3 {W : World} {B n : Nat} {cy mo tr : Int} {v : Value} {a : Option Addr} {I S C : Nat → Int} (h : Bx W B cy mo tr v) (hv : ∀ y, v ≠ .int .i64 y) (u : Value) (H : R3 W a n I S C) : R3 (rebox W B cy mo tr u) a n I S C := by
  obtain ⟨b, m, h1, h2⟩ := H
  exact ⟨b, m, h1, fun k hk => ⟨h.int hv u (h2 k hk).1, h.int hv u (h2 k hk).2.1, h.int hv u (h2 k hk).2.2⟩⟩
theorem Bx.row {W : World} {B n : Nat} {cy mo tr : Int} {v : Value} {a : Option Addr} {xs : Nat → Int} (h : Bx W B cy mo tr v) (hv : ∀ y, v ≠ .int .i64 y) (u : Value) (H : Row W a n xs) : Row (rebox W B cy mo tr u) a n xs := by
  obtain ⟨b, m, h1, h2⟩ := H
  exact ⟨b, m, h1, fun k hk => h.int hv u (h2 k hk)⟩
theorem Bx.other {W : World} {B D : Nat} {cy mo tr : Int} {v' : Value} (h : Bx W D cy mo tr v') (hne : B ≠ D) (u : Value) : Bx (rebox W B cy mo tr u) D cy mo tr v' := by
  have k : ∀ o : Nat, (rebox W B cy mo tr u).cell? ⟨D, o, none⟩ = W.cell? ⟨D, o, none⟩ := fun o => by
    unfold rebox
    rw [cell_set, if_neg (by simp [hne]), cell_set, if_neg (by simp [hne]), cell_set, if_neg (by simp [hne]), cell_set, if_neg (by simp [hne])]
  refine ⟨(k 0).trans h.c0, (k 1).trans h.c1, (k 2).trans h.c2, (k 3).trans h.c3, fun o => ?_⟩
  unfold rebox
  rw [World.frozen?_setCell, World.frozen?_setCell, World.frozen?_setCell, World.frozen?_setCell]
  exact h.f o
theorem below_rebox {w W : World} {B : Nat} {cy mo tr : Int} {u : Value} (h : Below w.heap.size w W) (hB : w.heap.size ≤ B) : Below w.heap.size w (rebox W B cy mo tr u) :=
  (((h.setCell (p := ⟨B, 0, none⟩) hB _).setCell (p := ⟨B, 1, none⟩) hB _).setCell (p := ⟨B, 2, none⟩) hB _).setCell (p := ⟨B, 3, none⟩) hB _
theorem rebox_size (W : World) (B : Nat) (cy mo tr : Int) (u : Value) : (rebox W B cy mo tr u).heap.size = W.heap.size := by unfold rebox; simp

theorem tkO_len (cy mo tr t : Int) (n : Nat) (I S C : Nat → Int) : (tkO cy mo tr t n I S C).1.length ≤ n ∧ (tkO cy mo tr t n I S C).2.1.length ≤ n ∧ (tkO cy mo tr t n I S C).2.2.length ≤ n := by
  unfold tkO
  split
  · exact tkL_len cy mo tr t I S C n
  · exact ⟨by rw [pl_len]; exact Nat.le_refl _, Nat.zero_le _, Nat.zero_le _⟩
theorem anO_len (cy mo tr id : Int) (n : Nat) (I S C : Nat → Int) : (anO cy mo tr id n I S C).length ≤ n := by
  unfold anO
  split
  · exact fl_len I S C id n
  · rw [pl_len]; exact Nat.le_refl _
theorem clO_len (cy mo tr id t : Int) (n : Nat) (I S C : Nat → Int) : (clO cy mo tr id t n I S C).length ≤ n + 1 := by
  unfold clO
  split
  · rw [pl_snoc_len]; exact Nat.le_refl _
  · rw [pl_len]; omega
section
variable (cy mo tr id t : Int) (a : Option Addr) (n c : Nat) (I S C : Nat → Int)
set_option maxRecDepth 100000 in
set_option maxHeartbeats 8000000 in
theorem agree10 (w : World) (H : R3 w a n I S C) (hc : n ≤ c) (hn : c ≤ 9223372036854775807) (h0 : a = none → n = 0) (hn1 : n ≤ 1000) :
    Calls Try.prog 10 #[gv cy mo tr a n c, .int .i64 id, .int .i64 t] w fun e w' => e = .returned (.bool true) ∧ Below w.heap.size w w' := by
  have HR := Lib.hid H
  have H0 := Lib.hid h0
  have hbA := blA w (.cells #[.int .i64 cy, .int .i64 mo, .int .i64 tr, .slice a n c] 25)
  have HB0 := Lib.hid hbA
  have X0 := Lib.hid (Bx.new w cy mo tr (.slice a n c))
  have K1 := Lib.hid (call7 cy mo tr id t a n c I S C _ (H.mono hbA) hc hn h0 hn1)
  clear H h0 hbA
  unfold gv at *
  have hz0 : (w.alloc (.cells #[.int .i64 cy, .int .i64 mo, .int .i64 tr, .slice a n c] 25)).heap.size = w.heap.size + 1 := by simp
  go_enter Try.func10, Try.ntmps10
  go_wp2_with fail
  refine K1.out.mono ?_
  rintro e w1 ⟨P, a1, c1, hP, rfl, hc1, hA1, hR1, hb⟩
  have hs1 : w.heap.size < w1.heap.size := by have := hb.size; omega
  have X1 := Lib.hid (X0.out.mono hb)
  have HB1 := Lib.hid (bthen HB0.out hb (by omega))
  have HP := Lib.hid hP
  have HR1 := Lib.hid hR1
  clear hb K1 hP hR1 X0 HB0 hA1 hz0
  unfold gv at *
  go_upto_region 2 with fail
  have hbn := blA w1 (.cells #[.int .i64 cy, .int .i64 mo, .int .i64 tr, .slice a1 P.length c1] 25)
  have Y2 := Lib.hid (Bx.new w1 cy mo tr (.slice a1 P.length c1))
  have X2 := Lib.hid (X1.out.mono hbn)
  have HB2 := Lib.hid (bthen HB1.out hbn (by omega))
  have R2 := Lib.hid (HR1.out.mono hbn)
  have hs2 : w1.heap.size < (w1.alloc (.cells #[.int .i64 cy, .int .i64 mo, .int .i64 tr, .slice a1 P.length c1] 25)).heap.size := by simp
  clear hbn X1 HB1 HR1
  generalize (w1.alloc (.cells #[.int .i64 cy, .int .i64 mo, .int .i64 tr, .slice a1 P.length c1] 25)) = w2 at *
  generalize w1.heap.size = B1 at *
  have x0 := X2.out.c0
  have x1 := X2.out.c1
  have x2 := X2.out.c2
  have x3 := X2.out.c3
  have K2 := Lib.hid (call16 cy mo tr id t a n c I S C w2 (HR.out.mono HB2.out) hc hn H0.out)
  unfold gv at *
  go_wp2_with fail
  refine K2.out.mono ?_
  rintro e w3 ⟨P', a2, c2, hP', rfl, hc2, hA2, hR2, hb⟩
  obtain rfl : P' = P := hP'.trans HP.out.symm
  have hs3 : w2.heap.size ≤ w3.heap.size := hb.size
  have X3 := Lib.hid (X2.out.mono hb)
  have Y3 := Lib.hid (Y2.out.mono hb)
  have HB3 := Lib.hid (bthen HB2.out hb (by omega))
  have R3' := Lib.hid (R2.out.mono hb)
  have R4' := Lib.hid hR2
  clear hb K2 hP' hR2 X2 Y2 HB2 hA2 R2 x0 x1 x2 x3
  unfold gv at *
  go_upto_region 3 with fail
  have hbn := blA w3 (.cells #[.int .i64 cy, .int .i64 mo, .int .i64 tr, .slice a2 P'.length c2] 25)
  have Z4 := Lib.hid (Bx.new w3 cy mo tr (.slice a2 P'.length c2))
  have X4 := Lib.hid (X3.out.mono hbn)
  have Y4 := Lib.hid (Y3.out.mono hbn)
  have HB4 := Lib.hid (bthen HB3.out hbn (by omega))
  have Ra := Lib.hid (R3'.out.mono hbn)
  have Rb := Lib.hid (R4'.out.mono hbn)
  have hs4 : w3.heap.size < (w3.alloc (.cells #[.int .i64 cy, .int .i64 mo, .int .i64 tr, .slice a2 P'.length c2] 25)).heap.size := by simp
  clear hbn X3 Y3 HB3 R3' R4'
  generalize (w3.alloc (.cells #[.int .i64 cy, .int .i64 mo, .int .i64 tr, .slice a2 P'.length c2] 25)) = w4 at *
  generalize w3.heap.size = B2 at *
  have x0 := X4.out.c0
  have x1 := X4.out.c1
  have x2 := X4.out.c2
  have x3 := X4.out.c3
  have y0 := Y4.out.c0
  have y1 := Y4.out.c1
  have y2 := Y4.out.c2
  have y3 := Y4.out.c3
  have z0 := Z4.out.c0
  have z1 := Z4.out.c1
  have z2 := Z4.out.c2
  have z3 := Z4.out.c3
  have hlP : P'.length ≤ maxLen := by have := clO_len cy mo tr id t n I S C; rw [HP.out]; unfold maxLen; omega
  have KS := Lib.hid fun (d : Nat) (os : Array Obj) => same25 cy mo tr a1 a2 P'.length c1 c2 (pI P') (pS P') (pC P') (grow (redrawn w4 d) os) (Ra.out.mono (below_regrown w4 d os)) (Rb.out.mono (below_regrown w4 d os)) hlP
  have KC := Lib.hid fun (d : Nat) (os : Array Obj) => check21 cy mo tr a n c I S C (grow (redrawn w4 d) os) ((HR.out.mono HB4.out).mono (below_regrown w4 d os)) hc hn
  have KD := Lib.hid fun (d : Nat) (os : Array Obj) => check26 cy mo tr a n c I S C (grow (redrawn w4 d) os) ((HR.out.mono HB4.out).mono (below_regrown w4 d os)) hc hn
  have KO := Lib.hid fun (d : Nat) (os : Array Obj) => occ19 cy id t (grow (redrawn w4 d) os)
  have KQ := Lib.hid fun (d : Nat) (os : Array Obj) => occ27 cy id t (grow (redrawn w4 d) os)
  have l0 : w.heap.size < w4.heap.size := by omega
  have l1 : B1 < w4.heap.size := by omega
  unfold gv at *
  generalize hE : clE cy mo tr id t n I S C = E at *
  generalize ckP cy mo tr n I S C = F at *
  generalize occ cy id t = G at *
  have q1 : (E != E) = false := by simp
  have q2 : (F != F) = false := by simp
  have q3 : (G != G) = false := by simp
  clear hE
  go_wp2_with fail
  refine wp_region_quiet_below (by kernel_rfl) (by kernel_rfl) ?_
  repeat (go_big_quiet_step (first | (go_at_call 25; exact Calls.regrown_of (KS.out _ _)) | (go_at_call 21; exact Calls.regrown_of (KC.out _ _)) | (go_at_call 26; exact Calls.regrown_of (KD.out _ _)) | (go_at_call 19; exact Calls.regrown_of (KO.out _ _)) | (go_at_call 27; exact Calls.regrown_of (KQ.out _ _))))
  refine wpQuiet_nil ?_
  rintro _ ⟨p, rfl⟩
  have hbn := below_regrown w4 p.d p.os
  have X5 := Lib.hid (X4.out.mono hbn)
  have Y5 := Lib.hid (Y4.out.mono hbn)
  have Z5 := Lib.hid (Z4.out.mono hbn)
  have HB5 := Lib.hid (bthen HB4.out hbn (by omega))
  have hs5 := hbn.size
  clear hbn X4 Y4 Z4 HB4 Ra Rb KS KC KD KO KQ x0 x1 x2 x3 y0 y1 y2 y3 z0 z1 z2 z3 HP q1 q2 q3 hlP
  generalize grow (redrawn w4 p.d) p.os = w5 at *
  have x0 := X5.out.c0
  have x1 := X5.out.c1
  have x2 := X5.out.c2
  have x3 := X5.out.c3
  have K1 := Lib.hid (tick8 cy mo tr t a n c I S C w5 (HR.out.mono HB5.out) hc hn H0.out hn1)
  unfold gv at *
  go_wp2_with fail
  refine K1.out.mono ?_
  rintro e w6 ⟨P, A, B, a3, b3, d3, c3, e3, f3, hP, rfl, hc3, hA3, hR3, hI3, hJ3, hb⟩
  have X6 := Lib.hid (X5.out.mono hb)
  have Y6 := Lib.hid (Y5.out.mono hb)
  have Z6 := Lib.hid (Z5.out.mono hb)
  have HB6 := Lib.hid (bthen HB5.out hb (by omega))
  have hs6 := hb.size
  have HP := Lib.hid hP
  have hl : P.length ≤ n ∧ A.length ≤ n ∧ B.length ≤ n := by
    have := tkO_len cy mo tr t n I S C
    rw [← hP] at this
    exact this
  have hy : ∀ y, (Value.slice a1 P'.length c1) ≠ .int .i64 y := fun y e => by cases e
  have hz : ∀ y, (Value.slice a2 P'.length c2) ≠ .int .i64 y := fun y e => by cases e
  have Y7 := Lib.hid (Y6.out.re (.slice a3 P.length c3))
  have X7 := Lib.hid (X6.out.other (show B1 ≠ w.heap.size by omega) (.slice a3 P.length c3))
  have Z7 := Lib.hid (Z6.out.other (show B1 ≠ B2 by omega) (.slice a3 P.length c3))
  have Ra := Lib.hid (Y6.out.r3 hy (.slice a3 P.length c3) hR3)
  have Rb := Lib.hid (Y6.out.row hy (.slice a3 P.length c3) hI3)
  have Rc := Lib.hid (Y6.out.row hy (.slice a3 P.length c3) hJ3)
  have HB7 := Lib.hid (below_rebox (B := B1) (cy := cy) (mo := mo) (tr := tr) (u := .slice a3 P.length c3) HB6.out (by omega))
  have hs7 := rebox_size w6 B1 cy mo tr (.slice a3 P.length c3)
  have HZ := Lib.hid hz
  clear hb K1 hP hR3 hI3 hJ3 hA3 hy hz X5 Y5 Z5 HB5 x0 x1 x2 x3
  unfold gv at *
  have y0 := Y6.out.c0
  have y1 := Y6.out.c1
  have y2 := Y6.out.c2
  have y3 := Y6.out.c3
  have g0 := Y6.out.f 0
  have g1 := Y6.out.f 1
  have g2 := Y6.out.f 2
  have g3 := Y6.out.f 3
  have hB16 : B1 < w6.heap.size := by omega
  go_upto_region 6 with fail
  have e7 : (((w6.setCell ⟨B1, 0, none⟩ (.int .i64 cy)).setCell ⟨B1, 1, none⟩ (.int .i64 mo)).setCell ⟨B1, 2, none⟩ (.int .i64 tr)).setCell ⟨B1, 3, none⟩ (.slice a3 P.length c3) = rebox w6 B1 cy mo tr (.slice a3 P.length c3) := rfl
  rw [e7]
  clear e7 y0 y1 y2 y3 g0 g1 g2 g3
  generalize rebox w6 B1 cy mo tr (.slice a3 P.length c3) = w7 at *
  have x0 := X7.out.c0
  have x1 := X7.out.c1
  have x2 := X7.out.c2
  have x3 := X7.out.c3
  have K1 := Lib.hid (tick17 cy mo tr t a n c I S C w7 (HR.out.mono HB7.out) hc hn H0.out)
  unfold gv at *
  clear X6 Y6 Z6 HB6
  go_wp2_with fail
  refine K1.out.mono ?_
  rintro e w8 ⟨Pq, Aq, Bq, a4, b4, d4, c4, e4, f4, hP, rfl, hc4, hA4, hR4, hI4, hJ4, hb⟩
  have hE3 : (Pq, Aq, Bq) = (P, A, B) := hP.trans HP.out.symm
  cases hE3
  have X8 := Lib.hid (X7.out.mono hb)
  have Y8 := Lib.hid (Y7.out.mono hb)
  have Z8 := Lib.hid (Z7.out.mono hb)
  have HB8 := Lib.hid (bthen HB7.out hb (by omega))
  have hs8 := hb.size
  have X9 := Lib.hid (X8.out.other (show B2 ≠ w.heap.size by omega) (.slice a4 P.length c4))
  have Y9 := Lib.hid (Y8.out.other (show B2 ≠ B1 by omega) (.slice a4 P.length c4))
  have Z9 := Lib.hid (Z8.out.re (.slice a4 P.length c4))
  have Sa := Lib.hid (Z8.out.r3 HZ.out (.slice a4 P.length c4) (Ra.out.mono hb))
  have Sb := Lib.hid (Z8.out.row HZ.out (.slice a4 P.length c4) (Rb.out.mono hb))
  have Sc := Lib.hid (Z8.out.row HZ.out (.slice a4 P.length c4) (Rc.out.mono hb))
  have Ta := Lib.hid (Z8.out.r3 HZ.out (.slice a4 P.length c4) hR4)
  have Tb := Lib.hid (Z8.out.row HZ.out (.slice a4 P.length c4) hI4)
  have Tc := Lib.hid (Z8.out.row HZ.out (.slice a4 P.length c4) hJ4)
  have HB9 := Lib.hid (below_rebox (B := B2) (cy := cy) (mo := mo) (tr := tr) (u := .slice a4 P.length c4) HB8.out (by omega))
  have hs9 := rebox_size w8 B2 cy mo tr (.slice a4 P.length c4)
  clear hb K1 hP hR4 hI4 hJ4 hA4 X7 Y7 Z7 HB7 x0 x1 x2 x3 Ra Rb Rc HP
  have y0 := Z8.out.c0
  have y1 := Z8.out.c1
  have y2 := Z8.out.c2
  have y3 := Z8.out.c3
  have g0 := Z8.out.f 0
  have g1 := Z8.out.f 1
  have g2 := Z8.out.f 2
  have g3 := Z8.out.f 3
  have hB16 : B2 < w8.heap.size := by omega
  unfold gv at *
  go_upto_region 7 with fail
  have e7 : (((w8.setCell ⟨B2, 0, none⟩ (.int .i64 cy)).setCell ⟨B2, 1, none⟩ (.int .i64 mo)).setCell ⟨B2, 2, none⟩ (.int .i64 tr)).setCell ⟨B2, 3, none⟩ (.slice a4 P.length c4) = rebox w8 B2 cy mo tr (.slice a4 P.length c4) := rfl
  rw [e7]
  clear e7 y0 y1 y2 y3 g0 g1 g2 g3
  generalize rebox w8 B2 cy mo tr (.slice a4 P.length c4) = w9 at *
  have y0 := Y9.out.c0
  have y1 := Y9.out.c1
  have y2 := Y9.out.c2
  have y3 := Y9.out.c3
  have z0 := Z9.out.c0
  have z1 := Z9.out.c1
  have z2 := Z9.out.c2
  have z3 := Z9.out.c3
  have lA : A.length ≤ maxLen := by unfold maxLen; omega
  have lB : B.length ≤ maxLen := by unfold maxLen; omega
  have lP : P.length ≤ maxLen := by unfold maxLen; omega
  have K1 := Lib.hid (same25 cy mo tr a3 a4 P.length c3 c4 (pI P) (pS P) (pC P) w9 Sa.out Ta.out lP)
  have K2 := Lib.hid fun (W : World) (h : Below w9.heap.size w9 W) => same24 b3 b4 A.length e3 A.length e4 (nI A) (nI A) W (Sb.out.mono h) (Tb.out.mono h) lA lA
  have K3 := Lib.hid fun (W : World) (h : Below w9.heap.size w9 W) => same24 d3 d4 B.length f3 B.length f4 (nI B) (nI B) W (Sc.out.mono h) (Tc.out.mono h) lB lB
  rw [show same A.length A.length (nI A) (nI A) = true from same_true rfl fun _ _ => rfl] at K2
  rw [show same B.length B.length (nI B) (nI B) = true from same_true rfl fun _ _ => rfl] at K3
  clear lA lB lP hl
  unfold gv at *
  generalize tkE cy mo tr t n I S C = E2 at *
  have q1 : (E2 != E2) = false := by simp
  go_wp2_with fail
  refine K1.out.mono ?_
  rintro e w10 ⟨rfl, hb⟩
  have HC10 := Lib.hid hb
  clear hb K1
  go_wp2_with fail
  refine (K2.out w10 HC10.out).mono ?_
  rintro e w11 ⟨rfl, hb⟩
  have HC11 := Lib.hid (bthen' HC10.out hb)
  clear hb K2 HC10
  go_wp2_with fail
  refine (K3.out w11 HC11.out).mono ?_
  rintro e w12 ⟨rfl, hb⟩
  have HC12 := bthen' HC11.out hb
  have X12 := Lib.hid (X9.out.mono HC12)
  have Y12 := Lib.hid (Y9.out.mono HC12)
  have Z12 := Lib.hid (Z9.out.mono HC12)
  have HB12 := Lib.hid (bthen HB9.out HC12 (by omega))
  have hs12 := HC12.size
  clear hb K3 HC11 HC12 X8 Y8 Z8 HB8 X9 Y9 Z9 HB9 Sa Sb Sc Ta Tb Tc y0 y1 y2 y3 z0 z1 z2 z3 q1
  have x0 := X12.out.c0
  have x1 := X12.out.c1
  have x2 := X12.out.c2
  have x3 := X12.out.c3
  have K1 := Lib.hid (answer18 cy mo tr id a n c I S C w12 (HR.out.mono HB12.out) hc hn H0.out hn1)
  unfold gv at *
  go_wp2_with fail
  refine K1.out.mono ?_
  rintro e w13 ⟨L, a5, c5, hL, rfl, hc5, hA5, hR5, hb⟩
  have X13 := Lib.hid (X12.out.mono hb)
  have Y13 := Lib.hid (Y12.out.mono hb)
  have Z13 := Lib.hid (Z12.out.mono hb)
  have HB13 := Lib.hid (bthen HB12.out hb (by omega))
  have hs13 := hb.size
  have HL := Lib.hid hL
  have hl : L.length ≤ n := by rw [hL]; exact anO_len cy mo tr id n I S C
  have hy : ∀ y, (Value.slice a3 P.length c3) ≠ .int .i64 y := fun y e => by cases e
  have hz : ∀ y, (Value.slice a4 P.length c4) ≠ .int .i64 y := fun y e => by cases e
  have HZ2 := Lib.hid hz
  have Y14 := Lib.hid (Y13.out.re (.slice a5 L.length c5))
  have X14 := Lib.hid (X13.out.other (show B1 ≠ w.heap.size by omega) (.slice a5 L.length c5))
  have Z14 := Lib.hid (Z13.out.other (show B1 ≠ B2 by omega) (.slice a5 L.length c5))
  have Ra := Lib.hid (Y13.out.r3 hy (.slice a5 L.length c5) hR5)
  have HB14 := Lib.hid (below_rebox (B := B1) (cy := cy) (mo := mo) (tr := tr) (u := .slice a5 L.length c5) HB13.out (by omega))
  have hs14 := rebox_size w13 B1 cy mo tr (.slice a5 L.length c5)
  clear hb K1 hL hR5 hA5 hy hz X12 Y12 Z12 HB12 x0 x1 x2 x3
  have y0 := Y13.out.c0
  have y1 := Y13.out.c1
  have y2 := Y13.out.c2
  have y3 := Y13.out.c3
  have g0 := Y13.out.f 0
  have g1 := Y13.out.f 1
  have g2 := Y13.out.f 2
  have g3 := Y13.out.f 3
  have hB13 : B1 < w13.heap.size := by omega
  unfold gv at *
  go_upto_region 10 with fail
  have e7 : (((w13.setCell ⟨B1, 0, none⟩ (.int .i64 cy)).setCell ⟨B1, 1, none⟩ (.int .i64 mo)).setCell ⟨B1, 2, none⟩ (.int .i64 tr)).setCell ⟨B1, 3, none⟩ (.slice a5 L.length c5) = rebox w13 B1 cy mo tr (.slice a5 L.length c5) := rfl
  rw [e7]
  clear e7 y0 y1 y2 y3 g0 g1 g2 g3
  generalize rebox w13 B1 cy mo tr (.slice a5 L.length c5) = w14 at *
  have x0 := X14.out.c0
  have x1 := X14.out.c1
  have x2 := X14.out.c2
  have x3 := X14.out.c3
  have K1 := Lib.hid (answer15 cy mo tr id a n c I S C w14 (HR.out.mono HB14.out) hc hn H0.out)
  unfold gv at *
  clear X13 Y13 Z13 HB13
  go_wp2_with fail
  refine K1.out.mono ?_
  rintro e w15 ⟨L', a6, c6, hL, rfl, hc6, hA6, hR6, hb⟩
  obtain rfl : L' = L := hL.trans HL.out.symm
  have X15 := Lib.hid (X14.out.mono hb)
  have Y15 := Lib.hid (Y14.out.mono hb)
  have Z15 := Lib.hid (Z14.out.mono hb)
  have HB15 := Lib.hid (bthen HB14.out hb (by omega))
  have hs15 := hb.size
  have Y16 := Lib.hid (Y15.out.other (show B2 ≠ B1 by omega) (.slice a6 L'.length c6))
  have Z16 := Lib.hid (Z15.out.re (.slice a6 L'.length c6))
  have Sa := Lib.hid (Z15.out.r3 HZ2.out (.slice a6 L'.length c6) (Ra.out.mono hb))
  have Ta := Lib.hid (Z15.out.r3 HZ2.out (.slice a6 L'.length c6) hR6)
  have HB16 := Lib.hid (below_rebox (B := B2) (cy := cy) (mo := mo) (tr := tr) (u := .slice a6 L'.length c6) HB15.out (by omega))
  have hs16 := rebox_size w15 B2 cy mo tr (.slice a6 L'.length c6)
  clear hb K1 hL hR6 hA6 X14 Y14 Z14 HB14 x0 x1 x2 x3 Ra HL
  have y0 := Z15.out.c0
  have y1 := Z15.out.c1
  have y2 := Z15.out.c2
  have y3 := Z15.out.c3
  have g0 := Z15.out.f 0
  have g1 := Z15.out.f 1
  have g2 := Z15.out.f 2
  have g3 := Z15.out.f 3
  have hB15 : B2 < w15.heap.size := by omega
  unfold gv at *
  go_upto_region 11 with fail
  have e7 : (((w15.setCell ⟨B2, 0, none⟩ (.int .i64 cy)).setCell ⟨B2, 1, none⟩ (.int .i64 mo)).setCell ⟨B2, 2, none⟩ (.int .i64 tr)).setCell ⟨B2, 3, none⟩ (.slice a6 L'.length c6) = rebox w15 B2 cy mo tr (.slice a6 L'.length c6) := rfl
  rw [e7]
  clear e7 y0 y1 y2 y3 g0 g1 g2 g3
  generalize rebox w15 B2 cy mo tr (.slice a6 L'.length c6) = w16 at *
  have y0 := Y16.out.c0
  have y1 := Y16.out.c1
  have y2 := Y16.out.c2
  have y3 := Y16.out.c3
  have z0 := Z16.out.c0
  have z1 := Z16.out.c1
  have z2 := Z16.out.c2
  have z3 := Z16.out.c3
  have lP : L'.length ≤ maxLen := by unfold maxLen; omega
  have K1 := Lib.hid (same25 cy mo tr a5 a6 L'.length c5 c6 (pI L') (pS L') (pC L') w16 Sa.out Ta.out lP)
  clear lP hl
  unfold gv at *
  generalize anOk cy mo tr id n I S C = E3 at *
  have q1 : (E3 == E3) = true := by simp
  go_wp2_with fail
  refine K1.out.mono ?_
  rintro e w17 ⟨rfl, hb⟩
  have HB17 := Lib.hid (bthen HB16.out hb (by omega))
  clear hb K1
  go_wp2
  go_ret
  exact ⟨rfl, HB17.out⟩
end
end Go.Proofs.Ytobmnajgbhgdlaa
