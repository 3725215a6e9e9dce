/- Layer 37: the sanity check. -/
import Derived.Test.YtbhldnfldkjoiaaM10
namespace Go.Proofs.Ytbhldnfldkjoiaa
set_option linter.unusedVariables false
set_option linter.unusedSimpArgs false
open Go.RowKit Go.Sort
attribute [local go_sem] gcell

def q15 (k : Nat) : Int := if k = 0 then 0 else 15
def aF : Nat → Int := stepF 2 1 2 2 2 zz zz 0 2 q15
def aH : Nat → Int := stepH 2 1 2 2 2 zz zz 0 2 q15
def bF : Nat → Int := stepF 2 1 2 2 2 aF aH 0 2 q15
def bH : Nat → Int := stepH 2 1 2 2 2 aF aH 0 2 q15
theorem aE : stepE 2 1 2 2 2 zz zz 0 2 q15 = 0 := by decide
theorem bE : stepE 2 1 2 2 2 aF aH 0 2 q15 = 0 := by decide
theorem bR : repV 2 1 2 0 2 2 bF bH = (1, true) := by decide
def l105 (k : Nat) : Int := if k = 0 then 0 else 105
theorem bS : same 2 2 bF l105 = true := by decide
theorem row2 {w : World} {g : Nat} {x y : Int} {xs : Nat → Int} (h0 : w.cell? ⟨g, 0, none⟩ = some (.int .i64 x)) (h1 : w.cell? ⟨g, 1, none⟩ = some (.int .i64 y)) (e0 : xs 0 = x) (e1 : xs 1 = y) : Row w (some ⟨g, 0, none⟩) 2 xs :=
  ⟨g, 0, fun _ => rfl, fun k hk => by
    match k, hk with
    | 0, _ => rw [e0]; exact h0
    | 1, _ => rw [e1]; exact h1⟩
/-- A variable that holds a measurement. -/
structure Sx (w : World) (p : Nat) (a d : Option Addr) (n c m l : Nat) (fs hs : Nat → Int) : Prop where
  b : Sb w p a d n c m l fs hs
  f0 : w.frozen? ⟨p, 0, none⟩ = false
  f1 : w.frozen? ⟨p, 1, none⟩ = false
  far : ∀ o, 2 ≤ o → w.cell? ⟨p, o, none⟩ = none
theorem Sx.lt {w : World} {p : Nat} {a d : Option Addr} {n c m l : Nat} {fs hs : Nat → Int} (S : Sx w p a d n c m l fs hs) : p < w.heap.size := lt_of_cell S.b.c0
theorem Sx.mono {w w' : World} {p : Nat} {a d : Option Addr} {n c m l : Nat} {fs hs : Nat → Int} (S : Sx w p a d n c m l fs hs) (hb : Below w.heap.size w w') : Sx w' p a d n c m l fs hs :=
  ⟨S.b.mono hb, upf hb S.lt S.f0, upf hb S.lt S.f1, fun o ho => (hb.cell (p := ⟨p, o, none⟩) S.lt).trans (S.far o ho)⟩
theorem Sx.new {w : World} {p : Nat} {a d : Option Addr} {n c m l : Nat} {fs hs : Nat → Int} (S : Sg w (sv a d n c m l) n m fs hs) (hp : p = w.heap.size) : Sx (w.alloc (.cells #[.slice a n c, .slice d m l] 26)) p a d n c m l fs hs := by
  refine ⟨Sb.new S hp, by subst hp; simp [go_sem], by subst hp; simp [go_sem], fun o ho => ?_⟩
  subst hp
  match o, ho with
  | o + 2, _ => simp [go_sem]
theorem Sx.put {w : World} {p : Nat} {a d a' d' : Option Addr} {n c m l n' c' m' l' : Nat} {fs hs fs' hs' : Nat → Int} (B : Sx w p a d n c m l fs hs) (S : Sg w (sv a' d' n' c' m' l') n' m' fs' hs') :
    Sx ((w.setCell ⟨p, 0, none⟩ (.slice a' n' c')).setCell ⟨p, 1, none⟩ (.slice d' m' l')) p a' d' n' c' m' l' fs' hs' := by
  have c0 := B.b.c0
  have c1 := B.b.c1
  refine ⟨⟨by simp [cell_set, c0], by simp [cell_set, c1], S.set2 (fun b o x h e => ?_) _ _⟩, ?_, ?_, fun o ho => ?_⟩
  · subst e
    match o with
    | 0 => rw [c0] at h; cases h
    | 1 => rw [c1] at h; cases h
    | o + 2 => rw [B.far (o + 2) (by omega)] at h; cases h
  · rw [World.frozen?_setCell, World.frozen?_setCell]; exact B.f0
  · rw [World.frozen?_setCell, World.frozen?_setCell]; exact B.f1
  · have h1 : ¬ (0 = o) := by omega
    have h2 : ¬ (1 = o) := by omega
    rw [cell_set, if_neg (by simp [h2]), cell_set, if_neg (by simp [h1])]; exact B.far o ho
theorem Rb.far {w : World} {p q : Nat} {mg bk hd : Int} (R : Rb w p mg bk hd) (h : q ≠ p) (x y : Value) : Rb ((w.setCell ⟨q, 0, none⟩ x).setCell ⟨q, 1, none⟩ y) p mg bk hd :=
  ⟨by rw [cell_set, if_neg (by simp [h]), cell_set, if_neg (by simp [h])]; exact R.r0, by rw [cell_set, if_neg (by simp [h]), cell_set, if_neg (by simp [h])]; exact R.r1, by rw [cell_set, if_neg (by simp [h]), cell_set, if_neg (by simp [h])]; exact R.r2⟩

theorem Rb.at {p : Nat} (w : World) (mg bk hd : Int) (hp : p = w.heap.size) : Rb (w.alloc (.cells #[.int .i64 mg, .int .i64 bk, .int .i64 hd] 23)) p mg bk hd := by
  subst hp
  exact Rb.new _ _ _ _

set_option maxHeartbeats 4000000 in
theorem awake8 (w : World) : Calls Try.prog 8 #[] w fun e w' => e = .returned (.bool true) ∧ Below w.heap.size w w' := by
  have K9 := Lib.hid fun w => new9 2 w
  have K1 := Lib.hid fun v g c w S R => step18 2 1 2 0 v (some ⟨g, 0, none⟩) 2 2 2 c zz zz q15 w S R (by omega) (by omega) (by omega)
  have K2 := Lib.hid fun v g c w S R => step18 2 1 2 0 v (some ⟨g, 0, none⟩) 2 2 2 c aF aH q15 w S R (by omega) (by omega) (by omega)
  have K3 := Lib.hid fun v w S => report19 2 1 2 0 v 2 2 bF bH w S (by omega) (by omega)
  rw [show newN 2 = 2 by decide, show newE 2 = 0 by decide] at K9
  rw [aE] at K1
  rw [bE] at K2
  rw [bR] at K3
  change Hid (∀ v g c w, _ → _ → Calls _ _ _ w (SR 2 2 aF aH 0 w)) at K1
  change Hid (∀ v g c w, _ → _ → Calls _ _ _ w (SR 2 2 bF bH 0 w)) at K2
  unfold rv at K1 K2 K3
  go_enter Try.func8, Try.ntmps8
  go_wp2_with (go_at_call 9; refine (K9.out _).mono ?_)
  intro e w1 h
  obtain ⟨v1, rfl, s1, hb1⟩ := h
  have S1 := s1
  obtain ⟨a1, d1, c1, l1, rfl, _⟩ := s1
  have HB1 := Lib.hid hb1
  have hx := Sx.new (p := w1.heap.size) S1 rfl
  have HX1 := Lib.hid ((hx.mono (below_alloc _ (.cells #[.int .i64 2, .int .i64 1, .int .i64 2] 23))).mono (below_alloc _ (.cells #[.int .i64 0, .int .i64 15] 3)))
  have HR1 := Lib.hid ((Rb.at (p := w1.heap.size + 1) (w1.alloc (.cells #[.slice a1 2 c1, .slice d1 2 l1] 26)) 2 1 2 (by simp)).mono (below_alloc _ (.cells #[.int .i64 0, .int .i64 15] 3)))
  have HQ1 := Lib.hid (row2 (xs := q15) (w := ((w1.alloc (.cells #[.slice a1 2 c1, .slice d1 2 l1] 26)).alloc (.cells #[.int .i64 2, .int .i64 1, .int .i64 2] 23)).alloc (.cells #[.int .i64 0, .int .i64 15] 3)) (g := w1.heap.size + 1 + 1) (x := 0) (y := 15) (by simp [go_sem]) (by simp [go_sem]) rfl rfl)
  have HB2 := Lib.hid (((HB1.out.alloc HB1.out.size (.cells #[.slice a1 2 c1, .slice d1 2 l1] 26)).alloc (by have := HB1.out.size; simp; omega) (.cells #[.int .i64 2, .int .i64 1, .int .i64 2] 23)).alloc (by have := HB1.out.size; simp; omega) (.cells #[.int .i64 0, .int .i64 15] 3))
  clear hx S1 hb1
  unfold sv
  go_wp2_with (go_at_call 18; refine (K1.out _ _ _ _ HX1.out.b.s HQ1.out).mono ?_)
  intro e w2 h
  obtain ⟨v2, rfl, s2, hb2⟩ := h
  have S2 := s2
  obtain ⟨a2, d2, c2, l2, rfl, _⟩ := s2
  have X2 := HX1.out.mono hb2
  have hR2 := HR1.out.mono hb2
  have b0 := X2.b.c0
  have b1 := X2.b.c1
  have f0 := X2.f0
  have f1 := X2.f1
  have r0 := hR2.r0
  have r1 := hR2.r1
  have r2 := hR2.r2
  have lt0 := lt_of_cell b0
  have lt1 := lt_of_cell r0
  have HX2 := Lib.hid ((X2.put S2).mono (below_alloc _ (.cells #[.int .i64 0, .int .i64 15] 3)))
  have z1 : w.heap.size ≤ w1.heap.size := HB1.out.size
  have HR2 := Lib.hid ((hR2.far (q := w1.heap.size) (by simp) (.slice a2 2 c2) (.slice d2 2 l2)).mono (below_alloc _ (.cells #[.int .i64 0, .int .i64 15] 3)))
  have hB3 := bthen HB2.out hb2 HB2.out.size
  have hB4 : Below w.heap.size w ((w2.setCell ⟨w1.heap.size, 0, none⟩ (.slice a2 2 c2)).setCell ⟨w1.heap.size, 1, none⟩ (.slice d2 2 l2)) := (hB3.setCell z1 _).setCell z1 _
  have HB4 := Lib.hid (hB4.alloc hB4.size (.cells #[.int .i64 0, .int .i64 15] 3))
  have HQ2 := Lib.hid (row2 (xs := q15) (w := ((w2.setCell ⟨w1.heap.size, 0, none⟩ (.slice a2 2 c2)).setCell ⟨w1.heap.size, 1, none⟩ (.slice d2 2 l2)).alloc (.cells #[.int .i64 0, .int .i64 15] 3)) (g := w2.heap.size) (x := 0) (y := 15) (by simp [go_sem]) (by simp [go_sem]) rfl rfl)
  clear hb2 S2 X2 hR2 hB3 hB4 HX1 HR1 HQ1 HB2
  unfold sv
  go_wp2_with (go_at_call 18; refine (K2.out _ _ _ _ HX2.out.b.s HQ2.out).mono ?_)
  intro e w3 h
  obtain ⟨v3, rfl, s3, hb3⟩ := h
  have S3 := s3
  obtain ⟨a3, d3, c3, l3, rfl, _⟩ := s3
  have X3 := HX2.out.mono hb3
  have hR3 := HR2.out.mono hb3
  clear b0 b1 f0 f1 r0 r1 r2 lt0 lt1
  have b0 := X3.b.c0
  have b1 := X3.b.c1
  have f0 := X3.f0
  have f1 := X3.f1
  have r0 := hR3.r0
  have r1 := hR3.r1
  have r2 := hR3.r2
  have lt0 := lt_of_cell b0
  have lt1 := lt_of_cell r0
  have HX3 := Lib.hid (X3.put S3)
  have HR3 := Lib.hid (hR3.far (q := w1.heap.size) (by simp) (.slice a3 2 c3) (.slice d3 2 l3))
  have hB5 := bthen HB4.out hb3 HB4.out.size
  have HB5 := Lib.hid (show Below w.heap.size w ((w3.setCell ⟨w1.heap.size, 0, none⟩ (.slice a3 2 c3)).setCell ⟨w1.heap.size, 1, none⟩ (.slice d3 2 l3)) from (hB5.setCell z1 _).setCell z1 _)
  clear hb3 S3 X3 hR3 hB5 HX2 HR2 HQ2 HB4
  unfold sv
  go_wp2_with (go_at_call 19; refine (K3.out _ _ HX3.out.b.s).mono ?_)
  rintro e w4 ⟨rfl, hb4⟩
  have X4 := HX3.out.mono hb4
  have HB6 := Lib.hid (bthen HB5.out hb4 HB5.out.size)
  clear b0 b1 f0 f1 r0 r1 r2 lt0 lt1
  have b0 := X4.b.c0
  have lt0 := lt_of_cell b0
  have HRW := Lib.hid (X4.b.s.rows1.mono (below_alloc _ (.cells #[.int .i64 0, .int .i64 105] 3)))
  have HQ4 := Lib.hid (row2 (xs := l105) (w := w4.alloc (.cells #[.int .i64 0, .int .i64 105] 3)) (g := w4.heap.size) (x := 0) (y := 105) (by simp [go_sem]) (by simp [go_sem]) rfl rfl)
  have HB7 := Lib.hid (HB6.out.alloc HB6.out.size (.cells #[.int .i64 0, .int .i64 105] 3))
  clear hb4 X4 HX3 HR3 HB5
  go_wp2_with (go_at_call 20; refine (same20 _ _ 2 _ 2 _ bF l105 _ HRW.out HQ4.out (by decide) (by decide)).mono ?_; rw [bS])
  rintro e w5 ⟨rfl, hb5⟩
  have HB8 := Lib.hid (bthen HB7.out hb5 HB7.out.size)
  clear hb5 HB7
  go_wp2
  go_ret
  exact ⟨rfl, HB8.out⟩
end Go.Proofs.Ytbhldnfldkjoiaa
