/- Layer 37: all functions do what the reference does. -/
import Derived.Test.YtbhldnfldkjoiaaM5
import Derived.Test.YtbhldnfldkjoiaaM7
import Derived.Test.YtbhldnfldkjoiaaM9
namespace Go.Proofs.Ytbhldnfldkjoiaa
set_option linter.unusedVariables false
set_option linter.unusedSimpArgs false
open Go.RowKit Go.Sort
attribute [local go_sem] gcell

/-- A measurement that lies in a box. -/
structure Sb (w : World) (p : Nat) (a d : Option Addr) (n c m l : Nat) (fs hs : Nat → Int) : Prop where
  c0 : w.cell? ⟨p, 0, none⟩ = some (.slice a n c)
  c1 : w.cell? ⟨p, 1, none⟩ = some (.slice d m l)
  s : Sg w (sv a d n c m l) n m fs hs
theorem Sb.mono {w w' : World} {p : Nat} {a d : Option Addr} {n c m l : Nat} {fs hs : Nat → Int} (S : Sb w p a d n c m l fs hs) (hb : Below w.heap.size w w') : Sb w' p a d n c m l fs hs :=
  ⟨up hb S.c0, up hb S.c1, S.s.mono hb⟩
theorem Sb.new {w : World} {p : Nat} {a d : Option Addr} {n c m l : Nat} {fs hs : Nat → Int} (S : Sg w (sv a d n c m l) n m fs hs) (hp : p = w.heap.size) : Sb (w.alloc (.cells #[.slice a n c, .slice d m l] 26)) p a d n c m l fs hs := by
  subst hp
  exact ⟨by simp [go_sem], by simp [go_sem], S.mono ((Below.refl _ _).alloc (Nat.le_refl _) _)⟩

/-- A rule that lies in a box. -/
structure Rb (w : World) (p : Nat) (mg bk hd : Int) : Prop where
  r0 : w.cell? ⟨p, 0, none⟩ = some (.int .i64 mg)
  r1 : w.cell? ⟨p, 1, none⟩ = some (.int .i64 bk)
  r2 : w.cell? ⟨p, 2, none⟩ = some (.int .i64 hd)
theorem Rb.mono {w w' : World} {p : Nat} {mg bk hd : Int} (S : Rb w p mg bk hd) (hb : Below w.heap.size w w') : Rb w' p mg bk hd :=
  ⟨up hb S.r0, up hb S.r1, up hb S.r2⟩
theorem Rb.new (w : World) (mg bk hd : Int) : Rb (w.alloc (.cells #[.int .i64 mg, .int .i64 bk, .int .i64 hd] 23)) w.heap.size mg bk hd := ⟨by simp [go_sem], by simp [go_sem], by simp [go_sem]⟩
theorem Sg.rows1 {w : World} {a d : Option Addr} {n c m l : Nat} {fs hs : Nat → Int} (S : Sg w (sv a d n c m l) n m fs hs) : Row w a n fs := by
  obtain ⟨a', d', c', l', h1, _, _, h4, h5⟩ := S
  unfold sv at h1
  simp at h1
  obtain ⟨⟨rfl, rfl⟩, rfl, rfl⟩ := h1
  exact h4
theorem Sg.rows2 {w : World} {a d : Option Addr} {n c m l : Nat} {fs hs : Nat → Int} (S : Sg w (sv a d n c m l) n m fs hs) : Row w d m hs := by
  obtain ⟨a', d', c', l', h1, _, _, h4, h5⟩ := S
  unfold sv at h1
  simp at h1
  obtain ⟨⟨rfl, rfl⟩, rfl, rfl⟩ := h1
  exact h5
theorem below_alloc (w : World) (o : Obj) : Below w.heap.size w (w.alloc o) := (Below.refl _ _).alloc (Nat.le_refl _) _

theorem same_self (n : Nat) (xs : Nat → Int) : same n n xs xs = true := same_true rfl fun _ _ => rfl

set_option maxRecDepth 100000 in
set_option maxHeartbeats 4000000 in
theorem agree11 (mg bk hd own : Int) (v : Value) (ar : Option Addr) (n m r cr : Nat) (fs hs qs : Nat → Int) (w : World) (S : Sg w v n m fs hs) (RQ : Row w ar r qs) (hn : n ≤ 1000) (hm : m ≤ 1000) (hr : r ≤ 1000) :
    Calls Try.prog 11 #[rv mg bk hd, v, .int .i64 own, .slice ar r cr] w fun e w' => e = .returned (.bool true) ∧ Below w.heap.size w w' := by
  have hB : Below w.heap.size w (w.alloc (.cells #[.int .i64 mg, .int .i64 bk, .int .i64 hd] 23)) := (Below.refl _ _).alloc (Nat.le_refl _) _
  have S1 := S.mono hB
  have HB := Lib.hid hB
  obtain ⟨a, d, c, l, rfl, _⟩ := S
  have hsb := Sb.new (p := w.heap.size + 1) S1 (by simp)
  have HSB := Lib.hid hsb
  have HB0 := Lib.hid (HB.out.alloc HB.out.size (.cells #[.slice a n c, .slice d m l] 26))
  have RQ0 := Lib.hid (RQ.mono HB0.out)
  obtain ⟨F, hF⟩ : ∃ F, F = stepF mg bk hd n m fs hs own r qs := ⟨_, rfl⟩
  obtain ⟨G, hG⟩ : ∃ G, G = stepH mg bk hd n m fs hs own r qs := ⟨_, rfl⟩
  obtain ⟨E, hE⟩ : ∃ E, E = stepE mg bk hd n m fs hs own r qs := ⟨_, rfl⟩
  obtain ⟨X, hX⟩ : ∃ X, X = repV mg bk hd own n m fs hs := ⟨_, rfl⟩
  obtain ⟨C, hC⟩ : ∃ C, C = chk mg bk hd n m fs hs := ⟨_, rfl⟩
  have K1 := Lib.hid fun w S RQ => step18 mg bk hd own (sv a d n c m l) ar n m r cr fs hs qs w S RQ hn hm hr
  have K2 := Lib.hid fun w S RQ => step17 mg bk hd own (sv a d n c m l) ar n m r cr fs hs qs w S RQ hn hm hr
  have K3 := Lib.hid fun w S => report19 mg bk hd own (sv a d n c m l) n m fs hs w S hn hm
  have K4 := Lib.hid fun w S => report21 mg bk hd own (sv a d n c m l) n m fs hs w S hn hm
  have K5 := Lib.hid fun w R S => check22 mg bk hd a d n c m l fs hs w R S hn hm
  have K6 := Lib.hid fun w R S => check23 mg bk hd a d n c m l fs hs w R S hn hm
  rw [← hF, ← hG, ← hE] at K1 K2
  rw [← hX] at K3 K4
  rw [← hC] at K5 K6
  clear hF hG hE hX hC HB S1 RQ hsb
  unfold rv sv at K1 K2 K3 K4 K5 K6
  unfold rv sv
  have HRB := Lib.hid ((Rb.new w mg bk hd).mono (below_alloc _ (.cells #[.slice a n c, .slice d m l] 26)))
  go_enter Try.func11, Try.ntmps11
  go_wp2_with (go_at_call 18; refine (K1.out _ HSB.out.s RQ0.out).mono ?_)
  intro e w1 h
  obtain ⟨v1, rfl, s1, hb1⟩ := h
  have S1 := s1
  obtain ⟨a1, d1, c1, l1, rfl, _⟩ := s1
  have hA := below_alloc w1 (.cells #[.slice a1 n c1, .slice d1 m l1] 26)
  have HX1 := Lib.hid (Sb.new S1 rfl)
  have HS1 := Lib.hid ((HSB.out.mono hb1).mono hA)
  have HR1 := Lib.hid ((HRB.out.mono hb1).mono hA)
  have RQ1 := Lib.hid ((RQ0.out.mono hb1).mono hA)
  have hB1 := bthen HB0.out hb1 HB0.out.size
  have HB1 := Lib.hid (bthen hB1 hA hB1.size)
  have b0 := (HSB.out.mono hb1).c0
  have b1 := (HSB.out.mono hb1).c1
  have r0 := (HRB.out.mono hb1).r0
  have r1 := (HRB.out.mono hb1).r1
  have r2 := (HRB.out.mono hb1).r2
  have lt0 := lt_of_cell b0
  have lt1 := lt_of_cell r0
  clear hb1 hA S1 hB1 HSB HRB RQ0 HB0
  unfold sv
  go_wp2_with (go_at_call 17; refine (K2.out _ HS1.out.s RQ1.out).mono ?_)
  intro e w2 h
  obtain ⟨v2, rfl, s2, hb2⟩ := h
  have S2 := s2
  obtain ⟨a2, d2, c2, l2, rfl, _⟩ := s2
  have hA := below_alloc w2 (.cells #[.slice a2 n c2, .slice d2 m l2] 26)
  have HY2 := Lib.hid (Sb.new S2 rfl)
  have HX2 := Lib.hid ((HX1.out.mono hb2).mono hA)
  have HS2 := Lib.hid ((HS1.out.mono hb2).mono hA)
  have HR2 := Lib.hid ((HR1.out.mono hb2).mono hA)
  have hB2 := bthen HB1.out hb2 HB1.out.size
  have HB2 := Lib.hid (bthen hB2 hA hB2.size)
  clear b0 b1 r0 r1 r2
  have b0 := (HS1.out.mono hb2).c0
  have b1 := (HS1.out.mono hb2).c1
  have r0 := (HR1.out.mono hb2).r0
  have r1 := (HR1.out.mono hb2).r1
  have r2 := (HR1.out.mono hb2).r2
  have lt2 := lt_of_cell b0
  have lt3 := lt_of_cell r0
  clear hb2 hA S2 hB2 HS1 HR1 RQ1 HB1 HX1
  unfold sv
  go_wp2_with (go_at_call 19; refine (K3.out _ HS2.out.s).mono ?_)
  rintro e w3 ⟨rfl, hb3⟩
  have HY3 := Lib.hid (HY2.out.mono hb3)
  have HX3 := Lib.hid (HX2.out.mono hb3)
  have HS3 := Lib.hid (HS2.out.mono hb3)
  have HR3 := Lib.hid (HR2.out.mono hb3)
  have HB3 := Lib.hid (bthen HB2.out hb3 HB2.out.size)
  clear b0 b1 r0 r1 r2
  have b0 := HS3.out.c0
  have b1 := HS3.out.c1
  have r0 := HR3.out.r0
  have r1 := HR3.out.r1
  have r2 := HR3.out.r2
  clear hb3 HS2 HR2 HB2 HX2 HY2
  go_wp2_with (go_at_call 21; refine (K4.out _ HS3.out.s).mono ?_)
  rintro e w4 ⟨rfl, hb4⟩
  have HY := Lib.hid (HY3.out.mono hb4)
  have HX := Lib.hid (HX3.out.mono hb4)
  have HS := Lib.hid (HS3.out.mono hb4)
  have HR := Lib.hid (HR3.out.mono hb4)
  have HB := Lib.hid (bthen HB3.out hb4 HB3.out.size)
  clear b0 b1 r0 r1 r2
  have b0 := HS.out.c0
  have b1 := HS.out.c1
  have r0 := HR.out.r0
  have r1 := HR.out.r1
  have r2 := HR.out.r2
  have x0 := HX.out.c0
  have x1 := HX.out.c1
  have y0 := HY.out.c0
  have y1 := HY.out.c1
  have lt4 := lt_of_cell b0
  have lt5 := lt_of_cell r0
  have lt6 := lt_of_cell x0
  have lt7 := lt_of_cell y0
  have k12 : ∀ dd os, Calls Try.prog 12 #[sv a1 d1 n c1 m l1, sv a2 d2 n c2 m l2] (grow (redrawn w4 dd) os) fun e w' => e = .returned (.bool true) ∧ Below (grow (redrawn w4 dd) os).heap.size (grow (redrawn w4 dd) os) w' := fun dd os => by
    have h := same12 _ _ n m n m F G F G (grow (redrawn w4 dd) os) (HX.out.s.mono (below_regrown _ _ _)) (HY.out.s.mono (below_regrown _ _ _)) hn hm hn hm
    rw [same_self, same_self] at h
    exact h
  have K12 := Lib.hid k12
  unfold sv at K12
  have k22 := Lib.hid fun dd os => K5.out (grow (redrawn w4 dd) os) (HS.out.s.rows1.mono (below_regrown _ _ _)) (HS.out.s.rows2.mono (below_regrown _ _ _))
  have k23 := Lib.hid fun dd os => K6.out (grow (redrawn w4 dd) os) (HS.out.s.rows1.mono (below_regrown _ _ _)) (HS.out.s.rows2.mono (below_regrown _ _ _))
  clear hb4 HS3 HR3 HB3 HX3 HY3 k12
  go_wp2_with fail
  refine wp_region_quiet_below (by kernel_rfl) (by kernel_rfl) ?_
  repeat (go_big_quiet_step (first | (go_at_call 12; exact Calls.regrown_of (K12.out _ _)) | (go_at_call 22; exact Calls.regrown_of (k22.out _ _)) | (go_at_call 23; exact Calls.regrown_of (k23.out _ _))))
  refine wpQuiet_nil ?_
  intro w5 hw5
  have HB5 := Lib.hid (bthen HB.out (below_of_regrown hw5) HB.out.size)
  clear hw5 b0 b1 r0 r1 r2 x0 x1 y0 y1
  go_wp2
  go_ret
  exact ⟨rfl, HB5.out⟩
end Go.Proofs.Ytbhldnfldkjoiaa
