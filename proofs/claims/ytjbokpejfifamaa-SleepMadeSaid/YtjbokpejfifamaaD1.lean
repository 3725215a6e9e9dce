/- Layer 35: a rhythm that is made of numbers. -/
import Derived.Test.YtjbokpejfifamaaDice
import Derived.Test.YtjbokpejfifamaaS1
import Derived.Deep.RegionHeld3
namespace Go.Proofs.Ytjbokpejfifamaa
open Go.RowKit Go.Sort
attribute [local go_sem] gcell
set_option linter.unusedVariables false

/-- What rhythm hands back: a right rhythm, and the dice a little further on. -/
def GotRhythm (w : World) (p g : Nat) (a : Option Addr) (cap n : Nat) (xs : Nat → Int) (e : Ending) (w' : World) : Prop :=
  ∃ (c o m l s h : Int) (k : Nat), e = .returned (rv c o m l s h) ∧ (1 ≤ c ∧ c ≤ 40 ∧ 0 ≤ o ∧ o < c ∧ 1 ≤ m ∧ m ≤ c ∧ 0 ≤ l ∧ l < 9 ∧ (s = 0 ∨ (m ≤ s ∧ s ≤ c)) ∧ 0 ≤ h ∧ h < 5) ∧ DiceAt w' p g a cap n xs k ∧ OnlyP w w' p

/-- A rhythm in a variable. -/
structure Rvar (w : World) (b : Nat) (c o n l s h : Int) : Prop where
  r0 : w.cell? ⟨b, 0, none⟩ = some (.int .i64 c)
  r1 : w.cell? ⟨b, 1, none⟩ = some (.int .i64 o)
  r2 : w.cell? ⟨b, 2, none⟩ = some (.int .i64 n)
  r3 : w.cell? ⟨b, 3, none⟩ = some (.int .i64 l)
  r4 : w.cell? ⟨b, 4, none⟩ = some (.int .i64 s)
  r5 : w.cell? ⟨b, 5, none⟩ = some (.int .i64 h)
  f : ∀ o, w.frozen? ⟨b, o, none⟩ = false
theorem Rvar.new (w : World) (c o n l s h : Int) : Rvar (w.alloc (.cells #[.int .i64 c, .int .i64 o, .int .i64 n, .int .i64 l, .int .i64 s, .int .i64 h] 27)) w.heap.size c o n l s h :=
  ⟨by simp, by simp, by simp, by simp, by simp, by simp, fun o => by simp [go_sem]⟩
theorem Rvar.only {w w' : World} {b p : Nat} {c o n l s h : Int} (R : Rvar w b c o n l s h) (hO : OnlyP w w' p) (hb : b ≠ p) : Rvar w' b c o n l s h :=
  ⟨only_cell hO hb R.r0, only_cell hO hb R.r1, only_cell hO hb R.r2, only_cell hO hb R.r3, only_cell hO hb R.r4, only_cell hO hb R.r5, fun o => only_frozen hO hb (lt_of_cell R.r0) (R.f o)⟩
theorem Rvar.far {w : World} {b q : Nat} {c o n l s h : Int} (R : Rvar w b c o n l s h) (hb : q ≠ b) (i : Nat) (v : Value) : Rvar (w.setCell ⟨q, i, none⟩ v) b c o n l s h := by
  refine ⟨?_, ?_, ?_, ?_, ?_, ?_, fun o => ?_⟩
  all_goals first | (rw [cell_set, if_neg (by simp [hb])]; first | exact R.r0 | exact R.r1 | exact R.r2 | exact R.r3 | exact R.r4 | exact R.r5) | (rw [World.frozen?_setCell]; exact R.f o)
theorem Rvar.set1 {w : World} {b : Nat} {c o n l s h : Int} (R : Rvar w b c o n l s h) (x : Int) : Rvar (w.setCell ⟨b, 1, none⟩ (.int .i64 x)) b c x n l s h :=
  ⟨by simp [cell_set, R.r0], by simp [cell_set, R.r1], by simp [cell_set, R.r2], by simp [cell_set, R.r3], by simp [cell_set, R.r4], by simp [cell_set, R.r5], fun o => by rw [World.frozen?_setCell]; exact R.f o⟩
theorem Rvar.set2 {w : World} {b : Nat} {c o n l s h : Int} (R : Rvar w b c o n l s h) (x : Int) : Rvar (w.setCell ⟨b, 2, none⟩ (.int .i64 x)) b c o x l s h :=
  ⟨by simp [cell_set, R.r0], by simp [cell_set, R.r1], by simp [cell_set, R.r2], by simp [cell_set, R.r3], by simp [cell_set, R.r4], by simp [cell_set, R.r5], fun o => by rw [World.frozen?_setCell]; exact R.f o⟩
theorem Rvar.set4 {w : World} {b : Nat} {c o n l s h : Int} (R : Rvar w b c o n l s h) (x : Int) : Rvar (w.setCell ⟨b, 4, none⟩ (.int .i64 x)) b c o n l x h :=
  ⟨by simp [cell_set, R.r0], by simp [cell_set, R.r1], by simp [cell_set, R.r2], by simp [cell_set, R.r3], by simp [cell_set, R.r4], by simp [cell_set, R.r5], fun o => by rw [World.frozen?_setCell]; exact R.f o⟩

set_option maxHeartbeats 4000000 in
theorem rhythm10 (p g : Nat) (a : Option Addr) (cap n : Nat) (xs : Nat → Int) (k : Nat) (w : World) (hn : n ≤ 300) (D : DiceAt w p g a cap n xs k) :
    Calls Try.prog 10 #[.pointer (some ⟨p, 0, none⟩)] w (GotRhythm w p g a cap n xs) := by
  have hp : p < w.heap.size := lt_of_cell D.c0
  have hgl := D.gl
  have HD := Lib.hid (D.alloc (.cells #[.int .i64 0, .int .i64 0, .int .i64 0, .int .i64 0, .int .i64 0, .int .i64 0] 27))
  have HO := Lib.hid (only_refl (w.alloc (.cells #[.int .i64 0, .int .i64 0, .int .i64 0, .int .i64 0, .int .i64 0, .int .i64 0] 27)) p)
  clear D
  go_enter Try.func10, Try.ntmps10
  go_wp2_with fail
  refine (dice_next p g a cap n xs k 40 _ (by omega) hn HD.out).mono ?_
  have b1 := dval_bd xs n k 40 (by omega)
  generalize dval xs n k 40 = v1 at *
  rintro e w1 ⟨rfl, hD, hO⟩
  replace HO := Lib.hid (only_trans HO.out hO)
  replace HD := Lib.hid hD
  clear hD hO
  go_wp2_with fail
  refine (dice_next p g a cap n xs _ 9 _ (by omega) hn HD.out).mono ?_
  have b2 := dval_bd xs n (dnext n k) 9 (by omega)
  generalize dval xs n (dnext n k) 9 = v2 at *
  rintro e w2 ⟨rfl, hD, hO⟩
  replace HO := Lib.hid (only_trans HO.out hO)
  replace HD := Lib.hid hD
  clear hD hO
  go_wp2_with fail
  refine (dice_next p g a cap n xs _ 5 _ (by omega) hn HD.out).mono ?_
  have b3 := dval_bd xs n (dnext n (dnext n k)) 5 (by omega)
  generalize dval xs n (dnext n (dnext n k)) 5 = v3 at *
  rintro e w3 ⟨rfl, hD, hO⟩
  replace HO := Lib.hid (only_trans HO.out hO)
  replace HD := Lib.hid hD
  clear hD hO
  go_wp2_with fail
  have hX := only_refl (w3.alloc (.cells #[.int .i64 (1 + v1), .int .i64 0, .int .i64 0, .int .i64 v2, .int .i64 0, .int .i64 v3] 27)) p
  have hDX := HD.out.alloc (.cells #[.int .i64 (1 + v1), .int .i64 0, .int .i64 0, .int .i64 v2, .int .i64 0, .int .i64 v3] 27)
  have hOX := only_alloc HO.out (.cells #[.int .i64 (1 + v1), .int .i64 0, .int .i64 0, .int .i64 v2, .int .i64 0, .int .i64 v3] 27)
  have hR := Rvar.new w3 (1 + v1) 0 0 v2 0 v3
  have hle : w.heap.size + 1 ≤ w3.heap.size := by have := HO.out.size; simpa using this
  have hne : w3.heap.size ≠ p := by omega
  have hnz : w.heap.size ≠ p := by omega
  have hng : w3.heap.size ≠ g := by omega
  generalize w3.alloc (.cells #[.int .i64 (1 + v1), .int .i64 0, .int .i64 0, .int .i64 v2, .int .i64 0, .int .i64 v3] 27) = wx at *
  generalize hrb : w3.heap.size = rb at *
  clear hrb
  generalize dnext n (dnext n (dnext n k)) = q3 at *
  replace HO := Lib.hid hOX
  replace HD := Lib.hid hDX
  have HX := Lib.hid hX
  have HR := Lib.hid hR
  have HNG := Lib.hid hng
  have x0 := hR.r0
  have b4 := dval_bd xs n q3 (1 + v1) (by omega)
  have b5 := dval_bd xs n (dnext n q3) (1 + v1) (by omega)
  have e5 : IntKind.i64.wrap (1 + dval xs n (dnext n q3) (1 + v1)) = 1 + dval xs n (dnext n q3) (1 + v1) := IntWalk.i64_in _ (by omega)
  clear hOX hDX hX hR hng
  go_region_held3 (fun w' => w'.cell? ⟨rb, 0, none⟩ = some (.int .i64 (1 + v1))) (first | go_keep | exact only_cell hO4 hne (by assumption) | (rw [World.cell?_setCell_other _ _ _ _ (by simp)]; assumption) | (rw [World.cell?_setCell_other _ _ _ _ (by simp), World.cell?_setCell_other _ _ _ _ (by simp)]; assumption))
    ((go_at_call 15; refine (dice_next p g a cap n xs _ _ _ (by omega) hn (by first | exact HE.out | exact HD.out.drew)).mono ?_; rintro e w4 ⟨rfl, hD4, hO4⟩; have HE := Lib.hid hD4; have HX4 := Lib.hid (only_trans (by first | exact HX4.out | exact only_drew HX.out) hO4); have HR4 := Lib.hid (HR.out.only HX4.out hne); have y1 := HR4.out.r1; have y2 := HR4.out.r2; have z1 := HR4.out.f 1; have z2 := HR4.out.f 2))
  clear e5 y1 y2 z1 z2 x0
  generalize dval xs n q3 (1 + v1) = v4 at *
  generalize dval xs n (dnext n q3) (1 + v1) = v5 at *
  have hR5 := (HR4.out.set1 v4).set2 (1 + v5)
  have hD5 := (HE.out.setFar hne HNG.out 1 (.int .i64 v4)).setFar hne HNG.out 2 (.int .i64 (1 + v5))
  have hO5 := only_setNew (only_setNew (only_trans HO.out HX4.out) (by simpa using hle) 1 (.int .i64 v4)) (by simpa using hle) 2 (.int .i64 (1 + v5))
  generalize (w4.setCell ⟨rb, 1, none⟩ (.int .i64 v4)).setCell ⟨rb, 2, none⟩ (.int .i64 (1 + v5)) = w5 at *
  replace HD := Lib.hid hD5
  replace HO := Lib.hid hO5
  replace HR := Lib.hid hR5
  clear hR5 hD5 hO5 hO4 hD4
  go_wp2_with fail
  refine (dice_next p g a cap n xs _ 2 _ (by omega) hn HD.out).mono ?_
  have b6 := dval_bd xs n (dnext n (dnext n q3)) 2 (by omega)
  generalize dval xs n (dnext n (dnext n q3)) 2 = v6 at *
  rintro e w6 ⟨rfl, hD, hO⟩
  replace HR := Lib.hid (HR.out.only hO hne)
  replace HO := Lib.hid (only_trans HO.out hO)
  replace HD := Lib.hid hD
  clear hD hO
  generalize dnext n (dnext n (dnext n q3)) = q6 at *
  by_cases h6 : v6 = 1
  · subst h6
    clear HX4 HE HR4 HX
    have b7 := dval_bd xs n q6 (1 + v1 - (1 + v5) + 1) (by omega)
    have x0 := HR.out.r0
    have x2 := HR.out.r2
    have HM := Lib.hid (show 1 + v1 - (1 + v5) + 1 ≤ 1000000000 by omega)
    have eA : IntKind.i64.wrap (1 + v1 - (1 + v5)) = 1 + v1 - (1 + v5) := IntWalk.i64_in _ (by omega)
    have eB : IntKind.i64.wrap (1 + v1 - (1 + v5) + 1) = 1 + v1 - (1 + v5) + 1 := IntWalk.i64_in _ (by omega)
    have eC : IntKind.i64.wrap (1 + v5 + dval xs n q6 (1 + v1 - (1 + v5) + 1)) = 1 + v5 + dval xs n q6 (1 + v1 - (1 + v5) + 1) := IntWalk.i64_in _ (by omega)
    go_wp2_with fail
    go_region_held3 (fun w' => w'.cell? ⟨rb, 0, none⟩ = some (.int .i64 (1 + v1)) ∧ w'.cell? ⟨rb, 2, none⟩ = some (.int .i64 (1 + v5))) (first | go_keep | (go_split_ands; exact ⟨only_cell hO7 hne (by assumption), only_cell hO7 hne (by assumption)⟩) | (go_split_ands; simp only [World.cell?_setCell_other _ _ _ _ (show (⟨rb, 4, none⟩ : Addr) ≠ ⟨rb, 0, none⟩ by simp), World.cell?_setCell_other _ _ _ _ (show (⟨rb, 4, none⟩ : Addr) ≠ ⟨rb, 2, none⟩ by simp)]; exact ⟨by assumption, by assumption⟩))
      ((go_at_call 15; refine (dice_next p g a cap n xs _ _ _ HM.out hn HD.out.drew).mono ?_; rintro e w7 ⟨rfl, hD7, hO7⟩; have HR7 := Lib.hid (HR.out.only (only_trans (only_drew (only_refl _ _)) hO7) hne); have y4 := HR7.out.r4; have z4 := HR7.out.f 4))
    clear eA eB eC y4 z4 x0 x2
    generalize dval xs n q6 (1 + v1 - (1 + v5) + 1) = v7 at *
    have hR8 := HR7.out.set4 (1 + v5 + v7)
    have hD8 := hD7.setFar hne HNG.out 4 (.int .i64 (1 + v5 + v7))
    have hO8 := only_setNew (only_trans HO.out (only_trans (only_drew (only_refl _ _)) hO7)) (by simpa using hle) 4 (.int .i64 (1 + v5 + v7))
    generalize w7.setCell ⟨rb, 4, none⟩ (.int .i64 (1 + v5 + v7)) = w8 at *
    replace HR := Lib.hid hR8
    replace HD := Lib.hid hD8
    replace HO := Lib.hid hO8
    clear hR8 hD8 hO8 hD7 hO7 HR7 HM
    have hz : ∀ i, i < 6 → w8.cell? ⟨w.heap.size, i, none⟩ = some (.int .i64 0) := by
      intro i hi
      refine only_cell HO.out hnz ?_
      have hc : i = 0 ∨ i = 1 ∨ i = 2 ∨ i = 3 ∨ i = 4 ∨ i = 5 := by omega
      rcases hc with rfl | rfl | rfl | rfl | rfl | rfl <;> simp
    have z0 := hz 0 (by omega)
    have z1 := hz 1 (by omega)
    have z2 := hz 2 (by omega)
    have z3 := hz 3 (by omega)
    have z4 := hz 4 (by omega)
    have z5 := hz 5 (by omega)
    have zf : ∀ o, w8.frozen? ⟨w.heap.size, o, none⟩ = false := fun o => only_frozen HO.out hnz (by simp) (by simp [go_sem])
    have t0 := HR.out.r0
    have t1 := HR.out.r1
    have t2 := HR.out.r2
    have t3 := HR.out.r3
    have t4 := HR.out.r4
    have t5 := HR.out.r5
    have hrz : rb ≠ w.heap.size := by omega
    have hzg : w.heap.size ≠ g := by omega
    clear hz
    go_wp2
    refine bodyPost_ret (v := rv (1 + v1) v4 (1 + v5) v2 (1 + v5 + v7) v3) (by simp [results, Try.results10, go_sem, cell_set, *]) rfl ?_
    refine ⟨1 + v1, v4, 1 + v5, v2, (1 + v5 + v7), v3, _, rfl, ⟨by omega, by omega, by omega, by omega, by omega, by omega, by omega, by omega, .inr ⟨by omega, by omega⟩, by omega, by omega⟩, (((((HD.out.setFar hnz hzg _ _).setFar hnz hzg _ _).setFar hnz hzg _ _).setFar hnz hzg _ _).setFar hnz hzg _ _).setFar hnz hzg _ _, ?_⟩
    have hO9 := only_trans (only_alloc (only_refl w p) (.cells #[.int .i64 0, .int .i64 0, .int .i64 0, .int .i64 0, .int .i64 0, .int .i64 0] 27)) HO.out
    exact only_setNew (only_setNew (only_setNew (only_setNew (only_setNew (only_setNew hO9 (Nat.le_refl _) _ _) (Nat.le_refl _) _ _) (Nat.le_refl _) _ _) (Nat.le_refl _) _ _) (Nat.le_refl _) _ _) (Nat.le_refl _) _ _
  · have h6' : (v6 == 1) = false := beq_eq_false_iff_ne.2 h6
    clear HX4 HE HR4 HX
    obtain ⟨w8, rfl⟩ : ∃ w8, w8 = w6 := ⟨_, rfl⟩
    have hz : ∀ i, i < 6 → w8.cell? ⟨w.heap.size, i, none⟩ = some (.int .i64 0) := by
      intro i hi
      refine only_cell HO.out hnz ?_
      have hc : i = 0 ∨ i = 1 ∨ i = 2 ∨ i = 3 ∨ i = 4 ∨ i = 5 := by omega
      rcases hc with rfl | rfl | rfl | rfl | rfl | rfl <;> simp
    have z0 := hz 0 (by omega)
    have z1 := hz 1 (by omega)
    have z2 := hz 2 (by omega)
    have z3 := hz 3 (by omega)
    have z4 := hz 4 (by omega)
    have z5 := hz 5 (by omega)
    have zf : ∀ o, w8.frozen? ⟨w.heap.size, o, none⟩ = false := fun o => only_frozen HO.out hnz (by simp) (by simp [go_sem])
    have t0 := HR.out.r0
    have t1 := HR.out.r1
    have t2 := HR.out.r2
    have t3 := HR.out.r3
    have t4 := HR.out.r4
    have t5 := HR.out.r5
    have hrz : rb ≠ w.heap.size := by omega
    have hzg : w.heap.size ≠ g := by omega
    clear hz
    go_wp2
    refine bodyPost_ret (v := rv (1 + v1) v4 (1 + v5) v2 0 v3) (by simp [results, Try.results10, go_sem, cell_set, *]) rfl ?_
    refine ⟨1 + v1, v4, 1 + v5, v2, 0, v3, _, rfl, ⟨by omega, by omega, by omega, by omega, by omega, by omega, by omega, by omega, .inl rfl, by omega, by omega⟩, (((((HD.out.setFar hnz hzg _ _).setFar hnz hzg _ _).setFar hnz hzg _ _).setFar hnz hzg _ _).setFar hnz hzg _ _).setFar hnz hzg _ _, ?_⟩
    have hO9 := only_trans (only_alloc (only_refl w p) (.cells #[.int .i64 0, .int .i64 0, .int .i64 0, .int .i64 0, .int .i64 0, .int .i64 0] 27)) HO.out
    exact only_setNew (only_setNew (only_setNew (only_setNew (only_setNew (only_setNew hO9 (Nat.le_refl _) _ _) (Nat.le_refl _) _ _) (Nat.le_refl _) _ _) (Nat.le_refl _) _ _) (Nat.le_refl _) _ _) (Nat.le_refl _) _ _
end Go.Proofs.Ytjbokpejfifamaa
