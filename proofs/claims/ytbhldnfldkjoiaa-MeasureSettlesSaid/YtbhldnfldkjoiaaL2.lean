/- Layer 37: the walk of MeasureBack. -/
import Derived.Test.YtbhldnfldkjoiaaM11
import Derived.Deep.DeepCutAuto
import Derived.Deep.RegionHeld3
namespace Go.Proofs.Ytbhldnfldkjoiaa
open Go.RowKit Go.Sort
attribute [local go_sem] gcell
set_option linter.unusedVariables false

def two (x y : Int) (k : Nat) : Int := if k = 0 then x else y
theorem ok_two {mg bk hd n m : Int} {own : Int} {fs hs qs : Nat → Int} (h1 : -15 ≤ mg ∧ mg ≤ 15 ∧ 0 ≤ bk ∧ bk ≤ 15 ∧ 1 ≤ hd ∧ hd ≤ 1000) {k : Nat} (hk : 1 ≤ k ∧ k ≤ 3) (ho : 0 ≤ own ∧ own < k) (h2 : ∀ j, j < k → 0 ≤ fs j ∧ fs j ≤ 240) (h3 : ∀ j, j < k → 0 ≤ hs j ∧ hs j ≤ 1000) (h4 : ∀ j, j < k → 0 ≤ qs j ∧ qs j ≤ 15) :
    stepE mg bk hd k k fs hs own k qs = 0 ∧ stepF mg bk hd k k fs hs own k qs = f1 fs qs ∧ stepH mg bk hd k k fs hs own k qs = held (f1 fs qs) own.toNat mg bk hs := by
  have c1 : anyB (out fs 240) k = false := anyB_false.2 fun j hj => by have := h2 j hj; unfold out; simp; omega
  have c2 : anyB (out hs 1000) k = false := anyB_false.2 fun j hj => by have := h3 j hj; unfold out; simp; omega
  have c3 : anyB (out qs 15) k = false := anyB_false.2 fun j hj => by have := h4 j hj; unfold out; simp; omega
  have c4 : chk mg bk hd k k fs hs = 0 := by unfold chk; rw [rok_true h1, if_pos rfl, if_pos ⟨rfl, hk⟩, c1, c2]; rfl
  have c5 : stepE mg bk hd k k fs hs own k qs = 0 := by unfold stepE; rw [c4, if_pos rfl, if_neg (by omega), if_pos rfl, c3]; rfl
  exact ⟨c5, by unfold stepF; rw [c5, if_pos rfl], by unfold stepH; rw [c5, if_pos rfl]⟩

/-- A measurement of two, made in new blocks. -/
theorem sb_two {wx : World} {P g1 g2 : Nat} {a b c d : Int} (c0 : wx.cell? ⟨P, 0, none⟩ = some (.slice (some ⟨g1, 0, none⟩) 2 2)) (c1 : wx.cell? ⟨P, 1, none⟩ = some (.slice (some ⟨g2, 0, none⟩) 2 2))
    (x0 : wx.cell? ⟨g1, 0, none⟩ = some (.int .i64 a)) (x1 : wx.cell? ⟨g1, 1, none⟩ = some (.int .i64 b)) (y0 : wx.cell? ⟨g2, 0, none⟩ = some (.int .i64 c)) (y1 : wx.cell? ⟨g2, 1, none⟩ = some (.int .i64 d)) :
    Sb wx P (some ⟨g1, 0, none⟩) (some ⟨g2, 0, none⟩) 2 2 2 2 (two a b) (two c d) :=
  ⟨c0, c1, _, _, _, _, rfl, fun h => by (cases h), fun h => by (cases h), row2 x0 x1 rfl rfl, row2 y0 y1 rfl rfl⟩
/-- The cells of a measurement of two. -/
theorem Row.cells2 {w : World} {g : Nat} {xs : Nat → Int} (R : Row w (some ⟨g, 0, none⟩) 2 xs) : w.cell? ⟨g, 0, none⟩ = some (.int .i64 (xs 0)) ∧ w.cell? ⟨g, 1, none⟩ = some (.int .i64 (xs 1)) := by
  obtain ⟨b, o, h1, h2⟩ := R
  have := h1 (by omega)
  simp at this
  obtain ⟨rfl, rfl⟩ := this
  exact ⟨by simpa using h2 0 (by omega), by simpa using h2 1 (by omega)⟩
theorem Sg.cells2 {w : World} {a d : Option Addr} {c l : Nat} {fs hs : Nat → Int} (S : Sg w (sv a d 2 c 2 l) 2 2 fs hs) :
    ∃ b o b' o', a = some ⟨b, o, none⟩ ∧ d = some ⟨b', o', none⟩ ∧ w.cell? ⟨b, o, none⟩ = some (.int .i64 (fs 0)) ∧ w.cell? ⟨b, o + 1, none⟩ = some (.int .i64 (fs 1)) ∧ w.cell? ⟨b', o', none⟩ = some (.int .i64 (hs 0)) ∧ w.cell? ⟨b', o' + 1, none⟩ = some (.int .i64 (hs 1)) := by
  obtain ⟨b, o, h1, h2⟩ := S.rows1
  obtain ⟨b', o', h3, h4⟩ := S.rows2
  exact ⟨b, o, b', o', h1 (by omega), h3 (by omega), h2 0 (by omega), h2 1 (by omega), h4 0 (by omega), h4 1 (by omega)⟩
theorem keep_alloc {w : World} {b o : Nat} {v : Value} {x : Obj} (h : w.cell? ⟨b, o, none⟩ = some v) : (w.alloc x).cell? ⟨b, o, none⟩ = some v := up (below_alloc _ _) h
theorem keep_drew {w : World} {b o : Nat} {v : Value} (h : w.cell? ⟨b, o, none⟩ = some v) : w.drew.cell? ⟨b, o, none⟩ = some v := h
set_option maxRecDepth 100000 in
set_option maxHeartbeats 4000000 in
theorem back7 (x0 x1 x2 x3 x4 : Int) (b0 : 0 ≤ x0 ∧ x0 ≤ 255) (b1 : 0 ≤ x1 ∧ x1 ≤ 255) (b2 : 0 ≤ x2 ∧ x2 ≤ 255) (b3 : 0 ≤ x3 ∧ x3 ≤ 255) (b4 : 0 ≤ x4 ∧ x4 ≤ 255) (w : World) :
    Calls Try.prog 7 #[.int .u8 x0, .int .u8 x1, .int .u8 x2, .int .u8 x3, .int .u8 x4] w fun e w' => e = .returned (.bool true) ∧ Below w.heap.size w w' := by
  go_enter Try.func7, Try.ntmps7
  go_upto_region 3 with fail
  have m1 : 0 ≤ x0 % 16 ∧ x0 % 16 ≤ 15 := by omega
  have m2 : 0 ≤ x1 % 16 ∧ x1 % 16 ≤ 15 := by omega
  have m3 : 0 ≤ x2 % 5 ∧ x2 % 5 ≤ 4 := by omega
  have m4 : 0 ≤ x3 % 5 ∧ x3 % 5 ≤ 4 := by omega
  generalize x0 % 16 = q0 at *
  generalize x1 % 16 = q1 at *
  generalize x2 % 5 = mg at *
  generalize x3 % 5 = bk at *
  have HW0 := Lib.hid (((Below.refl w.heap.size w).alloc (Nat.le_refl _) (.cells #[.int .i64 mg, .int .i64 bk, .int .i64 3] 23)).alloc (by simp) (.cells #[.int .i64 q0, .int .i64 q1] 3))
  have HR0 := Lib.hid ((Rb.new w mg bk 3).mono (below_alloc _ (.cells #[.int .i64 q0, .int .i64 q1] 3)))
  have k0 : ((w.alloc (.cells #[.int .i64 mg, .int .i64 bk, .int .i64 3] 23)).alloc (.cells #[.int .i64 q0, .int .i64 q1] 3)).cell? ⟨w.heap.size + 1, 0, none⟩ = some (.int .i64 q0) := by simp [go_sem]
  have k1 : ((w.alloc (.cells #[.int .i64 mg, .int .i64 bk, .int .i64 3] 23)).alloc (.cells #[.int .i64 q0, .int .i64 q1] 3)).cell? ⟨w.heap.size + 1, 1, none⟩ = some (.int .i64 q1) := by simp [go_sem]
  generalize hW : ((w.alloc (.cells #[.int .i64 mg, .int .i64 bk, .int .i64 3] 23)).alloc (.cells #[.int .i64 q0, .int .i64 q1] 3)) = W0 at *
  clear hW
  have e1 : IntKind.i64.wrap (16 * q0) = 16 * q0 := IntWalk.i64_in _ (by omega)
  have e3 : IntKind.i64.wrap x4 = x4 := IntWalk.i64_in _ (by omega)
  have e2 : IntKind.i64.wrap (16 * q1) = 16 * q1 := IntWalk.i64_in _ (by omega)
  go_cut [13] (fun s13 wx => ∃ P g1 g2 : Nat, s13 = .pointer (some ⟨P, 0, none⟩) ∧ Below W0.heap.size W0 wx ∧ Sb wx P (some ⟨g1, 0, none⟩) (some ⟨g2, 0, none⟩) 2 2 2 2 (two (16 * q0) (16 * q1)) (two 4 x4))
  case first =>
    have kd0 : W0.drew.cell? ⟨w.heap.size + 1, 0, none⟩ = some (.int .i64 q0) := k0
    have kd1 : W0.drew.cell? ⟨w.heap.size + 1, 1, none⟩ = some (.int .i64 q1) := k1
    have lt := lt_of_cell k0
    go_region_held3 (fun w' => w'.cell? ⟨w.heap.size + 1, 0, none⟩ = some (.int .i64 q0) ∧ w'.cell? ⟨w.heap.size + 1, 1, none⟩ = some (.int .i64 q1)) (first | (go_keep; done) | (exact ⟨keep_drew (keep_alloc k0), keep_drew (keep_alloc k1)⟩) | (exact ⟨keep_drew (keep_alloc (keep_alloc k0)), keep_drew (keep_alloc (keep_alloc k1))⟩) | (exact ⟨keep_drew (keep_alloc (keep_alloc (keep_alloc k0))), keep_drew (keep_alloc (keep_alloc (keep_alloc k1)))⟩) | (simp [go_sem, cell_set, *] <;> omega)) (fail)
    all_goals
      go_wp2_with fail
      go_meet
      first
        | (refine ⟨W0.heap.size + 1 + 1, W0.heap.size, W0.heap.size + 1, rfl, ((((Below.refl _ _).alloc (Nat.le_refl _) _).alloc (by simp) _).alloc (by simp; omega) _).drew, sb_two ?_ ?_ ?_ ?_ ?_ ?_⟩ <;> (simp [go_sem]; done))
        | (refine ⟨W0.heap.size + 1, W0.heap.size, W0.heap.size + 1 + 1, rfl, ((((Below.refl _ _).alloc (Nat.le_refl _) _).alloc (by simp) _).alloc (by simp; omega) _).drew, sb_two ?_ ?_ ?_ ?_ ?_ ?_⟩ <;> (simp [go_sem]; done))
        | (refine ⟨W0.heap.size + 1 + 1, W0.heap.size + 1, W0.heap.size, rfl, ((((Below.refl _ _).alloc (Nat.le_refl _) _).alloc (by simp) _).alloc (by simp; omega) _).drew, sb_two ?_ ?_ ?_ ?_ ?_ ?_⟩ <;> (simp [go_sem]; done))
        | (refine ⟨W0.heap.size + 1, W0.heap.size + 1 + 1, W0.heap.size, rfl, ((((Below.refl _ _).alloc (Nat.le_refl _) _).alloc (by simp) _).alloc (by simp; omega) _).drew, sb_two ?_ ?_ ?_ ?_ ?_ ?_⟩ <;> (simp [go_sem]; done))
        | (refine ⟨W0.heap.size, W0.heap.size + 1, W0.heap.size + 1 + 1, rfl, ((((Below.refl _ _).alloc (Nat.le_refl _) _).alloc (by simp) _).alloc (by simp; omega) _).drew, sb_two ?_ ?_ ?_ ?_ ?_ ?_⟩ <;> (simp [go_sem]; done))
        | (refine ⟨W0.heap.size, W0.heap.size + 1 + 1, W0.heap.size + 1, rfl, ((((Below.refl _ _).alloc (Nat.le_refl _) _).alloc (by simp) _).alloc (by simp; omega) _).drew, sb_two ?_ ?_ ?_ ?_ ?_ ?_⟩ <;> (simp [go_sem]; done))
  case rest =>
    obtain ⟨P, g1, g2, rfl, hb1, hs1⟩ := hcut
    have HS1 := Lib.hid hs1
    have HR1 := Lib.hid (HR0.out.mono hb1)
    have HQ1 := Lib.hid (row2 (xs := two q0 q1) (up hb1 k0) (up hb1 k1) rfl rfl)
    have HB1 := Lib.hid (bthen HW0.out hb1 HW0.out.size)
    have c0 := hs1.c0
    have c1 := hs1.c1
    have r0 := HR1.out.r0
    have r1 := HR1.out.r1
    have r2 := HR1.out.r2
    obtain ⟨st1, st2, st3⟩ := ok_two (mg := mg) (bk := bk) (hd := 3) (n := 0) (m := 0) (own := 0) (fs := two (16 * q0) (16 * q1)) (hs := two 4 x4) (qs := two q0 q1) (by omega) (k := 2) (by omega) (by omega) (fun j _ => by unfold two; split <;> omega) (fun j _ => by unfold two; split <;> omega) (fun j _ => by unfold two; split <;> omega)
    have K1 := Lib.hid fun wx S RQ => step18 mg bk 3 0 (sv (some ⟨g1, 0, none⟩) (some ⟨g2, 0, none⟩) 2 2 2 2) (some ⟨w.heap.size + 1, 0, none⟩) 2 2 2 2 (two (16 * q0) (16 * q1)) (two 4 x4) (two q0 q1) wx S RQ (by omega) (by omega) (by omega)
    rw [st1, st2, st3] at K1
    unfold rv sv at K1
    have lt0 := lt_of_cell c0
    have lt1 := lt_of_cell r0
    clear hb1 hs1 st1 st2 st3 k0 k1
    go_wp2_with (go_at_call 18; refine (K1.out _ HS1.out.s HQ1.out).mono ?_)
    intro e w2 h
    obtain ⟨v2, rfl, s2, hb2⟩ := h
    have S2 := s2
    obtain ⟨a2, d2, c2, l2, rfl, _⟩ := s2
    have hA := below_alloc w2 (.cells #[.slice a2 2 c2, .slice d2 2 l2] 26)
    have hX := Sb.new S2 rfl
    obtain ⟨y1, o1, y2, o2, rfl, rfl, t0, t1, t2, t3⟩ := hX.s.cells2
    have hR := (HR1.out.mono hb2).mono hA
    obtain ⟨u0, u1⟩ := HQ1.out.cells2
    have hB2 := bthen HB1.out hb2 HB1.out.size
    have HB2 := Lib.hid (bthen hB2 hA hB2.size)
    clear c0 c1 r0 r1 r2 lt0 lt1
    have c0 := hX.c0
    have c1 := hX.c1
    have r0 := hR.r0
    have r1 := hR.r1
    have r2 := hR.r2
    have v0 := up (hb2.trans (hA.mono hb2.size)) u0
    have v1 := up (hb2.trans (hA.mono hb2.size)) u1
    have f10 : f1 (two (16 * q0) (16 * q1)) (two q0 q1) 0 = 16 * q0 := by show 16 * q0 + (16 * q0 - 16 * q0) / 4 = 16 * q0; omega
    have f11 : f1 (two (16 * q0) (16 * q1)) (two q0 q1) 1 = 16 * q1 := by show 16 * q1 + (16 * q1 - 16 * q1) / 4 = 16 * q1; omega
    have h0 : held (f1 (two (16 * q0) (16 * q1)) (two q0 q1)) (0 : Int).toNat mg bk (two 4 x4) 0 = 0 := by unfold held; rw [if_pos (.inl rfl)]
    have h1 : held (f1 (two (16 * q0) (16 * q1)) (two q0 q1)) (0 : Int).toNat mg bk (two 4 x4) 1 = if q1 - q0 ≤ mg - bk then 0 else if mg < q1 - q0 then x4 + 1 else x4 := by
      unfold held
      rw [show (0 : Int).toNat = 0 from rfl, f10, f11, show two 4 x4 1 = x4 from rfl]
      by_cases g1 : q1 - q0 ≤ mg - bk
      · rw [if_pos (.inr (by omega)), if_pos g1]
      · rw [if_neg (by omega), if_neg g1]
        by_cases g2 : mg < q1 - q0
        · rw [if_pos (by omega), if_pos g2]; omega
        · rw [if_neg (by omega), if_neg g2]
    rw [f10] at t0
    rw [f11] at t1
    rw [h0] at t2
    rw [h1] at t3
    have lt0 := lt_of_cell c0
    have lt1 := lt_of_cell r0
    have lt2 := lt_of_cell t0
    have lt3 := lt_of_cell t2
    have lt4 := lt_of_cell v0
    have z2 := HB2.out.size
    have e4 : IntKind.i64.wrap (q1 - q0) = q1 - q0 := IntWalk.i64_in _ (by omega)
    rw [show two q0 q1 0 = q0 from rfl] at v0
    rw [show two q0 q1 1 = q1 from rfl] at v1
    have s0 : ((16 * q0 : Int) != 16 * q0) = false := by simp
    have s1 : ((16 * q1 : Int) != 16 * q1) = false := by simp
    clear hX hR u0 u1 hB2 hb2 hA S2 f10 f11 h0 h1 HS1 HR1 HQ1 HB1 K1 HW0 HR0
    unfold sv
    have KE : ∀ (wz : World), Below (w2.alloc (.cells #[.slice (some ⟨y1, o1, none⟩) 2 c2, .slice (some ⟨y2, o2, none⟩) 2 l2] 26)).heap.size (w2.alloc (.cells #[.slice (some ⟨y1, o1, none⟩) 2 c2, .slice (some ⟨y2, o2, none⟩) 2 l2] 26)) wz → Below w.heap.size w wz := fun wz h => bthen HB2.out h HB2.out.size
    have HKE := Lib.hid KE
    clear KE
    by_cases g1 : q1 - q0 ≤ mg - bk
    · have g2 : ¬ mg < q1 - q0 := by omega
      rw [if_pos g1] at t3
      go_wp2_with fail
      go_quiet (fail)
      go_wp2_with fail
      go_quiet (fail)
      go_wp2_with (go_at_call 8; refine (awake8 _).mono ?_)
      rintro e w5 ⟨rfl, hb5⟩
      have HB5 := Lib.hid (HKE.out _ (bthen (below_drewN (Below.refl _ _) _) hb5 (Nat.le_refl _)))
      clear hb5
      go_wp2
      go_ret
      exact ⟨rfl, HB5.out⟩
    · rw [if_neg g1] at t3
      by_cases g2 : mg < q1 - q0
      · rw [if_pos g2] at t3
        go_wp2_with fail
        go_quiet (fail)
        go_wp2_with fail
        go_quiet (fail)
        go_wp2_with (go_at_call 8; refine (awake8 _).mono ?_)
        rintro e w5 ⟨rfl, hb5⟩
        have HB5 := Lib.hid (HKE.out _ (bthen (below_drewN (Below.refl _ _) _) hb5 (Nat.le_refl _)))
        clear hb5
        go_wp2
        go_ret
        exact ⟨rfl, HB5.out⟩
      · rw [if_neg g2] at t3
        go_wp2_with fail
        go_quiet (fail)
        go_wp2_with fail
        go_quiet (fail)
        go_wp2_with (go_at_call 8; refine (awake8 _).mono ?_)
        rintro e w5 ⟨rfl, hb5⟩
        have HB5 := Lib.hid (HKE.out _ (bthen (below_drewN (Below.refl _ _) _) hb5 (Nat.le_refl _)))
        clear hb5
        go_wp2
        go_ret
        exact ⟨rfl, HB5.out⟩
end Go.Proofs.Ytbhldnfldkjoiaa
