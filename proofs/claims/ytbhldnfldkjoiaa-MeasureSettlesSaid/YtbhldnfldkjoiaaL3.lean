/- Layer 37: the walk of MeasureSettles. -/
import Derived.Test.YtbhldnfldkjoiaaL2
namespace Go.Proofs.Ytbhldnfldkjoiaa
open Go.RowKit Go.Sort
attribute [local go_sem] gcell
set_option linter.unusedVariables false

/-- How far away it may still be. -/
def bnd : Nat → Int
  | 0 => 240
  | t + 1 => (3 * bnd t + 3) / 4
theorem bnd_end (j : Nat) : bnd (40 + j) = 3 := by
  induction j with
  | zero => kernel_rfl
  | succ j ih => show (3 * bnd (40 + j) + 3) / 4 = 3; rw [ih]; rfl
theorem bnd_next {f q B : Int} (h : -B ≤ f - 16 * q ∧ f - 16 * q ≤ B) : -((3 * B + 3) / 4) ≤ f + (16 * q - f) / 4 - 16 * q ∧ f + (16 * q - f) / 4 - 16 * q ≤ (3 * B + 3) / 4 := by omega

theorem row1 {w : World} {g : Nat} {x : Int} {xs : Nat → Int} (h0 : w.cell? ⟨g, 0, none⟩ = some (.int .i64 x)) (e0 : xs 0 = x) : Row w (some ⟨g, 0, none⟩) 1 xs :=
  ⟨g, 0, fun _ => rfl, fun k hk => by
    match k, hk with
    | 0, _ => rw [e0]; exact h0⟩

set_option maxRecDepth 100000 in
set_option maxHeartbeats 4000000 in
theorem settles5 (x0 x1 x2 : Int) (b0 : 0 ≤ x0 ∧ x0 ≤ 255) (b1 : 0 ≤ x1 ∧ x1 ≤ 255) (b2 : 0 ≤ x2 ∧ x2 ≤ 255) (w : World) :
    Calls Try.prog 5 #[.int .u8 x0, .int .u8 x1, .int .u8 x2] w fun e w' => e = .returned (.bool true) ∧ Below w.heap.size w w' := by
  have hq : 0 ≤ x1 % 16 ∧ x1 % 16 ≤ 15 := by omega
  by_cases h240 : x0 ≤ 240
  all_goals
    go_enter Try.func5, Try.ntmps5
    go_wp2_with fail
    generalize x1 % 16 = q at *
    generalize hW : (((w.alloc _).alloc _).alloc _) = W0
    have hx : ∃ f : Int, 0 ≤ f ∧ f ≤ 240 ∧ Sx W0 (w.heap.size + 1 + 1) (some ⟨w.heap.size, 0, none⟩) (some ⟨w.heap.size + 1, 0, none⟩) 1 1 1 1 (fun _ => f) (fun _ => 0) := by
      subst hW
      first
        | exact ⟨x0, by omega, by omega, Sx.new (p := w.heap.size + 1 + 1) (w := (w.alloc (.cells #[.int .i64 x0] 3)).alloc (.cells #[.int .i64 0] 3)) ⟨_, _, _, _, rfl, fun h => (by cases h), fun h => (by cases h), row1 (by simp [go_sem]) rfl, row1 (by simp [go_sem]) rfl⟩ (by simp)⟩
        | exact ⟨240, by omega, by omega, Sx.new (p := w.heap.size + 1 + 1) (w := (w.alloc (.cells #[.int .i64 240] 3)).alloc (.cells #[.int .i64 0] 3)) ⟨_, _, _, _, rfl, fun h => (by cases h), fun h => (by cases h), row1 (by simp [go_sem]) rfl, row1 (by simp [go_sem]) rfl⟩ (by simp)⟩
    have hB : Below w.heap.size w W0 := by subst hW; exact (((Below.refl _ _).alloc (Nat.le_refl _) _).alloc (by simp) _).alloc (by simp; omega) _
    clear hW
    have HX := Lib.hid hx
    have HB := Lib.hid hB
    clear hx hB
    go_loopw [9] (fun t wr => ∃ (T : Nat) (a d : Option Addr) (c l : Nat) (fs hs : Nat → Int), t = .int .i64 T ∧ (T : Int) ≤ 40 + x2 % 40 ∧ Sx wr (w.heap.size + 1 + 1) a d 1 c 1 l fs hs ∧ (0 ≤ fs 0 ∧ fs 0 ≤ 240) ∧ (0 ≤ hs 0 ∧ hs 0 ≤ 1000) ∧ (-bnd T ≤ fs 0 - 16 * q ∧ fs 0 - 16 * q ≤ bnd T) ∧ Below w.heap.size w wr) (fun t _ => 200 - (intOf t).toNat)
    case atStart =>
      obtain ⟨f, h1, h2, h3⟩ := HX.out
      exact ⟨0, _, _, _, _, _, _, rfl, by omega, h3, ⟨h1, h2⟩, ⟨by omega, by omega⟩, ⟨by show -240 ≤ f - 16 * q; omega, by show f - 16 * q ≤ 240; omega⟩, HB.out⟩
    case round =>
      clear HX HB
      obtain ⟨T, a, d, c, l, fs, hs, rfl, hT, hx, hf, hh, hd, hb⟩ := hrel
      have HX := Lib.hid hx
      have HB := Lib.hid hb
      have HD := Lib.hid hd
      clear hx hb hd
      by_cases hlt : (T : Int) < 40 + x2 % 40
      · have c0 := HX.out.b.c0
        have c1 := HX.out.b.c1
        have f0 := HX.out.f0
        have f1' := HX.out.f1
        have lt0 := lt_of_cell c0
        have z0 := HB.out.size
        obtain ⟨st1, st2, st3⟩ := ok_two (mg := 0) (bk := 0) (hd := 1) (n := 0) (m := 0) (own := 0) (fs := fs) (hs := hs) (qs := fun _ => q) (by omega) (k := 1) (by omega) (by omega) (fun j hj => by rw [show j = 0 by omega]; exact hf) (fun j hj => by rw [show j = 0 by omega]; exact hh) (fun j hj => hq)
        have K1 := Lib.hid fun v g c wx S RQ => step18 0 0 1 0 v (some ⟨g, 0, none⟩) 1 1 1 c fs hs (fun _ => q) wx S RQ (by omega) (by omega) (by omega)
        rw [st1, st2, st3] at K1
        unfold rv at K1
        have HA := Lib.hid (HX.out.mono (below_alloc wr (.cells #[.int .i64 q] 3)))
        have HQ := Lib.hid (row1 (xs := fun _ => q) (w := wr.alloc (.cells #[.int .i64 q] 3)) (g := wr.heap.size) (by simp [go_sem]) rfl)
        have HB1 := Lib.hid (HB.out.alloc HB.out.size (.cells #[.int .i64 q] 3))
        clear st1 st2 st3
        go_wp2_with (go_at_call 18; refine (K1.out _ _ _ _ HA.out.b.s HQ.out).mono ?_)
        intro e w2 h
        obtain ⟨v2, rfl, s2, hb2⟩ := h
        have S2 := s2
        obtain ⟨a2, d2, c2, l2, rfl, _⟩ := s2
        have X2 := HA.out.mono hb2
        have hA := below_alloc w2 (.cells #[.slice a2 1 c2, .slice d2 1 l2] 26)
        have HX3 := Lib.hid ((X2.put S2).mono (below_alloc _ (.cells #[.slice a2 1 c2, .slice d2 1 l2] 26)))
        obtain ⟨y1, o1, hy, hx⟩ := S2.rows1
        obtain rfl := hy (by omega)
        have t0 := hx 0 (by omega)
        rw [Nat.add_zero] at t0
        have hy1 : y1 ≠ w.heap.size + 1 + 1 := fun e => by
          subst e
          match o1 with
          | 0 => rw [X2.b.c0] at t0; cases t0
          | 1 => rw [X2.b.c1] at t0; cases t0
          | o + 2 => rw [X2.far (o + 2) (by omega)] at t0; cases t0
        have hB2 := bthen HB1.out hb2 HB1.out.size
        have hB3 : Below w.heap.size w ((w2.setCell ⟨w.heap.size + 1 + 1, 0, none⟩ (.slice (some ⟨y1, o1, none⟩) 1 c2)).setCell ⟨w.heap.size + 1 + 1, 1, none⟩ (.slice d2 1 l2)) := (hB2.setCell (by simp; omega) _).setCell (by simp; omega) _
        have HB4 := Lib.hid (hB3.alloc hB3.size (.cells #[.slice (some ⟨y1, o1, none⟩) 1 c2, .slice d2 1 l2] 26))
        clear c0 c1 f0 f1' lt0
        have c0 := X2.b.c0
        have c1 := X2.b.c1
        have f0 := X2.f0
        have f1' := X2.f1
        have lt0 := lt_of_cell c0
        have lt1 := lt_of_cell t0
        have hv : f1 fs (fun _ => q) 0 = fs 0 + (16 * q - fs 0) / 4 := rfl
        have hnext := bnd_next HD.out
        have hb0 : 0 ≤ f1 fs (fun _ => q) 0 ∧ f1 fs (fun _ => q) 0 ≤ 240 := by rw [hv]; omega
        rw [← hv] at hnext
        have hh0 : 0 ≤ held (f1 fs (fun _ => q)) (0 : Int).toNat 0 0 hs 0 ∧ held (f1 fs (fun _ => q)) (0 : Int).toNat 0 0 hs 0 ≤ 1000 := by unfold held; rw [if_pos (.inl rfl)]; omega
        have HN := Lib.hid hnext
        have HH0 := Lib.hid hh0
        have HB0 := Lib.hid hb0
        have h3 : 40 ≤ T → -3 ≤ f1 fs (fun _ => q) 0 - 16 * q ∧ f1 fs (fun _ => q) 0 - 16 * q ≤ 3 := fun h => by
          have e := bnd_end (T + 1 - 40)
          rw [show 40 + (T + 1 - 40) = T + 1 by omega] at e
          change (3 * bnd T + 3) / 4 = 3 at e
          omega
        generalize hF : f1 fs (fun _ => q) = F at *
        clear hx hb2 X2 hA S2 hv hnext hh0 hB2 hB3 HX HB HD K1 HA HQ HB1 hF hy
        by_cases h40 : 40 ≤ T
        · have h3' := h3 h40
          clear h3
          unfold sv
          go_wp2_with fail
          go_roundw
          case rel => exact ⟨T + 1, _, _, _, _, F, _, by go_num, by omega, HX3.out, HB0.out, HH0.out, HN.out, HB4.out⟩
          case measure => simp [intOf] <;> omega
        · clear h3
          unfold sv
          go_wp2_with fail
          go_roundw
          case rel => exact ⟨T + 1, _, _, _, _, F, _, by go_num, by omega, HX3.out, HB0.out, HH0.out, HN.out, HB4.out⟩
          case measure => simp [intOf] <;> omega
      · go_wp2_with (go_at_call 8; refine (awake8 _).mono ?_)
        rintro e w5 rfl hb5
        have HB5 := Lib.hid (bthen HB.out hb5 HB.out.size)
        clear hb5
        go_wp2
        go_ret
        exact ⟨rfl, HB5.out⟩
end Go.Proofs.Ytbhldnfldkjoiaa
