/- The plain law of FairNears, and its walk. -/
import Derived.Test.YtkjadgjambphjaaW6
namespace Go.Proofs.Ytkjadgjambphjaa
open Go.RowKit Go.Sort
set_option linter.unusedVariables false

/-- How far a mean is from its goal, a tick later. -/
def fe (e : Int) : Int := e - e / 16
def fi (e : Int) : Nat → Int
  | 0 => e
  | k + 1 => fe (fi e k)
theorem fe_mono {a b : Int} (h : a ≤ b) : fe a ≤ fe b := by unfold fe; omega
theorem fi_mono {a b : Int} (h : a ≤ b) : ∀ k, fi a k ≤ fi b k
  | 0 => h
  | k + 1 => fe_mono (fi_mono h k)
theorem fi_hi : fi 5000000 400 ≤ 15 := by decide +kernel
theorem fi_lo : -15 ≤ fi (-4194240) 400 := by decide +kernel
theorem fi_bd (e : Int) (h1 : -4194240 ≤ e) (h2 : e ≤ 5000000) (k : Nat) : -4194240 ≤ fi e k ∧ fi e k ≤ 5000000 := by
  induction k with
  | zero => exact ⟨h1, h2⟩
  | succ k ih => unfold fi fe; omega
theorem fi_end (e : Int) (h1 : -4194240 ≤ e) (h2 : e ≤ 5000000) : -15 ≤ fi e 400 ∧ fi e 400 ≤ 15 :=
  ⟨Int.le_trans fi_lo (fi_mono h1 400), Int.le_trans (fi_mono h2 400) fi_hi⟩
theorem learn_fe (b e : Int) (hb : 0 ≤ b) (hb2 : b ≤ 65535) (h1 : 0 ≤ 64 * b + e) (h2 : e ≤ 5000000) : learn (64 * b + e) b = 64 * b + fe e := by
  unfold learn mean within fe; omega
theorem fi_pos (b e : Int) (hb : 0 ≤ b) (h : 0 ≤ 64 * b + e) (k : Nat) : 0 ≤ 64 * b + fi e k := by
  induction k with
  | zero => exact h
  | succ k ih => unfold fi fe; omega

def Near (b e0 : Int) (B : Nat) (w : World) (k : Nat) (wr : World) : Prop :=
  wr.cell? ⟨B, 0, none⟩ = some (.int .i64 (64 * b + fi e0 k)) ∧ wr.frozen? ⟨B, 0, none⟩ = false ∧ Below B w wr

theorem Near.next {b e0 e' : Int} {B : Nat} {w w1 : World} {k : Nat} {v : Value} {o : Obj} (hN : fi e0 (k + 1) = e') (hc : w1.cell? ⟨B, 0, none⟩ = some v) (hf : w1.frozen? ⟨B, 0, none⟩ = false) (hB : Below B w w1) :
    Near b e0 B w (k + 1) ((w1.setCell ⟨B, 0, none⟩ (.int .i64 (64 * b + e'))).alloc o) := by
  have lt := lt_of_cell hc
  have ne : B ≠ w1.heap.size := by omega
  refine ⟨?_, ?_, (hB.setCell (Nat.le_refl _) _).alloc (by simp; omega) _⟩
  · rw [hN, World.cell?_alloc_old _ _ _ (by simpa using ne), World.cell?_setCell_same _ _ _ hc]
  · rw [World.frozen?_alloc_old _ _ _ (by simpa using ne), World.frozen?_setCell, hf]

set_option maxRecDepth 100000 in
set_option maxHeartbeats 2000000 in
theorem nears4 (a b : Int) (w : World) (a0 : 0 ≤ a) (a1 : a ≤ 4294967295) (b0 : 0 ≤ b) (b1 : b ≤ 65535) :
    Calls Try.prog 4 #[.int .u32 a, .int .u16 b] w fun e w' => e = .returned (.bool true) ∧ Below w.heap.size w w' := by
  go_enter Try.func4, Try.ntmps4
  go_wp2
  have he0 : a % 5000000 = 64 * b + (a % 5000000 - 64 * b) := by omega
  have g1 : -4194240 ≤ a % 5000000 - 64 * b := by omega
  have g2 : a % 5000000 - 64 * b ≤ 5000000 := by omega
  have g3 : 0 ≤ 64 * b + (a % 5000000 - 64 * b) := by omega
  have hN : Near b (a % 5000000 - 64 * b) w.heap.size w 0 (w.alloc (Obj.cells #[.int .i64 (a % 5000000)] 23)) := by
    refine ⟨?_, by simp [go_sem], (Below.refl _ _).alloc (Nat.le_refl _) _⟩
    rw [fi, ← he0]; simp [go_sem]
  generalize a % 5000000 = v0 at *
  generalize v0 - 64 * b = e0 at *
  clear he0 a0 a1
  go_loopw [7] (fun i wr => ∃ k : Nat, k ≤ 400 ∧ i = .int .i64 k ∧ Near b e0 w.heap.size w k wr) (fun i _ => 400 - (intOf i).toNat)
  case atStart => exact ⟨0, Nat.zero_le _, rfl, hN⟩
  case round =>
    obtain ⟨k, hk, rfl, hc, hf, hB⟩ := hrel
    clear hN
    have hbd := fi_bd e0 g1 g2 k
    have hps := fi_pos b e0 b0 g3 k
    by_cases hlt : k < 400
    · have hN : fi e0 (k + 1) = fe (fi e0 k) := rfl
      have hL := learn_fe b (fi e0 k) b0 b1 hps hbd.2
      have hx : (fi e0 k ≤ 0 → fi e0 k ≤ fe (fi e0 k) ∧ fe (fi e0 k) ≤ 0) ∧ (0 < fi e0 k → fe (fi e0 k) ≤ fi e0 k ∧ 0 ≤ fe (fi e0 k)) := by unfold fe; omega
      obtain ⟨x1, x2⟩ := hx
      generalize fe (fi e0 k) = e' at *
      generalize fi e0 k = e at *
      have HN := Lib.hid hN
      have HL := Lib.hid hL
      have HX := Lib.hid (And.intro x1 x2)
      clear hN hL x1 x2
      have lt := lt_of_cell hc
      have HB := Lib.hid hB
      clear hB
      have hcase : (e ≤ 0 ∧ e ≤ e' ∧ e' ≤ 0) ∨ (0 < e ∧ e ≤ 15 ∧ e' ≤ e ∧ 0 ≤ e') ∨ (15 < e ∧ e' ≤ e ∧ 0 ≤ e') := by have := HX.out; omega
      rcases hcase with ⟨c1, c2, c3⟩ | ⟨c1, c2, c3, c4⟩ | ⟨c1, c2, c3⟩
      all_goals
        go_wp2_with fail
        refine (learn10 _ _ _).mono ?_
        rw [HL.out]
        rintro x w1 ⟨rfl, hb1⟩
        have hc1 := (hb1.cell (p := ⟨w.heap.size, 0, none⟩) lt).trans hc
        have hf1 := (hb1.frozen (p := ⟨w.heap.size, 0, none⟩) lt).trans hf
        have lt1 := lt_of_cell hc1
        have ne1 : w.heap.size ≠ w1.heap.size := by omega
        have HB1 := Lib.hid (HB.out.trans (hb1.mono HB.out.size))
        clear hb1 hc hf
        go_wp2
        go_roundw
        case rel => exact ⟨k + 1, by omega, by go_num, Near.next HN.out hc1 hf1 HB1.out⟩
        case measure => simp [intOf]; omega
    · have : k = 400 := by omega
      subst this
      have he := fi_end e0 g1 g2
      generalize fi e0 400 = e at *
      have HB := Lib.hid hB
      clear hB
      go_wp2_with (go_at_call 7; refine (awake7 _).mono ?_; rintro e w' ⟨rfl, hb⟩)
      go_ret
      exact ⟨rfl, HB.out.trans (hb.mono HB.out.size)⟩
end Go.Proofs.Ytkjadgjambphjaa
