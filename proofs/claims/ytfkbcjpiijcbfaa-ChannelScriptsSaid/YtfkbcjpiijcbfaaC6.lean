/- Layer 31: awake. -/
import Derived.Test.YtfkbcjpiijcbfaaC5
namespace Go.Proofs.Ytfkbcjpiijcbfaa
set_option linter.unusedVariables false
set_option linter.unusedSimpArgs false
open Go.RowKit Go.Sort
attribute [local go_sem] gcell
def awX (k : Nat) : Fd := if k = 0 then ⟨1, 0, 0, 50, 0⟩ else ⟨1, 0, 5, 20, 3⟩
theorem aw1 : atF 1 0 4 awX 2 = (50, 0) := by decide
theorem aw2 : atF 1 0 5 awX 2 = (20, 3) := by decide
theorem aw3 : nzOk 1 2 0 3 4 0 = true := by decide
theorem aw4 : qual 50 0 = 15 := by decide
theorem aw5 (x : Int) (k : Nat) : nzV x 0 k = 0 := by unfold nzV; omega
set_option maxRecDepth 100000 in
set_option maxHeartbeats 4000000 in
theorem awake9 (w : World) : Calls Try.prog 9 #[] w fun e w' => e = .returned (.bool true) ∧ Below w.heap.size w w' := by
  have K1 := Lib.hid fun (W : World) (b c : Nat) (h : R5 W (some ⟨b, 0, none⟩) 2 awX) => at13 (some ⟨b, 0, none⟩) 2 c awX 1 0 4 W h (by unfold maxLen; omega)
  have K2 := Lib.hid fun (W : World) (b c : Nat) (h : R5 W (some ⟨b, 0, none⟩) 2 awX) => at13 (some ⟨b, 0, none⟩) 2 c awX 1 0 5 W h (by unfold maxLen; omega)
  have K3 := Lib.hid fun (W : World) (b c : Nat) (h : R5 W (some ⟨b, 0, none⟩) 2 awX) => qual20 (some ⟨b, 0, none⟩) 2 c awX 1 0 4 W h (by unfold maxLen; omega)
  rw [aw1] at K1 K3
  rw [aw2] at K2
  rw [aw4] at K3
  have K4 := Lib.hid (noise8 1 2 0 3 4 0)
  go_enter Try.func9, Try.ntmps9
  go_wp2_with fail
  have hb0 : Below w.heap.size w (w.alloc (.cells #[.int .i64 1, .int .i64 0, .int .i64 0, .int .i64 50, .int .i64 0, .int .i64 1, .int .i64 0, .int .i64 5, .int .i64 20, .int .i64 3] 35)) := (Below.refl _ _).alloc (Nat.le_refl _) _
  have r0 : R5 (w.alloc (.cells #[.int .i64 1, .int .i64 0, .int .i64 0, .int .i64 50, .int .i64 0, .int .i64 1, .int .i64 0, .int .i64 5, .int .i64 20, .int .i64 3] 35)) (some ⟨w.heap.size, 0, none⟩) 2 awX := ⟨w.heap.size, 0, fun _ => rfl, fun k hk => by
    rcases (show k = 0 ∨ k = 1 by omega) with rfl | rfl <;> simp [go_sem, awX]⟩
  generalize (w.alloc (.cells #[.int .i64 1, .int .i64 0, .int .i64 0, .int .i64 50, .int .i64 0, .int .i64 1, .int .i64 0, .int .i64 5, .int .i64 20, .int .i64 3] 35)) = w1 at *
  have HB := Lib.hid hb0
  have HR := Lib.hid r0
  have hsz := hb0.size
  clear hb0 r0
  have HS := Lib.hid hsz
  clear hsz
  generalize hB0 : w.heap.size = B at *
  refine (K1.out _ _ _ HR.out).mono ?_
  rintro e w2 ⟨rfl, hb⟩
  have HR2 := Lib.hid (HR.out.mono hb)
  have HB2 := Lib.hid (bthen HB.out hb HS.out)
  have HS2 := Lib.hid (Nat.le_trans HS.out hb.size)
  clear hb HR HB HS K1
  go_wp2_with fail
  refine (K2.out _ _ _ HR2.out).mono ?_
  rintro e w3 ⟨rfl, hb⟩
  have HR3 := Lib.hid (HR2.out.mono hb)
  have HB3 := Lib.hid (bthen HB2.out hb HS2.out)
  have HS3 := Lib.hid (Nat.le_trans HS2.out hb.size)
  clear hb HR2 HB2 HS2 K2
  go_wp2_with fail
  refine (K4.out _).mono ?_
  rintro e w4 ⟨a, l, c, rfl, hl, hlc, hc, ha, hrow, hb⟩
  rw [aw3, if_pos rfl] at hl
  rw [aw3, if_pos rfl]
  obtain rfl : l = 4 := hl
  have HR4 := Lib.hid (HR3.out.mono hb)
  have HB4 := Lib.hid (bthen HB3.out hb HS3.out)
  have HS4 := Lib.hid (Nat.le_trans HS3.out hb.size)
  have HN := Lib.hid hrow
  clear hb HR3 HB3 HS3 K4 hlc hc ha hrow
  have K5 := Lib.hid (same16 a (some ⟨w4.heap.size, 0, none⟩) 4 c 4 4 (nzV (nz0 1 2 0 3) 0) (fun _ => 0) (w4.alloc (.cells #[.int .i64 0, .int .i64 0, .int .i64 0, .int .i64 0] 3)) (HN.out.mono (blk _ _)) ⟨w4.heap.size, 0, fun _ => rfl, fun k hk => by
    rcases (show k = 0 ∨ k = 1 ∨ k = 2 ∨ k = 3 by omega) with rfl | rfl | rfl | rfl <;> simp [go_sem]⟩ (by unfold maxLen; omega) (by unfold maxLen; omega))
  rw [same_true rfl fun k _ => aw5 _ k] at K5
  go_wp2_with fail
  refine K5.out.mono ?_
  rintro e w5 ⟨rfl, hb0⟩
  have hb := bthen' (blk w4 _) hb0
  have HR5 := Lib.hid (HR4.out.mono hb)
  have HB5 := Lib.hid (bthen HB4.out hb HS4.out)
  have HS5 := Lib.hid (Nat.le_trans HS4.out hb.size)
  clear hb hb0 HR4 HB4 HS4 K5 HN
  go_wp2_with fail
  refine (K3.out _ _ _ HR5.out).mono ?_
  rintro e w6 ⟨rfl, hb⟩
  have HB6 := Lib.hid (bthen HB5.out hb HS5.out)
  clear hb HR5 HB5 HS5 K3
  go_wp2_with fail
  go_ret
  exact ⟨rfl, by rw [hB0]; exact HB6.out⟩
end Go.Proofs.Ytfkbcjpiijcbfaa
