/- Contracts of the small functions of layer 32. -/
import Derived.Test.YtkjadgjambphjaaRows
import Derived.WalkKit
import Derived.WalkSpells
import Derived.WalkLawsBesides
import Derived.Lib.QuietBelow
import Derived.BigQuiet
import Derived.Lib.Hide
namespace Go.Proofs.Ytkjadgjambphjaa
open Go.RowKit Go.Sort

def within (n most : Int) : Int := max 0 (min n most)
theorem within_nonneg (n m : Int) : 0 ≤ within n m := by unfold within; omega
theorem within_le (n m : Int) (h : 0 ≤ m) : within n m ≤ m := by unfold within; omega

theorem ret_int {k : IntKind} {a b : Int} (h : a = b) : Ending.returned (.int k a) = .returned (.int k b) := by rw [h]

set_option maxHeartbeats 400000 in
theorem within18 (a b : Int) (w : World) :
    Calls Try.prog 18 #[.int .i64 a, .int .i64 b] w fun e w' => e = .returned (.int .i64 (within a b)) ∧ w' = w := by
  go_enter Try.func18, Try.ntmps18
  go_wp2
  all_goals
    go_ret
    exact ⟨ret_int (by unfold within; omega), rfl⟩

set_option maxHeartbeats 400000 in
theorem within19 (a b : Int) (w : World) :
    Calls Try.prog 19 #[.int .i64 a, .int .i64 b] w fun e w' => e = .returned (.int .i64 (within a b)) ∧ w' = w := by
  go_enter Try.func19, Try.ntmps19
  go_wp2
  all_goals
    go_ret
    exact ⟨ret_int (by unfold within; omega), rfl⟩

def mean (m : Int) : Int := within m 67108864

set_option maxHeartbeats 400000 in
theorem mean17 (m : Int) (w : World) :
    Calls Try.prog 17 #[.agg #[.int .i64 m]] w fun e w' => e = .returned (.int .i64 (mean m)) ∧ Below w.heap.size w w' := by
  go_enter Try.func17, Try.ntmps17
  go_wp2_with (go_at_call 18; refine (within18 _ _ _).mono ?_; rintro e w' ⟨rfl, rfl⟩)
  go_ret
  exact ⟨rfl, (Below.refl _ _).alloc (Nat.le_refl _) _⟩

theorem bcell {W w1 : World} (hb : Below W.heap.size W w1) : (∀ b o, b < W.heap.size → w1.cell? ⟨b, o, none⟩ = W.cell? ⟨b, o, none⟩) ∧ (∀ b o, b < W.heap.size → w1.frozen? ⟨b, o, none⟩ = W.frozen? ⟨b, o, none⟩) :=
  ⟨fun b o h => hb.cell (p := ⟨b, o, none⟩) h, fun b o h => hb.frozen (p := ⟨b, o, none⟩) h⟩

def learn (m b : Int) : Int := min (mean m - mean m / 16 + 4 * within b 1048576) 67108864

set_option maxHeartbeats 400000 in
theorem learn10 (m b : Int) (w : World) :
    Calls Try.prog 10 #[.agg #[.int .i64 m], .int .i64 b] w fun e w' => e = .returned (.agg #[.int .i64 (learn m b)]) ∧ Below w.heap.size w w' := by
  have h1 : 0 ≤ mean m := within_nonneg m 67108864
  have h2 : mean m ≤ 67108864 := within_le m 67108864 (by omega)
  have h3 := within_nonneg b 1048576
  have h4 := within_le b 1048576 (by omega)
  go_enter Try.func10, Try.ntmps10
  go_wp2_with (first | (go_at_call 18; refine (within18 _ _ _).mono ?_; rintro e w' ⟨rfl, rfl⟩) | (go_at_call 17; refine (mean17 _ _).mono ?_; rintro e w' ⟨rfl, hb⟩; obtain ⟨hc, hf⟩ := bcell hb))
  have hl : learn m b = mean m - mean m / 16 + 4 * within b 1048576 := by unfold learn; omega
  refine bodyPost_ret (v := .agg #[.int .i64 (learn m b)]) (by rw [hl]; simp [results, Try.results10, go_sem, hc]) rfl ⟨rfl, ?_⟩
  exact ((((Below.refl _ _).alloc (Nat.le_refl _) _).alloc (by simp) _).trans (hb.mono (by simp; omega))).setCell (by simp) _

end Go.Proofs.Ytkjadgjambphjaa
