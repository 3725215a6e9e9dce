/- Best, its loop. -/
import Derived.Test.YtkjadgjambphjaaW3
namespace Go.Proofs.Ytkjadgjambphjaa
open Go.RowKit Go.Sort
set_option linter.unusedVariables false

theorem Two.of_below {w w' : World} {pr pm br mr bm mm n cr cm : Nat} {rs ms : Nat → Int} (T : Two w pr pm br mr bm mm n cr cm rs ms) (hb : Below w.heap.size w w') : Two w' pr pm br mr bm mm n cr cm rs ms :=
  ⟨by rw [hb.cell (lt_of_cell T.hr)]; exact T.hr, by rw [hb.cell (lt_of_cell T.hm)]; exact T.hm,
   fun k hk => by rw [hb.cell (lt_of_cell (T.rs k hk))]; exact T.rs k hk, fun k hk => by rw [hb.cell (lt_of_cell (T.ms k hk))]; exact T.ms k hk⟩

theorem pick16 (w : World) (pr pm br mr bm mm n cr cm : Nat) (rs ms : Nat → Int) (T : Two w pr pm br mr bm mm n cr cm rs ms) (hn : n ≤ maxLen) (best : Int) (k : Nat) (hk : k < n) (hb : best < (n : Int)) :
    Calls Try.prog 16 #[.int .i64 best, .int .i64 k, .pointer (some ⟨pr, 0, none⟩), .pointer (some ⟨pm, 0, none⟩)] w fun e w' => e = .returned (.int .i64 (pick rs ms best k)) ∧ Below w.heap.size w w' := by
  by_cases h : 0 < rs k
  · by_cases hb0 : best < 0
    · exact pick16_first w pr pm br mr bm mm n cr cm rs ms T hn best k hk h hb0
    · obtain ⟨j, rfl⟩ := Int.eq_ofNat_of_zero_le (by omega : 0 ≤ best)
      cases hp : prefer (rs k) (ms k) (rs j) (ms j)
      · exact pick16_no w pr pm br mr bm mm n cr cm rs ms T hn j k hk (by omega) h hp
      · exact pick16_yes w pr pm br mr bm mm n cr cm rs ms T hn j k hk (by omega) h hp
  · exact pick16_lo w pr pm br mr bm mm n cr cm rs ms T hn best k hk h

def bestTo (rs ms : Nat → Int) : Nat → Int
  | 0 => -1
  | k + 1 => pick rs ms (bestTo rs ms k) k

theorem bestTo_lt (rs ms : Nat → Int) (k : Nat) : bestTo rs ms k < k ∧ -1 ≤ bestTo rs ms k := by
  induction k with
  | zero => simp [bestTo]
  | succ k ih => unfold bestTo pick; split <;> omega

set_option maxHeartbeats 400000 in
theorem fold15 (w : World) (pr pm br mr bm mm n cr cm : Nat) (rs ms : Nat → Int) (T : 0 < n → Two w pr pm br mr bm mm n cr cm rs ms) (hn : n ≤ maxLen) :
    Calls Try.prog 15 #[.int .i64 n, .int .i64 (-1), .func (.func 16) #[] #[.pointer (some ⟨pr, 0, none⟩), .pointer (some ⟨pm, 0, none⟩)]] w fun e w' => e = .returned (.int .i64 (bestTo rs ms n)) ∧ Below w.heap.size w w' := by
  have HT := Lib.hid T
  clear T
  have hn2 := hn
  unfold maxLen at hn2
  go_enter Try.func15, Try.ntmps15
  go_wp2
  go_loopw [1, 9] (fun s i wr => ∃ k : Nat, k ≤ n ∧ i = .int .i64 k ∧ s = .int .i64 (bestTo rs ms k) ∧ Below w.heap.size w wr) (fun _ i _ => n - (intOf i).toNat)
  case atStart => exact ⟨0, Nat.zero_le _, rfl, rfl, Below.refl _ _⟩
  case round =>
    obtain ⟨k, hk, rfl, rfl, hB⟩ := hrel
    have hlt := bestTo_lt rs ms k
    by_cases hlt : k < n
    · go_wp2_with (go_at_call 16; refine (pick16 _ pr pm br mr bm mm n cr cm rs ms ((HT.out (by omega)).of_below hB) hn _ k hlt (by omega)).mono ?_; rintro e w' ⟨rfl, hb⟩)
      go_roundw
      case rel => exact ⟨k + 1, by omega, by go_num, rfl, hB.trans (hb.mono hB.size)⟩
      case measure => simp [intOf]; omega
    · have : k = n := by omega
      subst this
      go_wp2
      go_ret
      exact ⟨rfl, hB⟩

/-- A slice of whole numbers as it lies in memory. -/
def Row (w : World) (a : Option Addr) (n : Nat) (xs : Nat → Int) : Prop := ∃ b m, (0 < n → a = some ⟨b, m, none⟩) ∧ ∀ k, k < n → w.cell? ⟨b, m + k, none⟩ = some (.int .i64 (xs k))

def theBest (rs ms : Nat → Int) (n : Nat) : Int × Bool := (max (bestTo rs ms n) 0, decide (0 ≤ bestTo rs ms n))

set_option maxHeartbeats 400000 in
theorem best8_no (w : World) (ar am : Option Addr) (n m cr cm : Nat) (h : n ≠ m) :
    Calls Try.prog 8 #[.slice ar n cr, .slice am m cm] w fun e w' => e = .returned (.tuple #[.int .i64 0, .bool false]) ∧ Below w.heap.size w w' := by
  have h1 : ((n : Int) == (m : Int)) = false := beq_eq_false_iff_ne.2 (by omega)
  have h2 : ((n : Int) != (m : Int)) = true := by rw [bne_iff_ne]; omega
  go_enter Try.func8, Try.ntmps8
  go_wp2
  go_ret2
  exact ⟨rfl, ((Below.refl _ _).alloc (Nat.le_refl _) _).alloc (by simp) _⟩

set_option maxHeartbeats 400000 in
theorem best8 (w : World) (ar am : Option Addr) (n cr cm : Nat) (rs ms : Nat → Int) (hn : n ≤ maxLen) (R : Row w ar n rs) (M : Row w am n ms) :
    Calls Try.prog 8 #[.slice ar n cr, .slice am n cm] w fun e w' => e = .returned (.tuple #[.int .i64 (theBest rs ms n).1, .bool (theBest rs ms n).2]) ∧ Below w.heap.size w w' := by
  obtain ⟨br, mr, har, hrs⟩ := R
  obtain ⟨bm, mm, ham, hms⟩ := M
  have HR := Lib.hid hrs
  have HM := Lib.hid hms
  have HA := Lib.hid har
  have HB := Lib.hid ham
  clear hrs hms har ham
  have hn2 := hn
  unfold maxLen at hn2
  have hlt := bestTo_lt rs ms n
  go_enter Try.func8, Try.ntmps8
  go_wp2_with (go_at_call 15; refine (fold15 _ _ _ br mr bm mm n cr cm rs ms ?_ hn).mono ?_)
  · intro h0
    have hB : Below w.heap.size w ((w.alloc (.cells #[.slice ar n cr] 24)).alloc (.cells #[.slice am n cm] 25)) := ((Below.refl _ _).alloc (Nat.le_refl _) _).alloc (by simp) _
    refine ⟨by rw [HA.out h0]; simp [go_sem], by rw [HB.out h0]; simp [go_sem], fun k hk => ?_, fun k hk => ?_⟩
    · rw [hB.cell (lt_of_cell (HR.out k hk))]; exact HR.out k hk
    · rw [hB.cell (lt_of_cell (HM.out k hk))]; exact HM.out k hk
  · rintro e w' ⟨rfl, hb⟩
    obtain ⟨hc, hf⟩ := bcell hb
    go_wp2
    all_goals
      go_ret2
      refine ⟨?_, (((Below.refl _ _).alloc (Nat.le_refl _) _).alloc (by simp) _).trans (hb.mono (by simp; omega))⟩
      unfold theBest
      simp
      omega
end Go.Proofs.Ytkjadgjambphjaa
