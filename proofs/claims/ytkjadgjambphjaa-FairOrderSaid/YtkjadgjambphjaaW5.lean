/- The reference's Best. -/
import Derived.Test.YtkjadgjambphjaaW4
namespace Go.Proofs.Ytkjadgjambphjaa
open Go.RowKit Go.Sort
attribute [local go_sem] gcell
set_option linter.unusedVariables false

def AtK (rs ms : Nat → Int) (k : Nat) (a o : Value) : Prop :=
  (bestTo rs ms k = -1 ∧ a = .int .i64 0 ∧ o = .bool false) ∨ (∃ j : Nat, j < k ∧ bestTo rs ms k = j ∧ a = .int .i64 j ∧ o = .bool true)

theorem AtK.keep {rs ms : Nat → Int} {k : Nat} {a o : Value} (h : AtK rs ms k a o) (e : bestTo rs ms (k + 1) = bestTo rs ms k) : AtK rs ms (k + 1) a o := by
  rcases h with ⟨h1, h2, h3⟩ | ⟨j, h1, h2, h3, h4⟩
  · exact .inl ⟨e.trans h1, h2, h3⟩
  · exact .inr ⟨j, by omega, e.trans h2, h3, h4⟩
theorem AtK.new {rs ms : Nat → Int} {k : Nat} (e : bestTo rs ms (k + 1) = k) : AtK rs ms (k + 1) (.int .i64 k) (.bool true) := .inr ⟨k, by omega, e, rfl, rfl⟩

set_option maxHeartbeats 400000 in
theorem best9_no (w : World) (ar am : Option Addr) (n m cr cm : Nat) (h : n ≠ m) :
    Calls Try.prog 9 #[.slice ar n cr, .slice am m cm] w fun e w' => e = .returned (.tuple #[.int .i64 0, .bool false]) ∧ Below w.heap.size w w' := by
  have h1 : ((n : Int) == (m : Int)) = false := beq_eq_false_iff_ne.2 (by omega)
  have h2 : ((n : Int) != (m : Int)) = true := by rw [bne_iff_ne]; omega
  go_enter Try.func9, Try.ntmps9
  go_wp2
  go_ret2
  exact ⟨rfl, Below.refl _ _⟩

set_option maxHeartbeats 1000000 in
theorem best9 (w : World) (ar am : Option Addr) (n cr cm : Nat) (rs ms : Nat → Int) (hn : n ≤ maxLen) (R : Row w ar n rs) (M : Row w am n ms) :
    Calls Try.prog 9 #[.slice ar n cr, .slice am n cm] w fun e w' => e = .returned (.tuple #[.int .i64 (theBest rs ms n).1, .bool (theBest rs ms n).2]) ∧ Below w.heap.size w w' := by
  obtain ⟨br, mr, har, hrs⟩ := R
  obtain ⟨bm, mm, ham, hms⟩ := M
  have HR := Lib.hid hrs
  have HM := Lib.hid hms
  have HA := Lib.hid har
  have HB := Lib.hid ham
  clear hrs hms har ham
  unfold maxLen at hn
  go_enter Try.func9, Try.ntmps9
  go_wp2
  go_loopw [6, 7, 8] (fun a o i wr => ∃ k : Nat, k ≤ n ∧ i = .int .i64 k ∧ AtK rs ms k a o ∧ Below w.heap.size w wr) (fun _ _ i _ => n - (intOf i).toNat)
  case atStart => exact ⟨0, Nat.zero_le _, rfl, .inl ⟨rfl, rfl, rfl⟩, Below.refl _ _⟩
  case round =>
    obtain ⟨k, hk, rfl, hAt, hB⟩ := hrel
    by_cases hlt : k < n
    · obtain rfl := HA.out (by omega)
      obtain rfl := HB.out (by omega)
      have c3 := (hB.cell (lt_of_cell (HR.out k hlt))).trans (HR.out k hlt)
      have c4 := (hB.cell (lt_of_cell (HM.out k hlt))).trans (HM.out k hlt)
      have l3 := lt_of_cell c3
      have l4 := lt_of_cell c4
      have i1 : (0 : Int) ≤ (k : Int) := by omega
      have i2 : (k : Int) < (n : Int) := by omega
      by_cases h : 0 < rs k
      · have hd : decide (0 < rs k) = true := by simpa using h
        rcases hAt with ⟨h1, rfl, rfl⟩ | ⟨j, h1, h2, rfl, rfl⟩
        · have e := pick_first (ms := ms) h (by omega : bestTo rs ms k < 0)
          have E := Lib.hid e
          have H1 := Lib.hid h1
          clear e h1
          go_wp2_with fail
          refine wp_region_quiet_below (by kernel_rfl) (by kernel_rfl) ?_
          repeat (go_big_quiet_step (fail))
          refine wpQuiet_nil ?_
          rintro _ ⟨p, rfl⟩
          go_wp2
          go_roundw
          case rel => exact ⟨k + 1, by omega, by go_num, .new E.out, hB.trans ((below_regrown _ _ _).mono hB.size)⟩
          case measure => simp [intOf]; omega
        · have c5 := (hB.cell (lt_of_cell (HR.out j (by omega)))).trans (HR.out j (by omega))
          have c6 := (hB.cell (lt_of_cell (HM.out j (by omega)))).trans (HM.out j (by omega))
          have j1 : (0 : Int) ≤ (j : Int) := by omega
          have j2 : (j : Int) < (n : Int) := by omega
          cases hp : prefer (rs k) (ms k) (rs j) (ms j)
          all_goals
            have HP := Lib.hid hp
            have H2 := Lib.hid h2
            clear hp h2
            go_wp2_with fail
            refine wp_region_quiet_below (by kernel_rfl) (by kernel_rfl) ?_
            repeat (go_big_quiet_step ((go_at_call 13; exact Calls.regrown_of (by have := prefer13 (rs k) (ms k) (rs j) (ms j); rw [HP.out] at this; exact this _))))
            refine wpQuiet_nil ?_
            rintro _ ⟨p, rfl⟩
            go_wp2
            go_roundw
            case rel => 
              refine ⟨k + 1, by omega, by go_num, ?_, hB.trans ((below_regrown _ _ _).mono hB.size)⟩
              first
                | exact .new (by unfold bestTo; rw [H2.out]; exact pick_yes h HP.out)
                | exact AtK.keep (.inr ⟨j, h1, H2.out, rfl, rfl⟩) (by rw [bestTo, H2.out]; exact pick_no HP.out)
            case measure => simp [intOf]; omega
      · have hd : decide (0 < rs k) = false := by simpa using h
        have e : bestTo rs ms (k + 1) = bestTo rs ms k := pick_lo h
        have E := Lib.hid (hAt.keep e)
        clear e hAt
        go_wp2_with fail
        refine wp_region_quiet_below (by kernel_rfl) (by kernel_rfl) ?_
        repeat (go_big_quiet_step (fail))
        refine wpQuiet_nil ?_
        rintro _ ⟨p, rfl⟩
        go_wp2
        go_roundw
        case rel => exact ⟨k + 1, by omega, by go_num, E.out, hB.trans ((below_regrown _ _ _).mono hB.size)⟩
        case measure => simp [intOf]; omega
    · have : k = n := by omega
      subst this
      have HAt := Lib.hid hAt
      clear hAt
      go_wp2
      go_ret2
      refine ⟨?_, hB⟩
      rcases HAt.out with ⟨h1, rfl, rfl⟩ | ⟨j, h1, h2, rfl, rfl⟩
      · simp [theBest, h1] <;> omega
      · simp [theBest, h2]
end Go.Proofs.Ytkjadgjambphjaa
