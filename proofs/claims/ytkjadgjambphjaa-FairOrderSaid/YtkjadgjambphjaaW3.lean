/- Best. -/
import Derived.Test.YtkjadgjambphjaaW2
namespace Go.Proofs.Ytkjadgjambphjaa
open Go.RowKit Go.Sort
set_option linter.unusedVariables false
attribute [local go_sem] gcell

def pick (rs ms : Nat → Int) (best : Int) (k : Nat) : Int :=
  if 0 < rs k ∧ (best < 0 ∨ prefer (rs k) (ms k) (rs best.toNat) (ms best.toNat) = true) then k else best

theorem pick_lo {rs ms : Nat → Int} {best : Int} {k : Nat} (h : ¬ 0 < rs k) : pick rs ms best k = best := by
  unfold pick; rw [if_neg (fun x => h x.1)]
theorem pick_first {rs ms : Nat → Int} {best : Int} {k : Nat} (h : 0 < rs k) (hb : best < 0) : pick rs ms best k = k := by
  unfold pick; rw [if_pos ⟨h, .inl hb⟩]
theorem pick_yes {rs ms : Nat → Int} {j k : Nat} (h : 0 < rs k) (hb : prefer (rs k) (ms k) (rs j) (ms j) = true) : pick rs ms j k = k := by
  unfold pick; rw [if_pos ⟨h, .inr hb⟩]
theorem pick_no {rs ms : Nat → Int} {j k : Nat} (hb : prefer (rs k) (ms k) (rs j) (ms j) = false) : pick rs ms j k = j := by
  unfold pick; rw [if_neg]; rintro ⟨_, h | h⟩
  · omega
  · simp at h; rw [h] at hb; cases hb

/-- What the walk reads: the two captured variables and the cells of both slices. -/
structure Two (w : World) (pr pm br mr bm mm n cr cm : Nat) (rs ms : Nat → Int) : Prop where
  hr : w.cell? ⟨pr, 0, none⟩ = some (.slice (some ⟨br, mr, none⟩) n cr)
  hm : w.cell? ⟨pm, 0, none⟩ = some (.slice (some ⟨bm, mm, none⟩) n cm)
  rs : ∀ k, k < n → w.cell? ⟨br, mr + k, none⟩ = some (.int .i64 (rs k))
  ms : ∀ k, k < n → w.cell? ⟨bm, mm + k, none⟩ = some (.int .i64 (ms k))

theorem lt_of_cell {w : World} {b o : Nat} {v : Value} (h : w.cell? ⟨b, o, none⟩ = some v) : b < w.heap.size := block_lt_of_cell h

set_option maxHeartbeats 400000 in
theorem pick16_lo (w : World) (pr pm br mr bm mm n cr cm : Nat) (rs ms : Nat → Int) (T : Two w pr pm br mr bm mm n cr cm rs ms) (hn : n ≤ maxLen) (best : Int) (k : Nat) (hk : k < n) (h : ¬ 0 < rs k) :
    Calls Try.prog 16 #[.int .i64 best, .int .i64 k, .pointer (some ⟨pr, 0, none⟩), .pointer (some ⟨pm, 0, none⟩)] w fun e w' => e = .returned (.int .i64 (pick rs ms best k)) ∧ Below w.heap.size w w' := by
  rw [pick_lo h]
  have c1 := T.hr
  have c2 := T.hm
  have c3 := T.rs k hk
  have c4 := T.ms k hk
  have l1 := lt_of_cell c1
  have l2 := lt_of_cell c2
  have l3 := lt_of_cell c3
  have l4 := lt_of_cell c4
  have i1 : (0 : Int) ≤ (k : Int) := by omega
  have i2 : (k : Int) < (n : Int) := by omega
  unfold maxLen at hn
  have hd : decide (0 < rs k) = false := by simpa using h
  clear T
  go_enter Try.func16, Try.ntmps16
  go_wp2_with fail
  refine wp_region_quiet_below (by kernel_rfl) (by kernel_rfl) ?_
  repeat (go_big_quiet_step (fail))
  refine wpQuiet_nil ?_
  rintro _ ⟨p, rfl⟩
  go_wp2
  go_ret
  exact ⟨rfl, below_regrown _ _ _⟩

set_option maxHeartbeats 400000 in
theorem pick16_first (w : World) (pr pm br mr bm mm n cr cm : Nat) (rs ms : Nat → Int) (T : Two w pr pm br mr bm mm n cr cm rs ms) (hn : n ≤ maxLen) (best : Int) (k : Nat) (hk : k < n) (h : 0 < rs k) (hb : best < 0) :
    Calls Try.prog 16 #[.int .i64 best, .int .i64 k, .pointer (some ⟨pr, 0, none⟩), .pointer (some ⟨pm, 0, none⟩)] w fun e w' => e = .returned (.int .i64 (pick rs ms best k)) ∧ Below w.heap.size w w' := by
  rw [pick_first h hb]
  have c1 := T.hr
  have c2 := T.hm
  have c3 := T.rs k hk
  have c4 := T.ms k hk
  have l1 := lt_of_cell c1
  have l2 := lt_of_cell c2
  have l3 := lt_of_cell c3
  have l4 := lt_of_cell c4
  have i1 : (0 : Int) ≤ (k : Int) := by omega
  have i2 : (k : Int) < (n : Int) := by omega
  unfold maxLen at hn
  have hd : decide (0 < rs k) = true := by simpa using h
  have hd2 : decide (best < 0) = true := by simpa using hb
  clear T
  go_enter Try.func16, Try.ntmps16
  go_wp2_with fail
  refine wp_region_quiet_below (by kernel_rfl) (by kernel_rfl) ?_
  repeat (go_big_quiet_step (fail))
  refine wpQuiet_nil ?_
  rintro _ ⟨p, rfl⟩
  go_wp2
  go_ret
  exact ⟨rfl, below_regrown _ _ _⟩

set_option maxHeartbeats 400000 in
theorem pick16_yes (w : World) (pr pm br mr bm mm n cr cm : Nat) (rs ms : Nat → Int) (T : Two w pr pm br mr bm mm n cr cm rs ms) (hn : n ≤ maxLen) (j : Nat) (k : Nat) (hk : k < n) (hj : j < n) (h : 0 < rs k) (hp : prefer (rs k) (ms k) (rs j) (ms j) = true) :
    Calls Try.prog 16 #[.int .i64 j, .int .i64 k, .pointer (some ⟨pr, 0, none⟩), .pointer (some ⟨pm, 0, none⟩)] w fun e w' => e = .returned (.int .i64 (pick rs ms j k)) ∧ Below w.heap.size w w' := by
  rw [pick_yes h hp]
  have c1 := T.hr
  have c2 := T.hm
  have c3 := T.rs k hk
  have c4 := T.ms k hk
  have l1 := lt_of_cell c1
  have l2 := lt_of_cell c2
  have l3 := lt_of_cell c3
  have l4 := lt_of_cell c4
  have i1 : (0 : Int) ≤ (k : Int) := by omega
  have i2 : (k : Int) < (n : Int) := by omega
  unfold maxLen at hn
  have hd : decide (0 < rs k) = true := by simpa using h
  have hd2 : decide ((j : Int) < 0) = false := by simp
  have c5 := T.rs j hj
  have c6 := T.ms j hj
  have j1 : (0 : Int) ≤ (j : Int) := by omega
  have j2 : (j : Int) < (n : Int) := by omega
  have HP := Lib.hid hp
  clear hp
  clear T
  go_enter Try.func16, Try.ntmps16
  go_wp2_with fail
  refine wp_region_quiet_below (by kernel_rfl) (by kernel_rfl) ?_
  repeat (go_big_quiet_step ((go_at_call 12; exact Calls.regrown_of (by have := prefer12 (rs k) (ms k) (rs j) (ms j); rw [HP.out] at this; exact this _))))
  refine wpQuiet_nil ?_
  rintro _ ⟨p, rfl⟩
  go_wp2
  go_ret
  exact ⟨rfl, below_regrown _ _ _⟩

set_option maxHeartbeats 400000 in
theorem pick16_no (w : World) (pr pm br mr bm mm n cr cm : Nat) (rs ms : Nat → Int) (T : Two w pr pm br mr bm mm n cr cm rs ms) (hn : n ≤ maxLen) (j : Nat) (k : Nat) (hk : k < n) (hj : j < n) (h : 0 < rs k) (hp : prefer (rs k) (ms k) (rs j) (ms j) = false) :
    Calls Try.prog 16 #[.int .i64 j, .int .i64 k, .pointer (some ⟨pr, 0, none⟩), .pointer (some ⟨pm, 0, none⟩)] w fun e w' => e = .returned (.int .i64 (pick rs ms j k)) ∧ Below w.heap.size w w' := by
  rw [pick_no hp]
  have c1 := T.hr
  have c2 := T.hm
  have c3 := T.rs k hk
  have c4 := T.ms k hk
  have l1 := lt_of_cell c1
  have l2 := lt_of_cell c2
  have l3 := lt_of_cell c3
  have l4 := lt_of_cell c4
  have i1 : (0 : Int) ≤ (k : Int) := by omega
  have i2 : (k : Int) < (n : Int) := by omega
  unfold maxLen at hn
  have hd : decide (0 < rs k) = true := by simpa using h
  have hd2 : decide ((j : Int) < 0) = false := by simp
  have c5 := T.rs j hj
  have c6 := T.ms j hj
  have j1 : (0 : Int) ≤ (j : Int) := by omega
  have j2 : (j : Int) < (n : Int) := by omega
  have HP := Lib.hid hp
  clear hp
  clear T
  go_enter Try.func16, Try.ntmps16
  go_wp2_with fail
  refine wp_region_quiet_below (by kernel_rfl) (by kernel_rfl) ?_
  repeat (go_big_quiet_step ((go_at_call 12; exact Calls.regrown_of (by have := prefer12 (rs k) (ms k) (rs j) (ms j); rw [HP.out] at this; exact this _))))
  refine wpQuiet_nil ?_
  rintro _ ⟨p, rfl⟩
  go_wp2
  go_ret
  exact ⟨rfl, below_regrown _ _ _⟩

end Go.Proofs.Ytkjadgjambphjaa
