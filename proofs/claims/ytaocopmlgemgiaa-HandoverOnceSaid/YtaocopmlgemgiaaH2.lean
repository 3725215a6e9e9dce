/- Layer 42: what is looked at; what the reference does. -/
import Derived.Test.YtaocopmlgemgiaaH1
namespace Go.Proofs.Ytaocopmlgemgiaa
set_option linter.unusedVariables false
set_option linter.unusedSimpArgs false
open Go.RowKit Go.Sort
attribute [local go_sem] gcell

set_option maxHeartbeats 1000000 in
theorem looked20 (a o r si ti : Int) (w : World) : Calls Try.prog 20 #[pv a o r, .int .i64 si, .int .i64 ti] w fun e w' => e = .returned (.bool (lookB a o r si ti)) ∧ Below w.heap.size w w' := by
  have HB := Lib.hid (below_alloc w (.cells #[.int .i64 a, .int .i64 o, .int .i64 r] 23))
  have hc := check12 a o r
  unfold pv at hc
  unfold pv
  cases h1 : goodP a o r
  · have e : chkP a o r = 3 := by unfold chkP; rw [h1]; rfl
    have e2 : lookB a o r si ti = false := by unfold lookB; rw [h1]; rfl
    rw [e] at hc
    rw [e2]
    clear e e2
    go_enter Try.func20, Try.ntmps20
    go_wp2_with (go_at_call 12; refine (hc _).mono ?_; rintro e w1 ⟨rfl, hb⟩; have HB1 := Lib.hid (bthen HB.out hb HB.out.size); clear hb)
    go_ret
    exact ⟨rfl, HB1.out⟩
  · have e : chkP a o r = 0 := by unfold chkP; rw [h1]; rfl
    rw [e] at hc
    have e2 : lookB a o r si ti = (decide (0 ≤ ti) && decide (ti ≤ 1048576) && decide (0 ≤ si) && decide (si ≤ ti)) := by unfold lookB; rw [h1]; rfl
    rw [e2]
    clear e e2
    by_cases g1 : 0 ≤ ti
    · by_cases g2 : ti ≤ 1048576
      · by_cases g3 : 0 ≤ si
        · have e2 : (decide (0 ≤ ti) && decide (ti ≤ 1048576) && decide (0 ≤ si) && decide (si ≤ ti)) = decide (si ≤ ti) := by simp [g1, g2, g3]
          rw [e2]
          clear e2
          go_enter Try.func20, Try.ntmps20
          go_wp2_with (go_at_call 12; refine (hc _).mono ?_; rintro e w1 ⟨rfl, hb⟩; have HB1 := Lib.hid (bthen HB.out hb HB.out.size); clear hb)
          go_ret
          exact ⟨rfl, HB1.out⟩
        · have e2 : (decide (0 ≤ ti) && decide (ti ≤ 1048576) && decide (0 ≤ si) && decide (si ≤ ti)) = false := by simp [g3]
          rw [e2]
          clear e2
          go_enter Try.func20, Try.ntmps20
          go_wp2_with (go_at_call 12; refine (hc _).mono ?_; rintro e w1 ⟨rfl, hb⟩; have HB1 := Lib.hid (bthen HB.out hb HB.out.size); clear hb)
          go_ret
          exact ⟨rfl, HB1.out⟩
      · have e2 : (decide (0 ≤ ti) && decide (ti ≤ 1048576) && decide (0 ≤ si) && decide (si ≤ ti)) = false := by simp [g2]
        rw [e2]
        clear e2
        go_enter Try.func20, Try.ntmps20
        go_wp2_with (go_at_call 12; refine (hc _).mono ?_; rintro e w1 ⟨rfl, hb⟩; have HB1 := Lib.hid (bthen HB.out hb HB.out.size); clear hb)
        go_ret
        exact ⟨rfl, HB1.out⟩
    · have e2 : (decide (0 ≤ ti) && decide (ti ≤ 1048576) && decide (0 ≤ si) && decide (si ≤ ti)) = false := by simp [g1]
      rw [e2]
      clear e2
      go_enter Try.func20, Try.ntmps20
      go_wp2_with (go_at_call 12; refine (hc _).mono ?_; rintro e w1 ⟨rfl, hb⟩; have HB1 := Lib.hid (bthen HB.out hb HB.out.size); clear hb)
      go_ret
      exact ⟨rfl, HB1.out⟩


theorem look_bd {a o r si ti : Int} (h : lookB a o r si ti = true) : (1 ≤ a ∧ a ≤ 1000 ∧ 1 ≤ o ∧ o ≤ 1000 ∧ 1 ≤ r ∧ r ≤ 1000) ∧ 0 ≤ ti ∧ ti ≤ 1048576 ∧ 0 ≤ si ∧ si ≤ ti := by
  unfold lookB goodP good at h
  simp at h
  omega

def mv (ph ot si : Int) : Value := .agg #[.int .i64 ph, .int .i64 ot, .int .i64 si]
/-- What follows at a station: phase, other, since, what is done. -/
def stS (a o r ph ot si ev ar ti : Int) : Int × Int × Int × Int :=
  if lookB a o r si ti = true then
    if ph = 0 ∧ ev = 1 ∧ 0 ≤ ar ∧ ar < 3 then (1, ar, ti, 1)
    else if ph = 1 ∧ ev = 2 ∧ ar = si then (2, ot, ti, 2)
    else if ph = 1 ∧ ev = 3 ∧ ar = si then (0, ot, si, 0)
    else if ph = 1 ∧ ev = 7 ∧ a ≤ ti - si then (0, ot, si, 4)
    else if ph = 2 ∧ ev = 4 then (3, ot, ti, 3)
    else if ph = 2 ∧ ev = 7 ∧ o ≤ ti - si then (0, ot, si, 4)
    else if ph = 3 ∧ ev = 5 then (3, ot, si, 6)
    else if ph = 3 ∧ ev = 6 then (0, ot, si, 5)
    else (ph, ot, si, 0)
  else (ph, ot, si, 0)
def stR (x : Int × Int × Int × Int) : Ending := .returned (.tuple #[mv x.1 x.2.1 x.2.2.1, .int .i64 x.2.2.2])

/-- The boxes at the head of a function: a patience, a move, a result. -/
structure B3 (W : World) (z : Nat) (a o r ph ot si : Int) : Prop where
  p0 : W.cell? ⟨z, 0, none⟩ = some (.int .i64 a)
  p1 : W.cell? ⟨z, 1, none⟩ = some (.int .i64 o)
  p2 : W.cell? ⟨z, 2, none⟩ = some (.int .i64 r)
  m0 : W.cell? ⟨z + 1, 0, none⟩ = some (.int .i64 ph)
  m1 : W.cell? ⟨z + 1, 1, none⟩ = some (.int .i64 ot)
  m2 : W.cell? ⟨z + 1, 2, none⟩ = some (.int .i64 si)
  r0 : W.cell? ⟨z + 1 + 1, 0, none⟩ = some (.int .i64 0)
  r1 : W.cell? ⟨z + 1 + 1, 1, none⟩ = some (.int .i64 0)
  r2 : W.cell? ⟨z + 1 + 1, 2, none⟩ = some (.int .i64 0)
  f0 : W.frozen? ⟨z + 1 + 1, 0, none⟩ = false
  f1 : W.frozen? ⟨z + 1 + 1, 1, none⟩ = false
  f2 : W.frozen? ⟨z + 1 + 1, 2, none⟩ = false
theorem B3.mono {W w' : World} {z : Nat} {a o r ph ot si : Int} (B : B3 W z a o r ph ot si) (hb : Below W.heap.size W w') : B3 w' z a o r ph ot si :=
  ⟨up hb B.p0, up hb B.p1, up hb B.p2, up hb B.m0, up hb B.m1, up hb B.m2, up hb B.r0, up hb B.r1, up hb B.r2, upf hb (lt_of_cell B.r0) B.f0, upf hb (lt_of_cell B.r0) B.f1, upf hb (lt_of_cell B.r0) B.f2⟩
theorem B3.new (w : World) (a o r ph ot si : Int) : B3 (((w.alloc (.cells #[.int .i64 a, .int .i64 o, .int .i64 r] 23)).alloc (.cells #[.int .i64 ph, .int .i64 ot, .int .i64 si] 25)).alloc (.cells #[.int .i64 0, .int .i64 0, .int .i64 0] 25)) w.heap.size a o r ph ot si :=
  ⟨by simp [go_sem], by simp [go_sem], by simp [go_sem], by simp [go_sem], by simp [go_sem], by simp [go_sem], by simp [go_sem], by simp [go_sem], by simp [go_sem], by simp [go_sem], by simp [go_sem], by simp [go_sem]⟩
end Go.Proofs.Ytaocopmlgemgiaa
