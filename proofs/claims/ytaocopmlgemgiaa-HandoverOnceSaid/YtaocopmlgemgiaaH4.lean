/- Layer 42: the reference's terminal. -/
import Derived.Test.YtaocopmlgemgiaaH2
import Derived.RegionTactic
namespace Go.Proofs.Ytaocopmlgemgiaa
set_option linter.unusedVariables false
set_option linter.unusedSimpArgs false
open Go.RowKit Go.Sort
attribute [local go_sem] gcell

def xv (ph ce ta si : Int) : Value := .agg #[.int .i64 ph, .int .i64 ce, .int .i64 ta, .int .i64 si]
/-- What follows at a terminal: phase, cell, target, since, what is done. -/
def teS (a o r ph ce ta si ev ar ti : Int) : Int × Int × Int × Int × Int :=
  if lookB a o r si ti = true then
    if ph = 0 ∧ ev = 1 ∧ 0 ≤ ar ∧ ar < 3 ∧ ar ≠ ce then (1, ce, ar, ti, 1)
    else if ph = 1 ∧ ev = 2 then (0, ta, ta, si, 2)
    else if ph = 1 ∧ (ev = 3 ∨ ev = 4 ∧ r ≤ ti - si) then (2, ce, ta, ti, 3)
    else if ph = 2 ∧ ev = 2 then (0, ce, ta, si, 4)
    else if ph = 2 ∧ ev = 3 then (2, ce, ta, si, 3)
    else (ph, ce, ta, si, 0)
  else (ph, ce, ta, si, 0)
def teR (x : Int × Int × Int × Int × Int) : Ending := .returned (.tuple #[xv x.1 x.2.1 x.2.2.1 x.2.2.2.1, .int .i64 x.2.2.2.2])

structure B4 (W : World) (z : Nat) (a o r ph ce ta si : Int) : Prop where
  p0 : W.cell? ⟨z, 0, none⟩ = some (.int .i64 a)
  p1 : W.cell? ⟨z, 1, none⟩ = some (.int .i64 o)
  p2 : W.cell? ⟨z, 2, none⟩ = some (.int .i64 r)
  m0 : W.cell? ⟨z + 1, 0, none⟩ = some (.int .i64 ph)
  m1 : W.cell? ⟨z + 1, 1, none⟩ = some (.int .i64 ce)
  m2 : W.cell? ⟨z + 1, 2, none⟩ = some (.int .i64 ta)
  m3 : W.cell? ⟨z + 1, 3, none⟩ = some (.int .i64 si)
  r0 : W.cell? ⟨z + 1 + 1, 0, none⟩ = some (.int .i64 0)
  r1 : W.cell? ⟨z + 1 + 1, 1, none⟩ = some (.int .i64 0)
  r2 : W.cell? ⟨z + 1 + 1, 2, none⟩ = some (.int .i64 0)
  r3 : W.cell? ⟨z + 1 + 1, 3, none⟩ = some (.int .i64 0)
  f0 : W.frozen? ⟨z + 1 + 1, 0, none⟩ = false
  f1 : W.frozen? ⟨z + 1 + 1, 1, none⟩ = false
  f2 : W.frozen? ⟨z + 1 + 1, 2, none⟩ = false
  f3 : W.frozen? ⟨z + 1 + 1, 3, none⟩ = false
theorem B4.mono {W w' : World} {z : Nat} {a o r ph ce ta si : Int} (B : B4 W z a o r ph ce ta si) (hb : Below W.heap.size W w') : B4 w' z a o r ph ce ta si :=
  ⟨up hb B.p0, up hb B.p1, up hb B.p2, up hb B.m0, up hb B.m1, up hb B.m2, up hb B.m3, up hb B.r0, up hb B.r1, up hb B.r2, up hb B.r3, upf hb (lt_of_cell B.r0) B.f0, upf hb (lt_of_cell B.r0) B.f1, upf hb (lt_of_cell B.r0) B.f2, upf hb (lt_of_cell B.r0) B.f3⟩
theorem B4.new (w : World) (a o r ph ce ta si : Int) : B4 (((w.alloc (.cells #[.int .i64 a, .int .i64 o, .int .i64 r] 23)).alloc (.cells #[.int .i64 ph, .int .i64 ce, .int .i64 ta, .int .i64 si] 27)).alloc (.cells #[.int .i64 0, .int .i64 0, .int .i64 0, .int .i64 0] 27)) w.heap.size a o r ph ce ta si :=
  ⟨by simp [go_sem], by simp [go_sem], by simp [go_sem], by simp [go_sem], by simp [go_sem], by simp [go_sem], by simp [go_sem], by simp [go_sem], by simp [go_sem], by simp [go_sem], by simp [go_sem], by simp [go_sem], by simp [go_sem], by simp [go_sem], by simp [go_sem]⟩

set_option maxRecDepth 100000 in
set_option maxHeartbeats 4000000 in
theorem te11_dull (a o r ph ce ta si ev ar ti : Int) (L : lookB a o r si ti = false) (w : World) : Calls Try.prog 11 #[pv a o r, xv ph ce ta si, .int .i64 ev, .int .i64 ar, .int .i64 ti] w fun e w' => e = teR (teS a o r ph ce ta si ev ar ti) ∧ Below w.heap.size w w' := by
  have HS := Lib.hid (show teS a o r ph ce ta si ev ar ti = (ph, ce, ta, si, 0) by unfold teS; rw [L]; rfl)
  have LL := L
  clear L
  have HB3 := Lib.hid (B4.new w a o r ph ce ta si)
  have HB := Lib.hid (((below_alloc w (.cells #[.int .i64 a, .int .i64 o, .int .i64 r] 23)).alloc (by simp) (.cells #[.int .i64 ph, .int .i64 ce, .int .i64 ta, .int .i64 si] 27)).alloc (by simp; omega) (.cells #[.int .i64 0, .int .i64 0, .int .i64 0, .int .i64 0] 27))
  have hc := right22 a o r si ti
  rw [LL] at hc
  unfold pv at hc
  unfold pv xv
  go_enter Try.func11, Try.ntmps11
  go_wp2_with (go_at_call 22; refine (hc _).mono ?_)
  rintro e w2 ⟨rfl, hb⟩
  have h2 := HB3.out.mono hb
  obtain ⟨p0, p1, p2, m0, m1, m2, m3, t0, t1, t2, t3, t4, t5, t6, t7⟩ := h2
  have t8 := lt_of_cell p0
  have t9 := lt_of_cell m0
  have t10 := lt_of_cell t0
  have HW := Lib.hid (bthen HB.out hb HB.out.size)
  have z2 := HW.out.size
  clear hb hc HB HB3 LL
  go_wp2
  refine bodyPost_ret (v := .tuple #[xv ph ce ta si, .int .i64 0]) (by simp [results, Try.results11, go_sem, cell_set, xv, t0, t1, t2, t3, t4, t5, t6, t7, t8, t9, t10]) rfl ?_
  rw [HS.out]
  exact ⟨rfl, by (repeat' first | exact HW.out | apply Below.drew | apply Below.setCell | apply Below.alloc) <;> (simp <;> omega)⟩
set_option maxRecDepth 100000 in
set_option maxHeartbeats 4000000 in
theorem te11_0 (a o r ph ce ta si ev ar ti : Int) (L : lookB a o r si ti = true) (c : ph = 0) (w : World) : Calls Try.prog 11 #[pv a o r, xv ph ce ta si, .int .i64 ev, .int .i64 ar, .int .i64 ti] w fun e w' => e = teR (teS a o r ph ce ta si ev ar ti) ∧ Below w.heap.size w w' := by
  obtain rfl := c
  obtain ⟨⟨_, _, _, _, r1, r2⟩, ti1, ti2, si1, si2⟩ := look_bd L
  have HL := Lib.hid L
  have LL := L
  clear L
  have HB3 := Lib.hid (B4.new w a o r 0 ce ta si)
  have HB := Lib.hid (((below_alloc w (.cells #[.int .i64 a, .int .i64 o, .int .i64 r] 23)).alloc (by simp) (.cells #[.int .i64 0, .int .i64 ce, .int .i64 ta, .int .i64 si] 27)).alloc (by simp; omega) (.cells #[.int .i64 0, .int .i64 0, .int .i64 0, .int .i64 0] 27))
  have hc := right22 a o r si ti
  rw [LL] at hc
  unfold pv at hc
  unfold pv xv
  go_enter Try.func11, Try.ntmps11
  go_wp2_with (go_at_call 22; refine (hc _).mono ?_)
  rintro e w2 ⟨rfl, hb⟩
  have h2 := HB3.out.mono hb
  obtain ⟨p0, p1, p2, m0, m1, m2, m3, t0, t1, t2, t3, t4, t5, t6, t7⟩ := h2
  have t8 := lt_of_cell p0
  have t9 := lt_of_cell m0
  have t10 := lt_of_cell t0
  have HW := Lib.hid (bthen HB.out hb HB.out.size)
  have z2 := HW.out.size
  clear hb hc HB HB3 LL
  by_cases e1 : ev = 1
  · skip
    obtain rfl := e1
    by_cases h1 : 0 ≤ ar
    · skip
      by_cases h2 : ar < 3
      · skip
        by_cases h3 : ar = ce
        · skip
          have q1 : (ar == ce) = true := beq_iff_eq.2 h3
          have q2 : (ar != ce) = false := by simp [h3]
          have HS := Lib.hid (show teS a o r 0 ce ta si 1 ar ti = (0, ce, ta, si, 0) by unfold teS; rw [if_pos HL.out]; first | rw [if_pos (by omega)] | rw [if_neg (by omega), if_pos (by omega)] | rw [if_neg (by omega), if_neg (by omega), if_pos (by omega)] | rw [if_neg (by omega), if_neg (by omega), if_neg (by omega), if_pos (by omega)] | rw [if_neg (by omega), if_neg (by omega), if_neg (by omega), if_neg (by omega), if_pos (by omega)] | rw [if_neg (by omega), if_neg (by omega), if_neg (by omega), if_neg (by omega), if_neg (by omega)])
          go_wp2
          all_goals
            refine bodyPost_ret (v := .tuple #[xv (0) (ce) (ta) (si), .int .i64 (0)]) (by simp [results, Try.results11, go_sem, cell_set, xv, t0, t1, t2, t3, t4, t5, t6, t7, t8, t9, t10]) rfl ?_
            rw [HS.out]
            exact ⟨rfl, by (repeat' first | exact HW.out | apply Below.drew | apply Below.setCell | apply Below.alloc) <;> (simp <;> omega)⟩
        · skip
          have q1 : (ar == ce) = false := beq_eq_false_iff_ne.2 h3
          have q2 : (ar != ce) = true := by rw [bne_iff_ne]; exact h3
          have HS := Lib.hid (show teS a o r 0 ce ta si 1 ar ti = (1, ce, ar, ti, 1) by unfold teS; rw [if_pos HL.out]; first | rw [if_pos (by omega)] | rw [if_neg (by omega), if_pos (by omega)] | rw [if_neg (by omega), if_neg (by omega), if_pos (by omega)] | rw [if_neg (by omega), if_neg (by omega), if_neg (by omega), if_pos (by omega)] | rw [if_neg (by omega), if_neg (by omega), if_neg (by omega), if_neg (by omega), if_pos (by omega)] | rw [if_neg (by omega), if_neg (by omega), if_neg (by omega), if_neg (by omega), if_neg (by omega)])
          go_wp2
          all_goals
            refine bodyPost_ret (v := .tuple #[xv (1) (ce) (ar) (ti), .int .i64 (1)]) (by simp [results, Try.results11, go_sem, cell_set, xv, t0, t1, t2, t3, t4, t5, t6, t7, t8, t9, t10]) rfl ?_
            rw [HS.out]
            exact ⟨rfl, by (repeat' first | exact HW.out | apply Below.drew | apply Below.setCell | apply Below.alloc) <;> (simp <;> omega)⟩
      · skip
        have HS := Lib.hid (show teS a o r 0 ce ta si 1 ar ti = (0, ce, ta, si, 0) by unfold teS; rw [if_pos HL.out]; first | rw [if_pos (by omega)] | rw [if_neg (by omega), if_pos (by omega)] | rw [if_neg (by omega), if_neg (by omega), if_pos (by omega)] | rw [if_neg (by omega), if_neg (by omega), if_neg (by omega), if_pos (by omega)] | rw [if_neg (by omega), if_neg (by omega), if_neg (by omega), if_neg (by omega), if_pos (by omega)] | rw [if_neg (by omega), if_neg (by omega), if_neg (by omega), if_neg (by omega), if_neg (by omega)])
        go_wp2
        all_goals
          refine bodyPost_ret (v := .tuple #[xv (0) (ce) (ta) (si), .int .i64 (0)]) (by simp [results, Try.results11, go_sem, cell_set, xv, t0, t1, t2, t3, t4, t5, t6, t7, t8, t9, t10]) rfl ?_
          rw [HS.out]
          exact ⟨rfl, by (repeat' first | exact HW.out | apply Below.drew | apply Below.setCell | apply Below.alloc) <;> (simp <;> omega)⟩
    · skip
      have HS := Lib.hid (show teS a o r 0 ce ta si 1 ar ti = (0, ce, ta, si, 0) by unfold teS; rw [if_pos HL.out]; first | rw [if_pos (by omega)] | rw [if_neg (by omega), if_pos (by omega)] | rw [if_neg (by omega), if_neg (by omega), if_pos (by omega)] | rw [if_neg (by omega), if_neg (by omega), if_neg (by omega), if_pos (by omega)] | rw [if_neg (by omega), if_neg (by omega), if_neg (by omega), if_neg (by omega), if_pos (by omega)] | rw [if_neg (by omega), if_neg (by omega), if_neg (by omega), if_neg (by omega), if_neg (by omega)])
      go_wp2
      all_goals
        refine bodyPost_ret (v := .tuple #[xv (0) (ce) (ta) (si), .int .i64 (0)]) (by simp [results, Try.results11, go_sem, cell_set, xv, t0, t1, t2, t3, t4, t5, t6, t7, t8, t9, t10]) rfl ?_
        rw [HS.out]
        exact ⟨rfl, by (repeat' first | exact HW.out | apply Below.drew | apply Below.setCell | apply Below.alloc) <;> (simp <;> omega)⟩
  · skip
    have nev1 : (ev == 1) = false := beq_eq_false_iff_ne.2 (by omega)
    have HS := Lib.hid (show teS a o r 0 ce ta si ev ar ti = (0, ce, ta, si, 0) by unfold teS; rw [if_pos HL.out]; first | rw [if_pos (by omega)] | rw [if_neg (by omega), if_pos (by omega)] | rw [if_neg (by omega), if_neg (by omega), if_pos (by omega)] | rw [if_neg (by omega), if_neg (by omega), if_neg (by omega), if_pos (by omega)] | rw [if_neg (by omega), if_neg (by omega), if_neg (by omega), if_neg (by omega), if_pos (by omega)] | rw [if_neg (by omega), if_neg (by omega), if_neg (by omega), if_neg (by omega), if_neg (by omega)])
    go_wp2
    all_goals
      refine bodyPost_ret (v := .tuple #[xv (0) (ce) (ta) (si), .int .i64 (0)]) (by simp [results, Try.results11, go_sem, cell_set, xv, t0, t1, t2, t3, t4, t5, t6, t7, t8, t9, t10]) rfl ?_
      rw [HS.out]
      exact ⟨rfl, by (repeat' first | exact HW.out | apply Below.drew | apply Below.setCell | apply Below.alloc) <;> (simp <;> omega)⟩

set_option maxRecDepth 100000 in
set_option maxHeartbeats 4000000 in
theorem te11_1 (a o r ph ce ta si ev ar ti : Int) (L : lookB a o r si ti = true) (c : ph = 1) (w : World) : Calls Try.prog 11 #[pv a o r, xv ph ce ta si, .int .i64 ev, .int .i64 ar, .int .i64 ti] w fun e w' => e = teR (teS a o r ph ce ta si ev ar ti) ∧ Below w.heap.size w w' := by
  obtain rfl := c
  obtain ⟨⟨_, _, _, _, r1, r2⟩, ti1, ti2, si1, si2⟩ := look_bd L
  have HL := Lib.hid L
  have LL := L
  clear L
  have HB3 := Lib.hid (B4.new w a o r 1 ce ta si)
  have HB := Lib.hid (((below_alloc w (.cells #[.int .i64 a, .int .i64 o, .int .i64 r] 23)).alloc (by simp) (.cells #[.int .i64 1, .int .i64 ce, .int .i64 ta, .int .i64 si] 27)).alloc (by simp; omega) (.cells #[.int .i64 0, .int .i64 0, .int .i64 0, .int .i64 0] 27))
  have hc := right22 a o r si ti
  rw [LL] at hc
  unfold pv at hc
  unfold pv xv
  go_enter Try.func11, Try.ntmps11
  go_wp2_with (go_at_call 22; refine (hc _).mono ?_)
  rintro e w2 ⟨rfl, hb⟩
  have h2 := HB3.out.mono hb
  obtain ⟨p0, p1, p2, m0, m1, m2, m3, t0, t1, t2, t3, t4, t5, t6, t7⟩ := h2
  have t8 := lt_of_cell p0
  have t9 := lt_of_cell m0
  have t10 := lt_of_cell t0
  have HW := Lib.hid (bthen HB.out hb HB.out.size)
  have z2 := HW.out.size
  clear hb hc HB HB3 LL
  by_cases e2 : ev = 2
  · skip
    obtain rfl := e2
    have HS := Lib.hid (show teS a o r 1 ce ta si 2 ar ti = (0, ta, ta, si, 2) by unfold teS; rw [if_pos HL.out]; first | rw [if_pos (by omega)] | rw [if_neg (by omega), if_pos (by omega)] | rw [if_neg (by omega), if_neg (by omega), if_pos (by omega)] | rw [if_neg (by omega), if_neg (by omega), if_neg (by omega), if_pos (by omega)] | rw [if_neg (by omega), if_neg (by omega), if_neg (by omega), if_neg (by omega), if_pos (by omega)] | rw [if_neg (by omega), if_neg (by omega), if_neg (by omega), if_neg (by omega), if_neg (by omega)])
    go_wp2_with fail
    go_region
    all_goals go_wp2
    all_goals
      refine bodyPost_ret (v := .tuple #[xv (0) (ta) (ta) (si), .int .i64 (2)]) (by simp [results, Try.results11, go_sem, cell_set, xv, t0, t1, t2, t3, t4, t5, t6, t7, t8, t9, t10]) rfl ?_
      rw [HS.out]
      exact ⟨rfl, by (repeat' first | exact HW.out | apply Below.drew | apply Below.setCell | apply Below.alloc) <;> (simp <;> omega)⟩
  · skip
    by_cases e3 : ev = 3
    · skip
      obtain rfl := e3
      have HS := Lib.hid (show teS a o r 1 ce ta si 3 ar ti = (2, ce, ta, ti, 3) by unfold teS; rw [if_pos HL.out]; first | rw [if_pos (by omega)] | rw [if_neg (by omega), if_pos (by omega)] | rw [if_neg (by omega), if_neg (by omega), if_pos (by omega)] | rw [if_neg (by omega), if_neg (by omega), if_neg (by omega), if_pos (by omega)] | rw [if_neg (by omega), if_neg (by omega), if_neg (by omega), if_neg (by omega), if_pos (by omega)] | rw [if_neg (by omega), if_neg (by omega), if_neg (by omega), if_neg (by omega), if_neg (by omega)])
      go_wp2
      all_goals
        refine bodyPost_ret (v := .tuple #[xv (2) (ce) (ta) (ti), .int .i64 (3)]) (by simp [results, Try.results11, go_sem, cell_set, xv, t0, t1, t2, t3, t4, t5, t6, t7, t8, t9, t10]) rfl ?_
        rw [HS.out]
        exact ⟨rfl, by (repeat' first | exact HW.out | apply Below.drew | apply Below.setCell | apply Below.alloc) <;> (simp <;> omega)⟩
    · skip
      by_cases e4 : ev = 4
      · skip
        obtain rfl := e4
        by_cases h1 : r ≤ ti - si
        · skip
          have HS := Lib.hid (show teS a o r 1 ce ta si 4 ar ti = (2, ce, ta, ti, 3) by unfold teS; rw [if_pos HL.out]; first | rw [if_pos (by omega)] | rw [if_neg (by omega), if_pos (by omega)] | rw [if_neg (by omega), if_neg (by omega), if_pos (by omega)] | rw [if_neg (by omega), if_neg (by omega), if_neg (by omega), if_pos (by omega)] | rw [if_neg (by omega), if_neg (by omega), if_neg (by omega), if_neg (by omega), if_pos (by omega)] | rw [if_neg (by omega), if_neg (by omega), if_neg (by omega), if_neg (by omega), if_neg (by omega)])
          go_wp2
          all_goals
            refine bodyPost_ret (v := .tuple #[xv (2) (ce) (ta) (ti), .int .i64 (3)]) (by simp [results, Try.results11, go_sem, cell_set, xv, t0, t1, t2, t3, t4, t5, t6, t7, t8, t9, t10]) rfl ?_
            rw [HS.out]
            exact ⟨rfl, by (repeat' first | exact HW.out | apply Below.drew | apply Below.setCell | apply Below.alloc) <;> (simp <;> omega)⟩
        · skip
          have HS := Lib.hid (show teS a o r 1 ce ta si 4 ar ti = (1, ce, ta, si, 0) by unfold teS; rw [if_pos HL.out]; first | rw [if_pos (by omega)] | rw [if_neg (by omega), if_pos (by omega)] | rw [if_neg (by omega), if_neg (by omega), if_pos (by omega)] | rw [if_neg (by omega), if_neg (by omega), if_neg (by omega), if_pos (by omega)] | rw [if_neg (by omega), if_neg (by omega), if_neg (by omega), if_neg (by omega), if_pos (by omega)] | rw [if_neg (by omega), if_neg (by omega), if_neg (by omega), if_neg (by omega), if_neg (by omega)])
          go_wp2
          all_goals
            refine bodyPost_ret (v := .tuple #[xv (1) (ce) (ta) (si), .int .i64 (0)]) (by simp [results, Try.results11, go_sem, cell_set, xv, t0, t1, t2, t3, t4, t5, t6, t7, t8, t9, t10]) rfl ?_
            rw [HS.out]
            exact ⟨rfl, by (repeat' first | exact HW.out | apply Below.drew | apply Below.setCell | apply Below.alloc) <;> (simp <;> omega)⟩
      · skip
        have nev2 : (ev == 2) = false := beq_eq_false_iff_ne.2 (by omega)
        have nev3 : (ev == 3) = false := beq_eq_false_iff_ne.2 (by omega)
        have nev4 : (ev == 4) = false := beq_eq_false_iff_ne.2 (by omega)
        have HS := Lib.hid (show teS a o r 1 ce ta si ev ar ti = (1, ce, ta, si, 0) by unfold teS; rw [if_pos HL.out]; first | rw [if_pos (by omega)] | rw [if_neg (by omega), if_pos (by omega)] | rw [if_neg (by omega), if_neg (by omega), if_pos (by omega)] | rw [if_neg (by omega), if_neg (by omega), if_neg (by omega), if_pos (by omega)] | rw [if_neg (by omega), if_neg (by omega), if_neg (by omega), if_neg (by omega), if_pos (by omega)] | rw [if_neg (by omega), if_neg (by omega), if_neg (by omega), if_neg (by omega), if_neg (by omega)])
        go_wp2
        all_goals
          refine bodyPost_ret (v := .tuple #[xv (1) (ce) (ta) (si), .int .i64 (0)]) (by simp [results, Try.results11, go_sem, cell_set, xv, t0, t1, t2, t3, t4, t5, t6, t7, t8, t9, t10]) rfl ?_
          rw [HS.out]
          exact ⟨rfl, by (repeat' first | exact HW.out | apply Below.drew | apply Below.setCell | apply Below.alloc) <;> (simp <;> omega)⟩

set_option maxRecDepth 100000 in
set_option maxHeartbeats 4000000 in
theorem te11_2 (a o r ph ce ta si ev ar ti : Int) (L : lookB a o r si ti = true) (c : ph = 2) (w : World) : Calls Try.prog 11 #[pv a o r, xv ph ce ta si, .int .i64 ev, .int .i64 ar, .int .i64 ti] w fun e w' => e = teR (teS a o r ph ce ta si ev ar ti) ∧ Below w.heap.size w w' := by
  obtain rfl := c
  obtain ⟨⟨_, _, _, _, r1, r2⟩, ti1, ti2, si1, si2⟩ := look_bd L
  have HL := Lib.hid L
  have LL := L
  clear L
  have HB3 := Lib.hid (B4.new w a o r 2 ce ta si)
  have HB := Lib.hid (((below_alloc w (.cells #[.int .i64 a, .int .i64 o, .int .i64 r] 23)).alloc (by simp) (.cells #[.int .i64 2, .int .i64 ce, .int .i64 ta, .int .i64 si] 27)).alloc (by simp; omega) (.cells #[.int .i64 0, .int .i64 0, .int .i64 0, .int .i64 0] 27))
  have hc := right22 a o r si ti
  rw [LL] at hc
  unfold pv at hc
  unfold pv xv
  go_enter Try.func11, Try.ntmps11
  go_wp2_with (go_at_call 22; refine (hc _).mono ?_)
  rintro e w2 ⟨rfl, hb⟩
  have h2 := HB3.out.mono hb
  obtain ⟨p0, p1, p2, m0, m1, m2, m3, t0, t1, t2, t3, t4, t5, t6, t7⟩ := h2
  have t8 := lt_of_cell p0
  have t9 := lt_of_cell m0
  have t10 := lt_of_cell t0
  have HW := Lib.hid (bthen HB.out hb HB.out.size)
  have z2 := HW.out.size
  clear hb hc HB HB3 LL
  by_cases e2 : ev = 2
  · skip
    obtain rfl := e2
    have HS := Lib.hid (show teS a o r 2 ce ta si 2 ar ti = (0, ce, ta, si, 4) by unfold teS; rw [if_pos HL.out]; first | rw [if_pos (by omega)] | rw [if_neg (by omega), if_pos (by omega)] | rw [if_neg (by omega), if_neg (by omega), if_pos (by omega)] | rw [if_neg (by omega), if_neg (by omega), if_neg (by omega), if_pos (by omega)] | rw [if_neg (by omega), if_neg (by omega), if_neg (by omega), if_neg (by omega), if_pos (by omega)] | rw [if_neg (by omega), if_neg (by omega), if_neg (by omega), if_neg (by omega), if_neg (by omega)])
    go_wp2
    all_goals
      refine bodyPost_ret (v := .tuple #[xv (0) (ce) (ta) (si), .int .i64 (4)]) (by simp [results, Try.results11, go_sem, cell_set, xv, t0, t1, t2, t3, t4, t5, t6, t7, t8, t9, t10]) rfl ?_
      rw [HS.out]
      exact ⟨rfl, by (repeat' first | exact HW.out | apply Below.drew | apply Below.setCell | apply Below.alloc) <;> (simp <;> omega)⟩
  · skip
    by_cases e3 : ev = 3
    · skip
      obtain rfl := e3
      have HS := Lib.hid (show teS a o r 2 ce ta si 3 ar ti = (2, ce, ta, si, 3) by unfold teS; rw [if_pos HL.out]; first | rw [if_pos (by omega)] | rw [if_neg (by omega), if_pos (by omega)] | rw [if_neg (by omega), if_neg (by omega), if_pos (by omega)] | rw [if_neg (by omega), if_neg (by omega), if_neg (by omega), if_pos (by omega)] | rw [if_neg (by omega), if_neg (by omega), if_neg (by omega), if_neg (by omega), if_pos (by omega)] | rw [if_neg (by omega), if_neg (by omega), if_neg (by omega), if_neg (by omega), if_neg (by omega)])
      go_wp2
      all_goals
        refine bodyPost_ret (v := .tuple #[xv (2) (ce) (ta) (si), .int .i64 (3)]) (by simp [results, Try.results11, go_sem, cell_set, xv, t0, t1, t2, t3, t4, t5, t6, t7, t8, t9, t10]) rfl ?_
        rw [HS.out]
        exact ⟨rfl, by (repeat' first | exact HW.out | apply Below.drew | apply Below.setCell | apply Below.alloc) <;> (simp <;> omega)⟩
    · skip
      have nev2 : (ev == 2) = false := beq_eq_false_iff_ne.2 (by omega)
      have nev3 : (ev == 3) = false := beq_eq_false_iff_ne.2 (by omega)
      have HS := Lib.hid (show teS a o r 2 ce ta si ev ar ti = (2, ce, ta, si, 0) by unfold teS; rw [if_pos HL.out]; first | rw [if_pos (by omega)] | rw [if_neg (by omega), if_pos (by omega)] | rw [if_neg (by omega), if_neg (by omega), if_pos (by omega)] | rw [if_neg (by omega), if_neg (by omega), if_neg (by omega), if_pos (by omega)] | rw [if_neg (by omega), if_neg (by omega), if_neg (by omega), if_neg (by omega), if_pos (by omega)] | rw [if_neg (by omega), if_neg (by omega), if_neg (by omega), if_neg (by omega), if_neg (by omega)])
      go_wp2
      all_goals
        refine bodyPost_ret (v := .tuple #[xv (2) (ce) (ta) (si), .int .i64 (0)]) (by simp [results, Try.results11, go_sem, cell_set, xv, t0, t1, t2, t3, t4, t5, t6, t7, t8, t9, t10]) rfl ?_
        rw [HS.out]
        exact ⟨rfl, by (repeat' first | exact HW.out | apply Below.drew | apply Below.setCell | apply Below.alloc) <;> (simp <;> omega)⟩

set_option maxRecDepth 100000 in
set_option maxHeartbeats 4000000 in
theorem te11_n (a o r ph ce ta si ev ar ti : Int) (L : lookB a o r si ti = true) (c : ph ≠ 0 ∧ ph ≠ 1 ∧ ph ≠ 2) (w : World) : Calls Try.prog 11 #[pv a o r, xv ph ce ta si, .int .i64 ev, .int .i64 ar, .int .i64 ti] w fun e w' => e = teR (teS a o r ph ce ta si ev ar ti) ∧ Below w.heap.size w w' := by
  obtain ⟨⟨_, _, _, _, r1, r2⟩, ti1, ti2, si1, si2⟩ := look_bd L
  have HL := Lib.hid L
  have LL := L
  clear L
  have HB3 := Lib.hid (B4.new w a o r ph ce ta si)
  have HB := Lib.hid (((below_alloc w (.cells #[.int .i64 a, .int .i64 o, .int .i64 r] 23)).alloc (by simp) (.cells #[.int .i64 ph, .int .i64 ce, .int .i64 ta, .int .i64 si] 27)).alloc (by simp; omega) (.cells #[.int .i64 0, .int .i64 0, .int .i64 0, .int .i64 0] 27))
  have hc := right22 a o r si ti
  rw [LL] at hc
  unfold pv at hc
  unfold pv xv
  go_enter Try.func11, Try.ntmps11
  go_wp2_with (go_at_call 22; refine (hc _).mono ?_)
  rintro e w2 ⟨rfl, hb⟩
  have h2 := HB3.out.mono hb
  obtain ⟨p0, p1, p2, m0, m1, m2, m3, t0, t1, t2, t3, t4, t5, t6, t7⟩ := h2
  have t8 := lt_of_cell p0
  have t9 := lt_of_cell m0
  have t10 := lt_of_cell t0
  have HW := Lib.hid (bthen HB.out hb HB.out.size)
  have z2 := HW.out.size
  clear hb hc HB HB3 LL
  have nph0 : (ph == 0) = false := beq_eq_false_iff_ne.2 (by omega)
  have nph1 : (ph == 1) = false := beq_eq_false_iff_ne.2 (by omega)
  have nph2 : (ph == 2) = false := beq_eq_false_iff_ne.2 (by omega)
  have HS := Lib.hid (show teS a o r ph ce ta si ev ar ti = (ph, ce, ta, si, 0) by unfold teS; rw [if_pos HL.out]; first | rw [if_pos (by omega)] | rw [if_neg (by omega), if_pos (by omega)] | rw [if_neg (by omega), if_neg (by omega), if_pos (by omega)] | rw [if_neg (by omega), if_neg (by omega), if_neg (by omega), if_pos (by omega)] | rw [if_neg (by omega), if_neg (by omega), if_neg (by omega), if_neg (by omega), if_pos (by omega)] | rw [if_neg (by omega), if_neg (by omega), if_neg (by omega), if_neg (by omega), if_neg (by omega)])
  go_wp2
  all_goals
    refine bodyPost_ret (v := .tuple #[xv (ph) (ce) (ta) (si), .int .i64 (0)]) (by simp [results, Try.results11, go_sem, cell_set, xv, t0, t1, t2, t3, t4, t5, t6, t7, t8, t9, t10]) rfl ?_
    rw [HS.out]
    exact ⟨rfl, by (repeat' first | exact HW.out | apply Below.drew | apply Below.setCell | apply Below.alloc) <;> (simp <;> omega)⟩

theorem terminal11 (a o r ph ce ta si ev ar ti : Int) (w : World) : Calls Try.prog 11 #[pv a o r, xv ph ce ta si, .int .i64 ev, .int .i64 ar, .int .i64 ti] w fun e w' => e = teR (teS a o r ph ce ta si ev ar ti) ∧ Below w.heap.size w w' := by
  cases L : lookB a o r si ti
  · exact te11_dull a o r ph ce ta si ev ar ti L w
  · by_cases c0 : ph = 0
    · exact te11_0 a o r ph ce ta si ev ar ti L c0 w
    · by_cases c1 : ph = 1
      · exact te11_1 a o r ph ce ta si ev ar ti L c1 w
      · by_cases c2 : ph = 2
        · exact te11_2 a o r ph ce ta si ev ar ti L c2 w
        · exact te11_n a o r ph ce ta si ev ar ti L ⟨c0, c1, c2⟩ w
end Go.Proofs.Ytaocopmlgemgiaa
