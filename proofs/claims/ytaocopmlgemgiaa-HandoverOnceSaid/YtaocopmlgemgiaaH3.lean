/- Layer 42: the reference's station. -/
import Derived.Test.YtaocopmlgemgiaaH2
namespace Go.Proofs.Ytaocopmlgemgiaa
set_option linter.unusedVariables false
set_option linter.unusedSimpArgs false
open Go.RowKit Go.Sort
attribute [local go_sem] gcell

set_option maxRecDepth 100000 in
set_option maxHeartbeats 4000000 in
theorem st9_dull (a o r ph ot si ev ar ti : Int) (L : lookB a o r si ti = false) (w : World) : Calls Try.prog 9 #[pv a o r, mv ph ot si, .int .i64 ev, .int .i64 ar, .int .i64 ti] w fun e w' => e = stR (stS a o r ph ot si ev ar ti) ∧ Below w.heap.size w w' := by
  have HS := Lib.hid (show stS a o r ph ot si ev ar ti = (ph, ot, si, 0) by unfold stS; rw [L]; rfl)
  have LL := L
  clear L
  have HB3 := Lib.hid (B3.new w a o r ph ot si)
  have HB := Lib.hid (((below_alloc w (.cells #[.int .i64 a, .int .i64 o, .int .i64 r] 23)).alloc (by simp) (.cells #[.int .i64 ph, .int .i64 ot, .int .i64 si] 25)).alloc (by simp; omega) (.cells #[.int .i64 0, .int .i64 0, .int .i64 0] 25))
  have hc := right22 a o r si ti
  rw [LL] at hc
  unfold pv at hc
  unfold pv mv
  go_enter Try.func9, Try.ntmps9
  go_wp2_with (go_at_call 22; refine (hc _).mono ?_)
  rintro e w2 ⟨rfl, hb⟩
  have h2 := HB3.out.mono hb
  obtain ⟨p0, p1, p2, m0, m1, m2, t0, t1, t2, t3, t4, t5⟩ := h2
  have t6 := lt_of_cell p0
  have t7 := lt_of_cell m0
  have t8 := lt_of_cell t0
  have HW := Lib.hid (bthen HB.out hb HB.out.size)
  have z2 := HW.out.size
  clear hb hc HB HB3 LL
  go_wp2
  refine bodyPost_ret (v := .tuple #[mv ph ot si, .int .i64 0]) (by simp [results, Try.results9, go_sem, cell_set, mv, t0, t1, t2, t3, t4, t5, t6, t7, t8]) rfl ?_
  rw [HS.out]
  exact ⟨rfl, by (repeat' first | exact HW.out | apply Below.setCell | apply Below.alloc) <;> (simp <;> omega)⟩
set_option maxRecDepth 100000 in
set_option maxHeartbeats 4000000 in
theorem st9_0 (a o r ph ot si ev ar ti : Int) (L : lookB a o r si ti = true) (c : ph = 0) (w : World) : Calls Try.prog 9 #[pv a o r, mv ph ot si, .int .i64 ev, .int .i64 ar, .int .i64 ti] w fun e w' => e = stR (stS a o r ph ot si ev ar ti) ∧ Below w.heap.size w w' := by
  obtain rfl := c
  obtain ⟨⟨a1, a2, o1, o2, _, _⟩, ti1, ti2, si1, si2⟩ := look_bd L
  have HL := Lib.hid L
  have LL := L
  clear L
  have HB3 := Lib.hid (B3.new w a o r 0 ot si)
  have HB := Lib.hid (((below_alloc w (.cells #[.int .i64 a, .int .i64 o, .int .i64 r] 23)).alloc (by simp) (.cells #[.int .i64 0, .int .i64 ot, .int .i64 si] 25)).alloc (by simp; omega) (.cells #[.int .i64 0, .int .i64 0, .int .i64 0] 25))
  have hc := right22 a o r si ti
  rw [LL] at hc
  unfold pv at hc
  unfold pv mv
  go_enter Try.func9, Try.ntmps9
  go_wp2_with (go_at_call 22; refine (hc _).mono ?_)
  rintro e w2 ⟨rfl, hb⟩
  have h2 := HB3.out.mono hb
  obtain ⟨p0, p1, p2, m0, m1, m2, t0, t1, t2, t3, t4, t5⟩ := h2
  have t6 := lt_of_cell p0
  have t7 := lt_of_cell m0
  have t8 := lt_of_cell t0
  have HW := Lib.hid (bthen HB.out hb HB.out.size)
  have z2 := HW.out.size
  clear hb hc HB HB3 LL
  by_cases e1 : ev = 1
  · skip
    obtain rfl := e1
    by_cases h1 : 0 ≤ ar
    · skip
      by_cases h2 : ar < 3
      · skip
        have HS := Lib.hid (show stS a o r 0 ot si 1 ar ti = (1, ar, ti, 1) by unfold stS; rw [if_pos HL.out]; first | rw [if_pos (by omega)] | rw [if_neg (by omega), if_pos (by omega)] | rw [if_neg (by omega), if_neg (by omega), if_pos (by omega)] | rw [if_neg (by omega), if_neg (by omega), if_neg (by omega), if_pos (by omega)] | rw [if_neg (by omega), if_neg (by omega), if_neg (by omega), if_neg (by omega), if_pos (by omega)] | rw [if_neg (by omega), if_neg (by omega), if_neg (by omega), if_neg (by omega), if_neg (by omega), if_pos (by omega)] | rw [if_neg (by omega), if_neg (by omega), if_neg (by omega), if_neg (by omega), if_neg (by omega), if_neg (by omega), if_pos (by omega)] | rw [if_neg (by omega), if_neg (by omega), if_neg (by omega), if_neg (by omega), if_neg (by omega), if_neg (by omega), if_neg (by omega), if_pos (by omega)] | rw [if_neg (by omega), if_neg (by omega), if_neg (by omega), if_neg (by omega), if_neg (by omega), if_neg (by omega), if_neg (by omega), if_neg (by omega)])
        go_wp2
        all_goals
          refine bodyPost_ret (v := .tuple #[mv (1) (ar) (ti), .int .i64 (1)]) (by simp [results, Try.results9, go_sem, cell_set, mv, t0, t1, t2, t3, t4, t5, t6, t7, t8]) rfl ?_
          rw [HS.out]
          exact ⟨rfl, by (repeat' first | exact HW.out | apply Below.setCell | apply Below.alloc) <;> (simp <;> omega)⟩
      · skip
        have HS := Lib.hid (show stS a o r 0 ot si 1 ar ti = (0, ot, si, 0) by unfold stS; rw [if_pos HL.out]; first | rw [if_pos (by omega)] | rw [if_neg (by omega), if_pos (by omega)] | rw [if_neg (by omega), if_neg (by omega), if_pos (by omega)] | rw [if_neg (by omega), if_neg (by omega), if_neg (by omega), if_pos (by omega)] | rw [if_neg (by omega), if_neg (by omega), if_neg (by omega), if_neg (by omega), if_pos (by omega)] | rw [if_neg (by omega), if_neg (by omega), if_neg (by omega), if_neg (by omega), if_neg (by omega), if_pos (by omega)] | rw [if_neg (by omega), if_neg (by omega), if_neg (by omega), if_neg (by omega), if_neg (by omega), if_neg (by omega), if_pos (by omega)] | rw [if_neg (by omega), if_neg (by omega), if_neg (by omega), if_neg (by omega), if_neg (by omega), if_neg (by omega), if_neg (by omega), if_pos (by omega)] | rw [if_neg (by omega), if_neg (by omega), if_neg (by omega), if_neg (by omega), if_neg (by omega), if_neg (by omega), if_neg (by omega), if_neg (by omega)])
        go_wp2
        all_goals
          refine bodyPost_ret (v := .tuple #[mv (0) (ot) (si), .int .i64 (0)]) (by simp [results, Try.results9, go_sem, cell_set, mv, t0, t1, t2, t3, t4, t5, t6, t7, t8]) rfl ?_
          rw [HS.out]
          exact ⟨rfl, by (repeat' first | exact HW.out | apply Below.setCell | apply Below.alloc) <;> (simp <;> omega)⟩
    · skip
      have HS := Lib.hid (show stS a o r 0 ot si 1 ar ti = (0, ot, si, 0) by unfold stS; rw [if_pos HL.out]; first | rw [if_pos (by omega)] | rw [if_neg (by omega), if_pos (by omega)] | rw [if_neg (by omega), if_neg (by omega), if_pos (by omega)] | rw [if_neg (by omega), if_neg (by omega), if_neg (by omega), if_pos (by omega)] | rw [if_neg (by omega), if_neg (by omega), if_neg (by omega), if_neg (by omega), if_pos (by omega)] | rw [if_neg (by omega), if_neg (by omega), if_neg (by omega), if_neg (by omega), if_neg (by omega), if_pos (by omega)] | rw [if_neg (by omega), if_neg (by omega), if_neg (by omega), if_neg (by omega), if_neg (by omega), if_neg (by omega), if_pos (by omega)] | rw [if_neg (by omega), if_neg (by omega), if_neg (by omega), if_neg (by omega), if_neg (by omega), if_neg (by omega), if_neg (by omega), if_pos (by omega)] | rw [if_neg (by omega), if_neg (by omega), if_neg (by omega), if_neg (by omega), if_neg (by omega), if_neg (by omega), if_neg (by omega), if_neg (by omega)])
      go_wp2
      all_goals
        refine bodyPost_ret (v := .tuple #[mv (0) (ot) (si), .int .i64 (0)]) (by simp [results, Try.results9, go_sem, cell_set, mv, t0, t1, t2, t3, t4, t5, t6, t7, t8]) rfl ?_
        rw [HS.out]
        exact ⟨rfl, by (repeat' first | exact HW.out | apply Below.setCell | apply Below.alloc) <;> (simp <;> omega)⟩
  · skip
    have nev1 : (ev == 1) = false := beq_eq_false_iff_ne.2 (by omega)
    have HS := Lib.hid (show stS a o r 0 ot si ev ar ti = (0, ot, si, 0) by unfold stS; rw [if_pos HL.out]; first | rw [if_pos (by omega)] | rw [if_neg (by omega), if_pos (by omega)] | rw [if_neg (by omega), if_neg (by omega), if_pos (by omega)] | rw [if_neg (by omega), if_neg (by omega), if_neg (by omega), if_pos (by omega)] | rw [if_neg (by omega), if_neg (by omega), if_neg (by omega), if_neg (by omega), if_pos (by omega)] | rw [if_neg (by omega), if_neg (by omega), if_neg (by omega), if_neg (by omega), if_neg (by omega), if_pos (by omega)] | rw [if_neg (by omega), if_neg (by omega), if_neg (by omega), if_neg (by omega), if_neg (by omega), if_neg (by omega), if_pos (by omega)] | rw [if_neg (by omega), if_neg (by omega), if_neg (by omega), if_neg (by omega), if_neg (by omega), if_neg (by omega), if_neg (by omega), if_pos (by omega)] | rw [if_neg (by omega), if_neg (by omega), if_neg (by omega), if_neg (by omega), if_neg (by omega), if_neg (by omega), if_neg (by omega), if_neg (by omega)])
    go_wp2
    all_goals
      refine bodyPost_ret (v := .tuple #[mv (0) (ot) (si), .int .i64 (0)]) (by simp [results, Try.results9, go_sem, cell_set, mv, t0, t1, t2, t3, t4, t5, t6, t7, t8]) rfl ?_
      rw [HS.out]
      exact ⟨rfl, by (repeat' first | exact HW.out | apply Below.setCell | apply Below.alloc) <;> (simp <;> omega)⟩

set_option maxRecDepth 100000 in
set_option maxHeartbeats 4000000 in
theorem st9_1 (a o r ph ot si ev ar ti : Int) (L : lookB a o r si ti = true) (c : ph = 1) (w : World) : Calls Try.prog 9 #[pv a o r, mv ph ot si, .int .i64 ev, .int .i64 ar, .int .i64 ti] w fun e w' => e = stR (stS a o r ph ot si ev ar ti) ∧ Below w.heap.size w w' := by
  obtain rfl := c
  obtain ⟨⟨a1, a2, o1, o2, _, _⟩, ti1, ti2, si1, si2⟩ := look_bd L
  have HL := Lib.hid L
  have LL := L
  clear L
  have HB3 := Lib.hid (B3.new w a o r 1 ot si)
  have HB := Lib.hid (((below_alloc w (.cells #[.int .i64 a, .int .i64 o, .int .i64 r] 23)).alloc (by simp) (.cells #[.int .i64 1, .int .i64 ot, .int .i64 si] 25)).alloc (by simp; omega) (.cells #[.int .i64 0, .int .i64 0, .int .i64 0] 25))
  have hc := right22 a o r si ti
  rw [LL] at hc
  unfold pv at hc
  unfold pv mv
  go_enter Try.func9, Try.ntmps9
  go_wp2_with (go_at_call 22; refine (hc _).mono ?_)
  rintro e w2 ⟨rfl, hb⟩
  have h2 := HB3.out.mono hb
  obtain ⟨p0, p1, p2, m0, m1, m2, t0, t1, t2, t3, t4, t5⟩ := h2
  have t6 := lt_of_cell p0
  have t7 := lt_of_cell m0
  have t8 := lt_of_cell t0
  have HW := Lib.hid (bthen HB.out hb HB.out.size)
  have z2 := HW.out.size
  clear hb hc HB HB3 LL
  by_cases e2 : ev = 2
  · skip
    obtain rfl := e2
    by_cases h1 : ar = si
    · skip
      have q1 : (ar == si) = true := beq_iff_eq.2 h1
      have HS := Lib.hid (show stS a o r 1 ot si 2 ar ti = (2, ot, ti, 2) by unfold stS; rw [if_pos HL.out]; first | rw [if_pos (by omega)] | rw [if_neg (by omega), if_pos (by omega)] | rw [if_neg (by omega), if_neg (by omega), if_pos (by omega)] | rw [if_neg (by omega), if_neg (by omega), if_neg (by omega), if_pos (by omega)] | rw [if_neg (by omega), if_neg (by omega), if_neg (by omega), if_neg (by omega), if_pos (by omega)] | rw [if_neg (by omega), if_neg (by omega), if_neg (by omega), if_neg (by omega), if_neg (by omega), if_pos (by omega)] | rw [if_neg (by omega), if_neg (by omega), if_neg (by omega), if_neg (by omega), if_neg (by omega), if_neg (by omega), if_pos (by omega)] | rw [if_neg (by omega), if_neg (by omega), if_neg (by omega), if_neg (by omega), if_neg (by omega), if_neg (by omega), if_neg (by omega), if_pos (by omega)] | rw [if_neg (by omega), if_neg (by omega), if_neg (by omega), if_neg (by omega), if_neg (by omega), if_neg (by omega), if_neg (by omega), if_neg (by omega)])
      go_wp2
      all_goals
        refine bodyPost_ret (v := .tuple #[mv (2) (ot) (ti), .int .i64 (2)]) (by simp [results, Try.results9, go_sem, cell_set, mv, t0, t1, t2, t3, t4, t5, t6, t7, t8]) rfl ?_
        rw [HS.out]
        exact ⟨rfl, by (repeat' first | exact HW.out | apply Below.setCell | apply Below.alloc) <;> (simp <;> omega)⟩
    · skip
      have q1 : (ar == si) = false := beq_eq_false_iff_ne.2 h1
      have HS := Lib.hid (show stS a o r 1 ot si 2 ar ti = (1, ot, si, 0) by unfold stS; rw [if_pos HL.out]; first | rw [if_pos (by omega)] | rw [if_neg (by omega), if_pos (by omega)] | rw [if_neg (by omega), if_neg (by omega), if_pos (by omega)] | rw [if_neg (by omega), if_neg (by omega), if_neg (by omega), if_pos (by omega)] | rw [if_neg (by omega), if_neg (by omega), if_neg (by omega), if_neg (by omega), if_pos (by omega)] | rw [if_neg (by omega), if_neg (by omega), if_neg (by omega), if_neg (by omega), if_neg (by omega), if_pos (by omega)] | rw [if_neg (by omega), if_neg (by omega), if_neg (by omega), if_neg (by omega), if_neg (by omega), if_neg (by omega), if_pos (by omega)] | rw [if_neg (by omega), if_neg (by omega), if_neg (by omega), if_neg (by omega), if_neg (by omega), if_neg (by omega), if_neg (by omega), if_pos (by omega)] | rw [if_neg (by omega), if_neg (by omega), if_neg (by omega), if_neg (by omega), if_neg (by omega), if_neg (by omega), if_neg (by omega), if_neg (by omega)])
      go_wp2
      all_goals
        refine bodyPost_ret (v := .tuple #[mv (1) (ot) (si), .int .i64 (0)]) (by simp [results, Try.results9, go_sem, cell_set, mv, t0, t1, t2, t3, t4, t5, t6, t7, t8]) rfl ?_
        rw [HS.out]
        exact ⟨rfl, by (repeat' first | exact HW.out | apply Below.setCell | apply Below.alloc) <;> (simp <;> omega)⟩
  · skip
    by_cases e3 : ev = 3
    · skip
      obtain rfl := e3
      by_cases h1 : ar = si
      · skip
        have q1 : (ar == si) = true := beq_iff_eq.2 h1
        have HS := Lib.hid (show stS a o r 1 ot si 3 ar ti = (0, ot, si, 0) by unfold stS; rw [if_pos HL.out]; first | rw [if_pos (by omega)] | rw [if_neg (by omega), if_pos (by omega)] | rw [if_neg (by omega), if_neg (by omega), if_pos (by omega)] | rw [if_neg (by omega), if_neg (by omega), if_neg (by omega), if_pos (by omega)] | rw [if_neg (by omega), if_neg (by omega), if_neg (by omega), if_neg (by omega), if_pos (by omega)] | rw [if_neg (by omega), if_neg (by omega), if_neg (by omega), if_neg (by omega), if_neg (by omega), if_pos (by omega)] | rw [if_neg (by omega), if_neg (by omega), if_neg (by omega), if_neg (by omega), if_neg (by omega), if_neg (by omega), if_pos (by omega)] | rw [if_neg (by omega), if_neg (by omega), if_neg (by omega), if_neg (by omega), if_neg (by omega), if_neg (by omega), if_neg (by omega), if_pos (by omega)] | rw [if_neg (by omega), if_neg (by omega), if_neg (by omega), if_neg (by omega), if_neg (by omega), if_neg (by omega), if_neg (by omega), if_neg (by omega)])
        go_wp2
        all_goals
          refine bodyPost_ret (v := .tuple #[mv (0) (ot) (si), .int .i64 (0)]) (by simp [results, Try.results9, go_sem, cell_set, mv, t0, t1, t2, t3, t4, t5, t6, t7, t8]) rfl ?_
          rw [HS.out]
          exact ⟨rfl, by (repeat' first | exact HW.out | apply Below.setCell | apply Below.alloc) <;> (simp <;> omega)⟩
      · skip
        have q1 : (ar == si) = false := beq_eq_false_iff_ne.2 h1
        have HS := Lib.hid (show stS a o r 1 ot si 3 ar ti = (1, ot, si, 0) by unfold stS; rw [if_pos HL.out]; first | rw [if_pos (by omega)] | rw [if_neg (by omega), if_pos (by omega)] | rw [if_neg (by omega), if_neg (by omega), if_pos (by omega)] | rw [if_neg (by omega), if_neg (by omega), if_neg (by omega), if_pos (by omega)] | rw [if_neg (by omega), if_neg (by omega), if_neg (by omega), if_neg (by omega), if_pos (by omega)] | rw [if_neg (by omega), if_neg (by omega), if_neg (by omega), if_neg (by omega), if_neg (by omega), if_pos (by omega)] | rw [if_neg (by omega), if_neg (by omega), if_neg (by omega), if_neg (by omega), if_neg (by omega), if_neg (by omega), if_pos (by omega)] | rw [if_neg (by omega), if_neg (by omega), if_neg (by omega), if_neg (by omega), if_neg (by omega), if_neg (by omega), if_neg (by omega), if_pos (by omega)] | rw [if_neg (by omega), if_neg (by omega), if_neg (by omega), if_neg (by omega), if_neg (by omega), if_neg (by omega), if_neg (by omega), if_neg (by omega)])
        go_wp2
        all_goals
          refine bodyPost_ret (v := .tuple #[mv (1) (ot) (si), .int .i64 (0)]) (by simp [results, Try.results9, go_sem, cell_set, mv, t0, t1, t2, t3, t4, t5, t6, t7, t8]) rfl ?_
          rw [HS.out]
          exact ⟨rfl, by (repeat' first | exact HW.out | apply Below.setCell | apply Below.alloc) <;> (simp <;> omega)⟩
    · skip
      by_cases e7 : ev = 7
      · skip
        obtain rfl := e7
        by_cases h1 : a ≤ ti - si
        · skip
          have HS := Lib.hid (show stS a o r 1 ot si 7 ar ti = (0, ot, si, 4) by unfold stS; rw [if_pos HL.out]; first | rw [if_pos (by omega)] | rw [if_neg (by omega), if_pos (by omega)] | rw [if_neg (by omega), if_neg (by omega), if_pos (by omega)] | rw [if_neg (by omega), if_neg (by omega), if_neg (by omega), if_pos (by omega)] | rw [if_neg (by omega), if_neg (by omega), if_neg (by omega), if_neg (by omega), if_pos (by omega)] | rw [if_neg (by omega), if_neg (by omega), if_neg (by omega), if_neg (by omega), if_neg (by omega), if_pos (by omega)] | rw [if_neg (by omega), if_neg (by omega), if_neg (by omega), if_neg (by omega), if_neg (by omega), if_neg (by omega), if_pos (by omega)] | rw [if_neg (by omega), if_neg (by omega), if_neg (by omega), if_neg (by omega), if_neg (by omega), if_neg (by omega), if_neg (by omega), if_pos (by omega)] | rw [if_neg (by omega), if_neg (by omega), if_neg (by omega), if_neg (by omega), if_neg (by omega), if_neg (by omega), if_neg (by omega), if_neg (by omega)])
          go_wp2
          all_goals
            refine bodyPost_ret (v := .tuple #[mv (0) (ot) (si), .int .i64 (4)]) (by simp [results, Try.results9, go_sem, cell_set, mv, t0, t1, t2, t3, t4, t5, t6, t7, t8]) rfl ?_
            rw [HS.out]
            exact ⟨rfl, by (repeat' first | exact HW.out | apply Below.setCell | apply Below.alloc) <;> (simp <;> omega)⟩
        · skip
          have HS := Lib.hid (show stS a o r 1 ot si 7 ar ti = (1, ot, si, 0) by unfold stS; rw [if_pos HL.out]; first | rw [if_pos (by omega)] | rw [if_neg (by omega), if_pos (by omega)] | rw [if_neg (by omega), if_neg (by omega), if_pos (by omega)] | rw [if_neg (by omega), if_neg (by omega), if_neg (by omega), if_pos (by omega)] | rw [if_neg (by omega), if_neg (by omega), if_neg (by omega), if_neg (by omega), if_pos (by omega)] | rw [if_neg (by omega), if_neg (by omega), if_neg (by omega), if_neg (by omega), if_neg (by omega), if_pos (by omega)] | rw [if_neg (by omega), if_neg (by omega), if_neg (by omega), if_neg (by omega), if_neg (by omega), if_neg (by omega), if_pos (by omega)] | rw [if_neg (by omega), if_neg (by omega), if_neg (by omega), if_neg (by omega), if_neg (by omega), if_neg (by omega), if_neg (by omega), if_pos (by omega)] | rw [if_neg (by omega), if_neg (by omega), if_neg (by omega), if_neg (by omega), if_neg (by omega), if_neg (by omega), if_neg (by omega), if_neg (by omega)])
          go_wp2
          all_goals
            refine bodyPost_ret (v := .tuple #[mv (1) (ot) (si), .int .i64 (0)]) (by simp [results, Try.results9, go_sem, cell_set, mv, t0, t1, t2, t3, t4, t5, t6, t7, t8]) rfl ?_
            rw [HS.out]
            exact ⟨rfl, by (repeat' first | exact HW.out | apply Below.setCell | apply Below.alloc) <;> (simp <;> omega)⟩
      · skip
        have nev2 : (ev == 2) = false := beq_eq_false_iff_ne.2 (by omega)
        have nev3 : (ev == 3) = false := beq_eq_false_iff_ne.2 (by omega)
        have nev7 : (ev == 7) = false := beq_eq_false_iff_ne.2 (by omega)
        have HS := Lib.hid (show stS a o r 1 ot si ev ar ti = (1, ot, si, 0) by unfold stS; rw [if_pos HL.out]; first | rw [if_pos (by omega)] | rw [if_neg (by omega), if_pos (by omega)] | rw [if_neg (by omega), if_neg (by omega), if_pos (by omega)] | rw [if_neg (by omega), if_neg (by omega), if_neg (by omega), if_pos (by omega)] | rw [if_neg (by omega), if_neg (by omega), if_neg (by omega), if_neg (by omega), if_pos (by omega)] | rw [if_neg (by omega), if_neg (by omega), if_neg (by omega), if_neg (by omega), if_neg (by omega), if_pos (by omega)] | rw [if_neg (by omega), if_neg (by omega), if_neg (by omega), if_neg (by omega), if_neg (by omega), if_neg (by omega), if_pos (by omega)] | rw [if_neg (by omega), if_neg (by omega), if_neg (by omega), if_neg (by omega), if_neg (by omega), if_neg (by omega), if_neg (by omega), if_pos (by omega)] | rw [if_neg (by omega), if_neg (by omega), if_neg (by omega), if_neg (by omega), if_neg (by omega), if_neg (by omega), if_neg (by omega), if_neg (by omega)])
        go_wp2
        all_goals
          refine bodyPost_ret (v := .tuple #[mv (1) (ot) (si), .int .i64 (0)]) (by simp [results, Try.results9, go_sem, cell_set, mv, t0, t1, t2, t3, t4, t5, t6, t7, t8]) rfl ?_
          rw [HS.out]
          exact ⟨rfl, by (repeat' first | exact HW.out | apply Below.setCell | apply Below.alloc) <;> (simp <;> omega)⟩

set_option maxRecDepth 100000 in
set_option maxHeartbeats 4000000 in
theorem st9_2 (a o r ph ot si ev ar ti : Int) (L : lookB a o r si ti = true) (c : ph = 2) (w : World) : Calls Try.prog 9 #[pv a o r, mv ph ot si, .int .i64 ev, .int .i64 ar, .int .i64 ti] w fun e w' => e = stR (stS a o r ph ot si ev ar ti) ∧ Below w.heap.size w w' := by
  obtain rfl := c
  obtain ⟨⟨a1, a2, o1, o2, _, _⟩, ti1, ti2, si1, si2⟩ := look_bd L
  have HL := Lib.hid L
  have LL := L
  clear L
  have HB3 := Lib.hid (B3.new w a o r 2 ot si)
  have HB := Lib.hid (((below_alloc w (.cells #[.int .i64 a, .int .i64 o, .int .i64 r] 23)).alloc (by simp) (.cells #[.int .i64 2, .int .i64 ot, .int .i64 si] 25)).alloc (by simp; omega) (.cells #[.int .i64 0, .int .i64 0, .int .i64 0] 25))
  have hc := right22 a o r si ti
  rw [LL] at hc
  unfold pv at hc
  unfold pv mv
  go_enter Try.func9, Try.ntmps9
  go_wp2_with (go_at_call 22; refine (hc _).mono ?_)
  rintro e w2 ⟨rfl, hb⟩
  have h2 := HB3.out.mono hb
  obtain ⟨p0, p1, p2, m0, m1, m2, t0, t1, t2, t3, t4, t5⟩ := h2
  have t6 := lt_of_cell p0
  have t7 := lt_of_cell m0
  have t8 := lt_of_cell t0
  have HW := Lib.hid (bthen HB.out hb HB.out.size)
  have z2 := HW.out.size
  clear hb hc HB HB3 LL
  by_cases e4 : ev = 4
  · skip
    obtain rfl := e4
    have HS := Lib.hid (show stS a o r 2 ot si 4 ar ti = (3, ot, ti, 3) by unfold stS; rw [if_pos HL.out]; first | rw [if_pos (by omega)] | rw [if_neg (by omega), if_pos (by omega)] | rw [if_neg (by omega), if_neg (by omega), if_pos (by omega)] | rw [if_neg (by omega), if_neg (by omega), if_neg (by omega), if_pos (by omega)] | rw [if_neg (by omega), if_neg (by omega), if_neg (by omega), if_neg (by omega), if_pos (by omega)] | rw [if_neg (by omega), if_neg (by omega), if_neg (by omega), if_neg (by omega), if_neg (by omega), if_pos (by omega)] | rw [if_neg (by omega), if_neg (by omega), if_neg (by omega), if_neg (by omega), if_neg (by omega), if_neg (by omega), if_pos (by omega)] | rw [if_neg (by omega), if_neg (by omega), if_neg (by omega), if_neg (by omega), if_neg (by omega), if_neg (by omega), if_neg (by omega), if_pos (by omega)] | rw [if_neg (by omega), if_neg (by omega), if_neg (by omega), if_neg (by omega), if_neg (by omega), if_neg (by omega), if_neg (by omega), if_neg (by omega)])
    go_wp2
    all_goals
      refine bodyPost_ret (v := .tuple #[mv (3) (ot) (ti), .int .i64 (3)]) (by simp [results, Try.results9, go_sem, cell_set, mv, t0, t1, t2, t3, t4, t5, t6, t7, t8]) rfl ?_
      rw [HS.out]
      exact ⟨rfl, by (repeat' first | exact HW.out | apply Below.setCell | apply Below.alloc) <;> (simp <;> omega)⟩
  · skip
    by_cases e7 : ev = 7
    · skip
      obtain rfl := e7
      by_cases h1 : o ≤ ti - si
      · skip
        have HS := Lib.hid (show stS a o r 2 ot si 7 ar ti = (0, ot, si, 4) by unfold stS; rw [if_pos HL.out]; first | rw [if_pos (by omega)] | rw [if_neg (by omega), if_pos (by omega)] | rw [if_neg (by omega), if_neg (by omega), if_pos (by omega)] | rw [if_neg (by omega), if_neg (by omega), if_neg (by omega), if_pos (by omega)] | rw [if_neg (by omega), if_neg (by omega), if_neg (by omega), if_neg (by omega), if_pos (by omega)] | rw [if_neg (by omega), if_neg (by omega), if_neg (by omega), if_neg (by omega), if_neg (by omega), if_pos (by omega)] | rw [if_neg (by omega), if_neg (by omega), if_neg (by omega), if_neg (by omega), if_neg (by omega), if_neg (by omega), if_pos (by omega)] | rw [if_neg (by omega), if_neg (by omega), if_neg (by omega), if_neg (by omega), if_neg (by omega), if_neg (by omega), if_neg (by omega), if_pos (by omega)] | rw [if_neg (by omega), if_neg (by omega), if_neg (by omega), if_neg (by omega), if_neg (by omega), if_neg (by omega), if_neg (by omega), if_neg (by omega)])
        go_wp2
        all_goals
          refine bodyPost_ret (v := .tuple #[mv (0) (ot) (si), .int .i64 (4)]) (by simp [results, Try.results9, go_sem, cell_set, mv, t0, t1, t2, t3, t4, t5, t6, t7, t8]) rfl ?_
          rw [HS.out]
          exact ⟨rfl, by (repeat' first | exact HW.out | apply Below.setCell | apply Below.alloc) <;> (simp <;> omega)⟩
      · skip
        have HS := Lib.hid (show stS a o r 2 ot si 7 ar ti = (2, ot, si, 0) by unfold stS; rw [if_pos HL.out]; first | rw [if_pos (by omega)] | rw [if_neg (by omega), if_pos (by omega)] | rw [if_neg (by omega), if_neg (by omega), if_pos (by omega)] | rw [if_neg (by omega), if_neg (by omega), if_neg (by omega), if_pos (by omega)] | rw [if_neg (by omega), if_neg (by omega), if_neg (by omega), if_neg (by omega), if_pos (by omega)] | rw [if_neg (by omega), if_neg (by omega), if_neg (by omega), if_neg (by omega), if_neg (by omega), if_pos (by omega)] | rw [if_neg (by omega), if_neg (by omega), if_neg (by omega), if_neg (by omega), if_neg (by omega), if_neg (by omega), if_pos (by omega)] | rw [if_neg (by omega), if_neg (by omega), if_neg (by omega), if_neg (by omega), if_neg (by omega), if_neg (by omega), if_neg (by omega), if_pos (by omega)] | rw [if_neg (by omega), if_neg (by omega), if_neg (by omega), if_neg (by omega), if_neg (by omega), if_neg (by omega), if_neg (by omega), if_neg (by omega)])
        go_wp2
        all_goals
          refine bodyPost_ret (v := .tuple #[mv (2) (ot) (si), .int .i64 (0)]) (by simp [results, Try.results9, go_sem, cell_set, mv, t0, t1, t2, t3, t4, t5, t6, t7, t8]) rfl ?_
          rw [HS.out]
          exact ⟨rfl, by (repeat' first | exact HW.out | apply Below.setCell | apply Below.alloc) <;> (simp <;> omega)⟩
    · skip
      have nev4 : (ev == 4) = false := beq_eq_false_iff_ne.2 (by omega)
      have nev7 : (ev == 7) = false := beq_eq_false_iff_ne.2 (by omega)
      have HS := Lib.hid (show stS a o r 2 ot si ev ar ti = (2, ot, si, 0) by unfold stS; rw [if_pos HL.out]; first | rw [if_pos (by omega)] | rw [if_neg (by omega), if_pos (by omega)] | rw [if_neg (by omega), if_neg (by omega), if_pos (by omega)] | rw [if_neg (by omega), if_neg (by omega), if_neg (by omega), if_pos (by omega)] | rw [if_neg (by omega), if_neg (by omega), if_neg (by omega), if_neg (by omega), if_pos (by omega)] | rw [if_neg (by omega), if_neg (by omega), if_neg (by omega), if_neg (by omega), if_neg (by omega), if_pos (by omega)] | rw [if_neg (by omega), if_neg (by omega), if_neg (by omega), if_neg (by omega), if_neg (by omega), if_neg (by omega), if_pos (by omega)] | rw [if_neg (by omega), if_neg (by omega), if_neg (by omega), if_neg (by omega), if_neg (by omega), if_neg (by omega), if_neg (by omega), if_pos (by omega)] | rw [if_neg (by omega), if_neg (by omega), if_neg (by omega), if_neg (by omega), if_neg (by omega), if_neg (by omega), if_neg (by omega), if_neg (by omega)])
      go_wp2
      all_goals
        refine bodyPost_ret (v := .tuple #[mv (2) (ot) (si), .int .i64 (0)]) (by simp [results, Try.results9, go_sem, cell_set, mv, t0, t1, t2, t3, t4, t5, t6, t7, t8]) rfl ?_
        rw [HS.out]
        exact ⟨rfl, by (repeat' first | exact HW.out | apply Below.setCell | apply Below.alloc) <;> (simp <;> omega)⟩

set_option maxRecDepth 100000 in
set_option maxHeartbeats 4000000 in
theorem st9_3 (a o r ph ot si ev ar ti : Int) (L : lookB a o r si ti = true) (c : ph = 3) (w : World) : Calls Try.prog 9 #[pv a o r, mv ph ot si, .int .i64 ev, .int .i64 ar, .int .i64 ti] w fun e w' => e = stR (stS a o r ph ot si ev ar ti) ∧ Below w.heap.size w w' := by
  obtain rfl := c
  obtain ⟨⟨a1, a2, o1, o2, _, _⟩, ti1, ti2, si1, si2⟩ := look_bd L
  have HL := Lib.hid L
  have LL := L
  clear L
  have HB3 := Lib.hid (B3.new w a o r 3 ot si)
  have HB := Lib.hid (((below_alloc w (.cells #[.int .i64 a, .int .i64 o, .int .i64 r] 23)).alloc (by simp) (.cells #[.int .i64 3, .int .i64 ot, .int .i64 si] 25)).alloc (by simp; omega) (.cells #[.int .i64 0, .int .i64 0, .int .i64 0] 25))
  have hc := right22 a o r si ti
  rw [LL] at hc
  unfold pv at hc
  unfold pv mv
  go_enter Try.func9, Try.ntmps9
  go_wp2_with (go_at_call 22; refine (hc _).mono ?_)
  rintro e w2 ⟨rfl, hb⟩
  have h2 := HB3.out.mono hb
  obtain ⟨p0, p1, p2, m0, m1, m2, t0, t1, t2, t3, t4, t5⟩ := h2
  have t6 := lt_of_cell p0
  have t7 := lt_of_cell m0
  have t8 := lt_of_cell t0
  have HW := Lib.hid (bthen HB.out hb HB.out.size)
  have z2 := HW.out.size
  clear hb hc HB HB3 LL
  by_cases e5 : ev = 5
  · skip
    obtain rfl := e5
    have HS := Lib.hid (show stS a o r 3 ot si 5 ar ti = (3, ot, si, 6) by unfold stS; rw [if_pos HL.out]; first | rw [if_pos (by omega)] | rw [if_neg (by omega), if_pos (by omega)] | rw [if_neg (by omega), if_neg (by omega), if_pos (by omega)] | rw [if_neg (by omega), if_neg (by omega), if_neg (by omega), if_pos (by omega)] | rw [if_neg (by omega), if_neg (by omega), if_neg (by omega), if_neg (by omega), if_pos (by omega)] | rw [if_neg (by omega), if_neg (by omega), if_neg (by omega), if_neg (by omega), if_neg (by omega), if_pos (by omega)] | rw [if_neg (by omega), if_neg (by omega), if_neg (by omega), if_neg (by omega), if_neg (by omega), if_neg (by omega), if_pos (by omega)] | rw [if_neg (by omega), if_neg (by omega), if_neg (by omega), if_neg (by omega), if_neg (by omega), if_neg (by omega), if_neg (by omega), if_pos (by omega)] | rw [if_neg (by omega), if_neg (by omega), if_neg (by omega), if_neg (by omega), if_neg (by omega), if_neg (by omega), if_neg (by omega), if_neg (by omega)])
    go_wp2
    all_goals
      refine bodyPost_ret (v := .tuple #[mv (3) (ot) (si), .int .i64 (6)]) (by simp [results, Try.results9, go_sem, cell_set, mv, t0, t1, t2, t3, t4, t5, t6, t7, t8]) rfl ?_
      rw [HS.out]
      exact ⟨rfl, by (repeat' first | exact HW.out | apply Below.setCell | apply Below.alloc) <;> (simp <;> omega)⟩
  · skip
    by_cases e6 : ev = 6
    · skip
      obtain rfl := e6
      have HS := Lib.hid (show stS a o r 3 ot si 6 ar ti = (0, ot, si, 5) by unfold stS; rw [if_pos HL.out]; first | rw [if_pos (by omega)] | rw [if_neg (by omega), if_pos (by omega)] | rw [if_neg (by omega), if_neg (by omega), if_pos (by omega)] | rw [if_neg (by omega), if_neg (by omega), if_neg (by omega), if_pos (by omega)] | rw [if_neg (by omega), if_neg (by omega), if_neg (by omega), if_neg (by omega), if_pos (by omega)] | rw [if_neg (by omega), if_neg (by omega), if_neg (by omega), if_neg (by omega), if_neg (by omega), if_pos (by omega)] | rw [if_neg (by omega), if_neg (by omega), if_neg (by omega), if_neg (by omega), if_neg (by omega), if_neg (by omega), if_pos (by omega)] | rw [if_neg (by omega), if_neg (by omega), if_neg (by omega), if_neg (by omega), if_neg (by omega), if_neg (by omega), if_neg (by omega), if_pos (by omega)] | rw [if_neg (by omega), if_neg (by omega), if_neg (by omega), if_neg (by omega), if_neg (by omega), if_neg (by omega), if_neg (by omega), if_neg (by omega)])
      go_wp2
      all_goals
        refine bodyPost_ret (v := .tuple #[mv (0) (ot) (si), .int .i64 (5)]) (by simp [results, Try.results9, go_sem, cell_set, mv, t0, t1, t2, t3, t4, t5, t6, t7, t8]) rfl ?_
        rw [HS.out]
        exact ⟨rfl, by (repeat' first | exact HW.out | apply Below.setCell | apply Below.alloc) <;> (simp <;> omega)⟩
    · skip
      have nev5 : (ev == 5) = false := beq_eq_false_iff_ne.2 (by omega)
      have nev6 : (ev == 6) = false := beq_eq_false_iff_ne.2 (by omega)
      have HS := Lib.hid (show stS a o r 3 ot si ev ar ti = (3, ot, si, 0) by unfold stS; rw [if_pos HL.out]; first | rw [if_pos (by omega)] | rw [if_neg (by omega), if_pos (by omega)] | rw [if_neg (by omega), if_neg (by omega), if_pos (by omega)] | rw [if_neg (by omega), if_neg (by omega), if_neg (by omega), if_pos (by omega)] | rw [if_neg (by omega), if_neg (by omega), if_neg (by omega), if_neg (by omega), if_pos (by omega)] | rw [if_neg (by omega), if_neg (by omega), if_neg (by omega), if_neg (by omega), if_neg (by omega), if_pos (by omega)] | rw [if_neg (by omega), if_neg (by omega), if_neg (by omega), if_neg (by omega), if_neg (by omega), if_neg (by omega), if_pos (by omega)] | rw [if_neg (by omega), if_neg (by omega), if_neg (by omega), if_neg (by omega), if_neg (by omega), if_neg (by omega), if_neg (by omega), if_pos (by omega)] | rw [if_neg (by omega), if_neg (by omega), if_neg (by omega), if_neg (by omega), if_neg (by omega), if_neg (by omega), if_neg (by omega), if_neg (by omega)])
      go_wp2
      all_goals
        refine bodyPost_ret (v := .tuple #[mv (3) (ot) (si), .int .i64 (0)]) (by simp [results, Try.results9, go_sem, cell_set, mv, t0, t1, t2, t3, t4, t5, t6, t7, t8]) rfl ?_
        rw [HS.out]
        exact ⟨rfl, by (repeat' first | exact HW.out | apply Below.setCell | apply Below.alloc) <;> (simp <;> omega)⟩

set_option maxRecDepth 100000 in
set_option maxHeartbeats 4000000 in
theorem st9_n (a o r ph ot si ev ar ti : Int) (L : lookB a o r si ti = true) (c : ph ≠ 0 ∧ ph ≠ 1 ∧ ph ≠ 2 ∧ ph ≠ 3) (w : World) : Calls Try.prog 9 #[pv a o r, mv ph ot si, .int .i64 ev, .int .i64 ar, .int .i64 ti] w fun e w' => e = stR (stS a o r ph ot si ev ar ti) ∧ Below w.heap.size w w' := by
  obtain ⟨⟨a1, a2, o1, o2, _, _⟩, ti1, ti2, si1, si2⟩ := look_bd L
  have HL := Lib.hid L
  have LL := L
  clear L
  have HB3 := Lib.hid (B3.new w a o r ph ot si)
  have HB := Lib.hid (((below_alloc w (.cells #[.int .i64 a, .int .i64 o, .int .i64 r] 23)).alloc (by simp) (.cells #[.int .i64 ph, .int .i64 ot, .int .i64 si] 25)).alloc (by simp; omega) (.cells #[.int .i64 0, .int .i64 0, .int .i64 0] 25))
  have hc := right22 a o r si ti
  rw [LL] at hc
  unfold pv at hc
  unfold pv mv
  go_enter Try.func9, Try.ntmps9
  go_wp2_with (go_at_call 22; refine (hc _).mono ?_)
  rintro e w2 ⟨rfl, hb⟩
  have h2 := HB3.out.mono hb
  obtain ⟨p0, p1, p2, m0, m1, m2, t0, t1, t2, t3, t4, t5⟩ := h2
  have t6 := lt_of_cell p0
  have t7 := lt_of_cell m0
  have t8 := lt_of_cell t0
  have HW := Lib.hid (bthen HB.out hb HB.out.size)
  have z2 := HW.out.size
  clear hb hc HB HB3 LL
  have nph0 : (ph == 0) = false := beq_eq_false_iff_ne.2 (by omega)
  have nph1 : (ph == 1) = false := beq_eq_false_iff_ne.2 (by omega)
  have nph2 : (ph == 2) = false := beq_eq_false_iff_ne.2 (by omega)
  have nph3 : (ph == 3) = false := beq_eq_false_iff_ne.2 (by omega)
  have HS := Lib.hid (show stS a o r ph ot si ev ar ti = (ph, ot, si, 0) by unfold stS; rw [if_pos HL.out]; first | rw [if_pos (by omega)] | rw [if_neg (by omega), if_pos (by omega)] | rw [if_neg (by omega), if_neg (by omega), if_pos (by omega)] | rw [if_neg (by omega), if_neg (by omega), if_neg (by omega), if_pos (by omega)] | rw [if_neg (by omega), if_neg (by omega), if_neg (by omega), if_neg (by omega), if_pos (by omega)] | rw [if_neg (by omega), if_neg (by omega), if_neg (by omega), if_neg (by omega), if_neg (by omega), if_pos (by omega)] | rw [if_neg (by omega), if_neg (by omega), if_neg (by omega), if_neg (by omega), if_neg (by omega), if_neg (by omega), if_pos (by omega)] | rw [if_neg (by omega), if_neg (by omega), if_neg (by omega), if_neg (by omega), if_neg (by omega), if_neg (by omega), if_neg (by omega), if_pos (by omega)] | rw [if_neg (by omega), if_neg (by omega), if_neg (by omega), if_neg (by omega), if_neg (by omega), if_neg (by omega), if_neg (by omega), if_neg (by omega)])
  go_wp2
  all_goals
    refine bodyPost_ret (v := .tuple #[mv (ph) (ot) (si), .int .i64 (0)]) (by simp [results, Try.results9, go_sem, cell_set, mv, t0, t1, t2, t3, t4, t5, t6, t7, t8]) rfl ?_
    rw [HS.out]
    exact ⟨rfl, by (repeat' first | exact HW.out | apply Below.setCell | apply Below.alloc) <;> (simp <;> omega)⟩

theorem station9 (a o r ph ot si ev ar ti : Int) (w : World) : Calls Try.prog 9 #[pv a o r, mv ph ot si, .int .i64 ev, .int .i64 ar, .int .i64 ti] w fun e w' => e = stR (stS a o r ph ot si ev ar ti) ∧ Below w.heap.size w w' := by
  cases L : lookB a o r si ti
  · exact st9_dull a o r ph ot si ev ar ti L w
  · by_cases c0 : ph = 0
    · exact st9_0 a o r ph ot si ev ar ti L c0 w
    · by_cases c1 : ph = 1
      · exact st9_1 a o r ph ot si ev ar ti L c1 w
      · by_cases c2 : ph = 2
        · exact st9_2 a o r ph ot si ev ar ti L c2 w
        · by_cases c3 : ph = 3
          · exact st9_3 a o r ph ot si ev ar ti L c3 w
          · exact st9_n a o r ph ot si ev ar ti L ⟨c0, c1, c2, c3⟩ w
end Go.Proofs.Ytaocopmlgemgiaa
