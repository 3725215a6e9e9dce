/- Layer 42: the program's terminal. -/
import Derived.Test.YtaocopmlgemgiaaH4
import Derived.Test.YtaocopmlgemgiaaH5
namespace Go.Proofs.Ytaocopmlgemgiaa
set_option linter.unusedVariables false
set_option linter.unusedSimpArgs false
open Go.RowKit Go.Sort
attribute [local go_sem] gcell

/-- What a row makes of a roam. -/
def tabT (ok L : Bool) (r ph ce ta si ar ti x1 x2 : Int) (s : Bool) (c : Int) : Int × Int × Int × Int × Int :=
  if ok = false ∨ L = false then (ph, ce, ta, si, 0)
  else if c = 1 ∧ (cellB ar = false ∨ ar = ce) ∨ c = 3 ∧ ti - si < r then (ph, ce, ta, si, 0)
  else (x1, if x2 = 2 then ta else ce, if c = 1 then ar else ta, if s then ti else si, x2)

set_option maxRecDepth 100000 in
set_option maxHeartbeats 8000000 in
theorem terminal10 (a o r ph ce ta si ev ar ti x1 x2 c : Int) (s ok : Bool)
    (hl : ∀ wx B, Entries wx B 6 (kOf teK) teV (fun _ => True) → (Instr.lookup 49 (.map (some B)) (kv ph ev) true).run Try.prog wx = .ok (.tuple #[rowV x1 x2 s c, .bool ok]) wx) (w : World) :
    Calls Try.prog 10 #[pv a o r, xv ph ce ta si, .int .i64 ev, .int .i64 ar, .int .i64 ti] w fun e w' => e = teR (tabT ok (lookB a o r si ti) r ph ce ta si ar ti x1 x2 s c) ∧ Below w.heap.size w w' := by
  have HB3 := B4.new w a o r ph ce ta si
  have HB := (((below_alloc w (.cells #[.int .i64 a, .int .i64 o, .int .i64 r] 23)).alloc (by simp) (.cells #[.int .i64 ph, .int .i64 ce, .int .i64 ta, .int .i64 si] 27)).alloc (by simp; omega) (.cells #[.int .i64 0, .int .i64 0, .int .i64 0, .int .i64 0] 27))
  have hc := looked20 a o r si ti
  unfold kv rowV at hl
  unfold pv at hc
  unfold pv xv
  go_enter Try.func10, Try.ntmps10
  go_upto_region 1 with fail
  generalize hW : (((w.alloc (.cells #[.int .i64 a, .int .i64 o, .int .i64 r] 23)).alloc (.cells #[.int .i64 ph, .int .i64 ce, .int .i64 ta, .int .i64 si] 27)).alloc (.cells #[.int .i64 0, .int .i64 0, .int .i64 0, .int .i64 0] 27)) = W0 at *
  clear hW
  have H3 := Lib.hid HB3
  have HB0 := Lib.hid HB
  have HLK := Lib.hid hl
  have HCK := Lib.hid hc
  have k0 := HB3.m0
  clear HB3 HB hl hc
  go_cut [12, 13] (fun s12 s13 wx => ∃ P, s12 = .pointer (some ⟨P, 0, none⟩) ∧ s13 = .bool ok ∧ Rv wx P x1 x2 s c ∧ Below W0.heap.size W0 wx ∧ W0.heap.size ≤ P)
  case first =>
    have kd0 : W0.drew.cell? ⟨w.heap.size + 1, 0, none⟩ = some (.int .i64 ph) := k0
    have ltk := lt_of_cell k0
    go_region_held3 (fun w' => w'.cell? ⟨w.heap.size + 1, 0, none⟩ = some (.int .i64 ph)) (first | assumption | (with_reducible exact keep_drew (keep_alloc k0)) | (with_reducible exact keep_alloc sA) | (with_reducible exact keep_alloc kd0) | (with_reducible exact keep_alloc k0) | (with_reducible exact set4_other ltk sA) | (with_reducible exact set4_other (lt_of_cell sA) (keep_alloc sA)) | (go_keep; done))
      ((go_at_call 23; refine (te23 _).mono ?_; rintro e wA ⟨B, rfl, hE, hbA⟩; have sA := (by first | exact Go.Proofs.Ytaocopmlgemgiaa.up hbA kd0 | exact Go.Proofs.Ytaocopmlgemgiaa.up hbA (keep_alloc kd0) | exact Go.Proofs.Ytaocopmlgemgiaa.up hbA (keep_drew (keep_alloc k0)) : wA.cell? ⟨w.heap.size + 1, 0, none⟩ = some (.int .i64 ph)); (first | (with_reducible (have hlA := rowUp hbA); obtain ⟨bA, pA0, pA1, pA2, pA3, fA0, fA1, fA2, fA3⟩ := hlA) | (with_reducible (have hlA := rowUp2 hbA); obtain ⟨bA, pA0, pA1, pA2, pA3, fA0, fA1, fA2, fA3⟩ := hlA) | (with_reducible (have bA := rowNo hbA))); have q1 := HLK.out _ _ hE; have q2 := HLK.out _ _ (hE.up (below_alloc wA (.cells #[.int .i64 0, .int .i64 0, .bool false, .int .i64 0] 47)))))
    all_goals
      go_wp2_with fail
      go_meet
      first
        | (refine ⟨_, rfl, rfl, ⟨?_, ?_, ?_, ?_⟩, bA.alloc bA.size _, bA.size⟩ <;> (simp [go_sem]; done))
        | (refine ⟨_, rfl, rfl, ⟨?_, ?_, ?_, ?_⟩, (((bA.setCell (Nat.le_refl _) _).setCell (Nat.le_refl _) _).setCell (Nat.le_refl _) _).setCell (Nat.le_refl _) _, Nat.le_refl _⟩ <;> (simp [cell_set, pA0, pA1, pA2, pA3]; done))
  case rest =>
    obtain ⟨P, rfl, rfl, hR, hb1, hPl⟩ := hcut
    have neP : w.heap.size + 1 + 1 ≠ P := by have := lt_of_cell H3.out.r0; omega
    have neP2 : P ≠ w.heap.size + 1 + 1 := Ne.symm neP
    have HR := Lib.hid hR
    have H1 := Lib.hid (H3.out.mono hb1)
    have HW := Lib.hid (bthen HB0.out hb1 HB0.out.size)
    obtain ⟨p0, p1, p2, m0, m1, m2, m3, t0, t1, t2, t3, t4, t5, u0, u1⟩ := H1.out
    have t6 := lt_of_cell p0
    have t7 := lt_of_cell m0
    have t8 := lt_of_cell t0
    obtain ⟨y0, y1, y2, y3⟩ := hR
    have z2 := HW.out.size
    have lt0 := lt_of_cell y0
    have lt1 := H3.out
    have lt2 := hb1.size
    clear hb1 k0 HLK
    clear lt1
    have lt1 := lt2
    cases ok
    · have HT := Lib.hid (show tabT false (lookB a o r si ti) r ph ce ta si ar ti x1 x2 s c = (ph, ce, ta, si, 0) by unfold tabT; rw [if_pos (.inl rfl)])
      go_wp2
      all_goals
        refine bodyPost_ret (v := .tuple #[xv (ph) (ce) (ta) (si), .int .i64 (0)]) (by simp [results, Try.results10, go_sem, cell_set, xv, u0, u1, t0, t1, t2, t3, t4, t5, t6, t7, t8, y0, y1, y2, y3, lt0, lt1, lt2]) rfl ?_
        rw [HT.out]
        exact ⟨rfl, by (repeat' first | exact HW.out | apply below_drewN | apply Below.drew | apply Below.setCell | apply Below.alloc) <;> (simp <;> omega)⟩
    · cases L : lookB a o r si ti
      · have HLB := Lib.hid L
        rw [L] at HCK
        clear L
        have HT := Lib.hid (show tabT true false r ph ce ta si ar ti x1 x2 s c = (ph, ce, ta, si, 0) by unfold tabT; rw [if_pos (.inr rfl)])
        have HW0 := HW
        clear HW
        go_wp2_with (go_at_call 20; refine (HCK.out _).mono ?_; rintro e w3 ⟨rfl, hb⟩; have HW := Lib.hid (bthen HW0.out hb z2); have z3 := HW.out.size; have G3 := H1.out.mono hb; clear p0 p1 p2 m0 m1 m2 m3 t0 t1 t2 t3 t4 t5 u0 u1 t6 t7 t8 y0 y1 y2 y3 lt0; obtain ⟨p0, p1, p2, m0, m1, m2, m3, t0, t1, t2, t3, t4, t5, u0, u1⟩ := G3; have t6 := lt_of_cell p0; have t7 := lt_of_cell m0; have t8 := lt_of_cell t0; obtain ⟨y0, y1, y2, y3⟩ := HR.out.mono hb; have lt0 := lt_of_cell y0; clear hb)
        all_goals
          refine bodyPost_ret (v := .tuple #[xv (ph) (ce) (ta) (si), .int .i64 (0)]) (by simp [results, Try.results10, go_sem, cell_set, xv, u0, u1, t0, t1, t2, t3, t4, t5, t6, t7, t8, y0, y1, y2, y3, lt0, lt1, lt2]) rfl ?_
          rw [HLB.out, HT.out]
          exact ⟨rfl, by (repeat' first | exact HW.out | apply below_drewN | apply Below.drew | apply Below.setCell | apply Below.alloc) <;> (simp <;> omega)⟩
      · have HLB := Lib.hid L
        rw [L] at HCK
        obtain ⟨⟨a1, a2, o1, o2, _, _⟩, ti1, ti2, si1, si2⟩ := look_bd L
        clear L
        have HW0 := HW
        clear HW
        go_upto_region 4 with (go_at_call 20; refine (HCK.out _).mono ?_; rintro e w3 ⟨rfl, hb⟩; have HW := Lib.hid (bthen HW0.out hb z2); have z3 := HW.out.size; have G3 := H1.out.mono hb; clear p0 p1 p2 m0 m1 m2 m3 t0 t1 t2 t3 t4 t5 u0 u1 t6 t7 t8 y0 y1 y2 y3 lt0; obtain ⟨p0, p1, p2, m0, m1, m2, m3, t0, t1, t2, t3, t4, t5, u0, u1⟩ := G3; have t6 := lt_of_cell p0; have t7 := lt_of_cell m0; have t8 := lt_of_cell t0; obtain ⟨y0, y1, y2, y3⟩ := HR.out.mono hb; have lt0 := lt_of_cell y0; clear hb)
        clear HW0 HCK H1 H3 HB0 HR
        by_cases hc1 : c = 1
        · subst hc1
          cases hcl : cellB ar
          · skip
            have HT := Lib.hid (show tabT true true r ph ce ta si ar ti x1 x2 s 1 = (ph, ce, ta, si, 0) by unfold tabT; rw [if_neg (by simp), if_pos (by simp [*] <;> omega)])
            go_wp2_with (go_at_call 21; refine (cell21 _ _).mono ?_; rw [hcl]; rintro e wz ⟨rfl, rfl⟩)
            all_goals
              refine bodyPost_ret (v := .tuple #[xv (ph) (ce) (ta) (si), .int .i64 (0)]) (by simp [results, Try.results10, go_sem, cell_set, xv, u0, u1, t0, t1, t2, t3, t4, t5, t6, t7, t8, y0, y1, y2, y3, lt0, lt1, lt2]) rfl ?_
              rw [HLB.out, HT.out]
              exact ⟨rfl, by (repeat' first | exact HW.out | apply below_drewN | apply Below.drew | apply Below.setCell | apply Below.alloc) <;> (simp <;> omega)⟩
          · by_cases hce : ar = ce
            · have q1 : (ar == ce) = true := beq_iff_eq.2 hce
              have HT := Lib.hid (show tabT true true r ph ce ta si ar ti x1 x2 s 1 = (ph, ce, ta, si, 0) by unfold tabT; rw [if_neg (by simp), if_pos (by simp [*] <;> omega)])
              clear hce
              go_wp2_with (go_at_call 21; refine (cell21 _ _).mono ?_; rw [hcl]; rintro e wz ⟨rfl, rfl⟩)
              all_goals
                refine bodyPost_ret (v := .tuple #[xv (ph) (ce) (ta) (si), .int .i64 (0)]) (by simp [results, Try.results10, go_sem, cell_set, xv, u0, u1, t0, t1, t2, t3, t4, t5, t6, t7, t8, y0, y1, y2, y3, lt0, lt1, lt2]) rfl ?_
                rw [HLB.out, HT.out]
                exact ⟨rfl, by (repeat' first | exact HW.out | apply below_drewN | apply Below.drew | apply Below.setCell | apply Below.alloc) <;> (simp <;> omega)⟩
            · have q1 : (ar == ce) = false := beq_eq_false_iff_ne.2 hce
              by_cases hx : x2 = 2
              · subst hx
                cases s
                · skip
                  have HT := Lib.hid (show tabT true true r ph ce ta si ar ti x1 2 false 1 = (x1, ta, ar, si, 2) by unfold tabT; rw [if_neg (by simp), if_neg (by simp [*] <;> omega)]; simp [*])
                  go_wp2_with (go_at_call 21; refine (cell21 _ _).mono ?_; rw [hcl]; rintro e wz ⟨rfl, rfl⟩)
                  go_region
                  all_goals go_wp2
                  all_goals
                    refine bodyPost_ret (v := .tuple #[xv (x1) (ta) (ar) (si), .int .i64 (2)]) (by simp [results, Try.results10, go_sem, cell_set, xv, u0, u1, t0, t1, t2, t3, t4, t5, t6, t7, t8, y0, y1, y2, y3, lt0, lt1, lt2]) rfl ?_
                    rw [HLB.out, HT.out]
                    exact ⟨rfl, by (repeat' first | exact HW.out | apply below_drewN | apply Below.drew | apply Below.setCell | apply Below.alloc) <;> (simp <;> omega)⟩
                · skip
                  have HT := Lib.hid (show tabT true true r ph ce ta si ar ti x1 2 true 1 = (x1, ta, ar, ti, 2) by unfold tabT; rw [if_neg (by simp), if_neg (by simp [*] <;> omega)]; simp [*])
                  go_wp2_with (go_at_call 21; refine (cell21 _ _).mono ?_; rw [hcl]; rintro e wz ⟨rfl, rfl⟩)
                  go_region
                  all_goals go_wp2
                  all_goals
                    refine bodyPost_ret (v := .tuple #[xv (x1) (ta) (ar) (ti), .int .i64 (2)]) (by simp [results, Try.results10, go_sem, cell_set, xv, u0, u1, t0, t1, t2, t3, t4, t5, t6, t7, t8, y0, y1, y2, y3, lt0, lt1, lt2]) rfl ?_
                    rw [HLB.out, HT.out]
                    exact ⟨rfl, by (repeat' first | exact HW.out | apply below_drewN | apply Below.drew | apply Below.setCell | apply Below.alloc) <;> (simp <;> omega)⟩
              · have nx : (x2 == 2) = false := beq_eq_false_iff_ne.2 hx
                cases s
                · skip
                  have HT := Lib.hid (show tabT true true r ph ce ta si ar ti x1 x2 false 1 = (x1, ce, ar, si, x2) by unfold tabT; rw [if_neg (by simp), if_neg (by simp [*] <;> omega)]; simp [*])
                  go_wp2_with (go_at_call 21; refine (cell21 _ _).mono ?_; rw [hcl]; rintro e wz ⟨rfl, rfl⟩)
                  go_region
                  all_goals go_wp2
                  all_goals
                    refine bodyPost_ret (v := .tuple #[xv (x1) (ce) (ar) (si), .int .i64 (x2)]) (by simp [results, Try.results10, go_sem, cell_set, xv, u0, u1, t0, t1, t2, t3, t4, t5, t6, t7, t8, y0, y1, y2, y3, lt0, lt1, lt2]) rfl ?_
                    rw [HLB.out, HT.out]
                    exact ⟨rfl, by (repeat' first | exact HW.out | apply below_drewN | apply Below.drew | apply Below.setCell | apply Below.alloc) <;> (simp <;> omega)⟩
                · skip
                  have HT := Lib.hid (show tabT true true r ph ce ta si ar ti x1 x2 true 1 = (x1, ce, ar, ti, x2) by unfold tabT; rw [if_neg (by simp), if_neg (by simp [*] <;> omega)]; simp [*])
                  go_wp2_with (go_at_call 21; refine (cell21 _ _).mono ?_; rw [hcl]; rintro e wz ⟨rfl, rfl⟩)
                  go_region
                  all_goals go_wp2
                  all_goals
                    refine bodyPost_ret (v := .tuple #[xv (x1) (ce) (ar) (ti), .int .i64 (x2)]) (by simp [results, Try.results10, go_sem, cell_set, xv, u0, u1, t0, t1, t2, t3, t4, t5, t6, t7, t8, y0, y1, y2, y3, lt0, lt1, lt2]) rfl ?_
                    rw [HLB.out, HT.out]
                    exact ⟨rfl, by (repeat' first | exact HW.out | apply below_drewN | apply Below.drew | apply Below.setCell | apply Below.alloc) <;> (simp <;> omega)⟩
        · have n1 : (c == 1) = false := beq_eq_false_iff_ne.2 hc1
          by_cases hc3 : c = 3
          · subst hc3
            by_cases hlt : r ≤ ti - si
            · skip
              by_cases hx : x2 = 2
              · subst hx
                cases s
                · skip
                  have HT := Lib.hid (show tabT true true r ph ce ta si ar ti x1 2 false 3 = (x1, ta, ta, si, 2) by unfold tabT; rw [if_neg (by simp), if_neg (by simp [*] <;> omega)]; simp [*])
                  go_wp2_with fail
                  go_region
                  all_goals go_wp2
                  all_goals
                    refine bodyPost_ret (v := .tuple #[xv (x1) (ta) (ta) (si), .int .i64 (2)]) (by simp [results, Try.results10, go_sem, cell_set, xv, u0, u1, t0, t1, t2, t3, t4, t5, t6, t7, t8, y0, y1, y2, y3, lt0, lt1, lt2]) rfl ?_
                    rw [HLB.out, HT.out]
                    exact ⟨rfl, by (repeat' first | exact HW.out | apply below_drewN | apply Below.drew | apply Below.setCell | apply Below.alloc) <;> (simp <;> omega)⟩
                · skip
                  have HT := Lib.hid (show tabT true true r ph ce ta si ar ti x1 2 true 3 = (x1, ta, ta, ti, 2) by unfold tabT; rw [if_neg (by simp), if_neg (by simp [*] <;> omega)]; simp [*])
                  go_wp2_with fail
                  go_region
                  all_goals go_wp2
                  all_goals
                    refine bodyPost_ret (v := .tuple #[xv (x1) (ta) (ta) (ti), .int .i64 (2)]) (by simp [results, Try.results10, go_sem, cell_set, xv, u0, u1, t0, t1, t2, t3, t4, t5, t6, t7, t8, y0, y1, y2, y3, lt0, lt1, lt2]) rfl ?_
                    rw [HLB.out, HT.out]
                    exact ⟨rfl, by (repeat' first | exact HW.out | apply below_drewN | apply Below.drew | apply Below.setCell | apply Below.alloc) <;> (simp <;> omega)⟩
              · have nx : (x2 == 2) = false := beq_eq_false_iff_ne.2 hx
                cases s
                · skip
                  have HT := Lib.hid (show tabT true true r ph ce ta si ar ti x1 x2 false 3 = (x1, ce, ta, si, x2) by unfold tabT; rw [if_neg (by simp), if_neg (by simp [*] <;> omega)]; simp [*])
                  go_wp2_with fail
                  go_region
                  all_goals go_wp2
                  all_goals
                    refine bodyPost_ret (v := .tuple #[xv (x1) (ce) (ta) (si), .int .i64 (x2)]) (by simp [results, Try.results10, go_sem, cell_set, xv, u0, u1, t0, t1, t2, t3, t4, t5, t6, t7, t8, y0, y1, y2, y3, lt0, lt1, lt2]) rfl ?_
                    rw [HLB.out, HT.out]
                    exact ⟨rfl, by (repeat' first | exact HW.out | apply below_drewN | apply Below.drew | apply Below.setCell | apply Below.alloc) <;> (simp <;> omega)⟩
                · skip
                  have HT := Lib.hid (show tabT true true r ph ce ta si ar ti x1 x2 true 3 = (x1, ce, ta, ti, x2) by unfold tabT; rw [if_neg (by simp), if_neg (by simp [*] <;> omega)]; simp [*])
                  go_wp2_with fail
                  go_region
                  all_goals go_wp2
                  all_goals
                    refine bodyPost_ret (v := .tuple #[xv (x1) (ce) (ta) (ti), .int .i64 (x2)]) (by simp [results, Try.results10, go_sem, cell_set, xv, u0, u1, t0, t1, t2, t3, t4, t5, t6, t7, t8, y0, y1, y2, y3, lt0, lt1, lt2]) rfl ?_
                    rw [HLB.out, HT.out]
                    exact ⟨rfl, by (repeat' first | exact HW.out | apply below_drewN | apply Below.drew | apply Below.setCell | apply Below.alloc) <;> (simp <;> omega)⟩
            · skip
              have HT := Lib.hid (show tabT true true r ph ce ta si ar ti x1 x2 s 3 = (ph, ce, ta, si, 0) by unfold tabT; rw [if_neg (by simp), if_pos (by simp [*] <;> omega)])
              go_wp2
              all_goals
                refine bodyPost_ret (v := .tuple #[xv (ph) (ce) (ta) (si), .int .i64 (0)]) (by simp [results, Try.results10, go_sem, cell_set, xv, u0, u1, t0, t1, t2, t3, t4, t5, t6, t7, t8, y0, y1, y2, y3, lt0, lt1, lt2]) rfl ?_
                rw [HLB.out, HT.out]
                exact ⟨rfl, by (repeat' first | exact HW.out | apply below_drewN | apply Below.drew | apply Below.setCell | apply Below.alloc) <;> (simp <;> omega)⟩
          · have n3 : (c == 3) = false := beq_eq_false_iff_ne.2 hc3
            by_cases hx : x2 = 2
            · subst hx
              cases s
              · skip
                have HT := Lib.hid (show tabT true true r ph ce ta si ar ti x1 2 false c = (x1, ta, ta, si, 2) by unfold tabT; rw [if_neg (by simp), if_neg (by simp [*] <;> omega)]; simp [*])
                go_wp2_with fail
                go_region
                all_goals go_wp2
                all_goals
                  refine bodyPost_ret (v := .tuple #[xv (x1) (ta) (ta) (si), .int .i64 (2)]) (by simp [results, Try.results10, go_sem, cell_set, xv, u0, u1, t0, t1, t2, t3, t4, t5, t6, t7, t8, y0, y1, y2, y3, lt0, lt1, lt2]) rfl ?_
                  rw [HLB.out, HT.out]
                  exact ⟨rfl, by (repeat' first | exact HW.out | apply below_drewN | apply Below.drew | apply Below.setCell | apply Below.alloc) <;> (simp <;> omega)⟩
              · skip
                have HT := Lib.hid (show tabT true true r ph ce ta si ar ti x1 2 true c = (x1, ta, ta, ti, 2) by unfold tabT; rw [if_neg (by simp), if_neg (by simp [*] <;> omega)]; simp [*])
                go_wp2_with fail
                go_region
                all_goals go_wp2
                all_goals
                  refine bodyPost_ret (v := .tuple #[xv (x1) (ta) (ta) (ti), .int .i64 (2)]) (by simp [results, Try.results10, go_sem, cell_set, xv, u0, u1, t0, t1, t2, t3, t4, t5, t6, t7, t8, y0, y1, y2, y3, lt0, lt1, lt2]) rfl ?_
                  rw [HLB.out, HT.out]
                  exact ⟨rfl, by (repeat' first | exact HW.out | apply below_drewN | apply Below.drew | apply Below.setCell | apply Below.alloc) <;> (simp <;> omega)⟩
            · have nx : (x2 == 2) = false := beq_eq_false_iff_ne.2 hx
              cases s
              · skip
                have HT := Lib.hid (show tabT true true r ph ce ta si ar ti x1 x2 false c = (x1, ce, ta, si, x2) by unfold tabT; rw [if_neg (by simp), if_neg (by simp [*] <;> omega)]; simp [*])
                go_wp2_with fail
                go_region
                all_goals go_wp2
                all_goals
                  refine bodyPost_ret (v := .tuple #[xv (x1) (ce) (ta) (si), .int .i64 (x2)]) (by simp [results, Try.results10, go_sem, cell_set, xv, u0, u1, t0, t1, t2, t3, t4, t5, t6, t7, t8, y0, y1, y2, y3, lt0, lt1, lt2]) rfl ?_
                  rw [HLB.out, HT.out]
                  exact ⟨rfl, by (repeat' first | exact HW.out | apply below_drewN | apply Below.drew | apply Below.setCell | apply Below.alloc) <;> (simp <;> omega)⟩
              · skip
                have HT := Lib.hid (show tabT true true r ph ce ta si ar ti x1 x2 true c = (x1, ce, ta, ti, x2) by unfold tabT; rw [if_neg (by simp), if_neg (by simp [*] <;> omega)]; simp [*])
                go_wp2_with fail
                go_region
                all_goals go_wp2
                all_goals
                  refine bodyPost_ret (v := .tuple #[xv (x1) (ce) (ta) (ti), .int .i64 (x2)]) (by simp [results, Try.results10, go_sem, cell_set, xv, u0, u1, t0, t1, t2, t3, t4, t5, t6, t7, t8, y0, y1, y2, y3, lt0, lt1, lt2]) rfl ?_
                  rw [HLB.out, HT.out]
                  exact ⟨rfl, by (repeat' first | exact HW.out | apply below_drewN | apply Below.drew | apply Below.setCell | apply Below.alloc) <;> (simp <;> omega)⟩
end Go.Proofs.Ytaocopmlgemgiaa
