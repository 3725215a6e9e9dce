/- Layer 42: the program's station. -/
import Derived.Test.YtaocopmlgemgiaaH2
import Derived.RegionTactic
import Derived.Deep.DeepCutAuto
import Derived.Deep.RegionHeld3
namespace Go.Proofs.Ytaocopmlgemgiaa
set_option linter.unusedVariables false
set_option linter.unusedSimpArgs false
open Go.RowKit Go.Sort
attribute [local go_sem] gcell

/-- What a row makes of a move. -/
def tabS (ok L : Bool) (wt ph ot si ar ti x1 x2 : Int) (s : Bool) (c : Int) : Int × Int × Int × Int :=
  if ok = false ∨ L = false then (ph, ot, si, 0)
  else if c = 1 ∧ cellB ar = false ∨ c = 2 ∧ ar ≠ si ∨ c = 3 ∧ ti - si < wt then (ph, ot, si, 0)
  else (x1, if c = 1 then ar else ot, if s then ti else si, x2)
theorem Entries.up {w w' : World} {B n : Nat} {key val : Nat → Value} {st : Nat → Prop} (h : Entries w B n key val st) (hb : Below w.heap.size w w') : Entries w' B n key val st := by
  obtain ⟨es, clock, h1, h2⟩ := h
  exact ⟨es, clock, (hb.block B (Array.getElem?_eq_some_iff.1 h1).1).trans h1, h2⟩
/-- A row in a variable. -/
structure Rv (w : World) (P : Nat) (x1 x2 : Int) (s : Bool) (c : Int) : Prop where
  c0 : w.cell? ⟨P, 0, none⟩ = some (.int .i64 x1)
  c1 : w.cell? ⟨P, 1, none⟩ = some (.int .i64 x2)
  c2 : w.cell? ⟨P, 2, none⟩ = some (.bool s)
  c3 : w.cell? ⟨P, 3, none⟩ = some (.int .i64 c)
theorem Rv.mono {w w' : World} {P : Nat} {x1 x2 : Int} {s : Bool} {c : Int} (R : Rv w P x1 x2 s c) (hb : Below w.heap.size w w') : Rv w' P x1 x2 s c :=
  ⟨Go.Proofs.Ytaocopmlgemgiaa.up hb R.c0, Go.Proofs.Ytaocopmlgemgiaa.up hb R.c1, Go.Proofs.Ytaocopmlgemgiaa.up hb R.c2, Go.Proofs.Ytaocopmlgemgiaa.up hb R.c3⟩
theorem keep_alloc {w : World} {b o : Nat} {v : Value} {x : Obj} (h : w.cell? ⟨b, o, none⟩ = some v) : (w.alloc x).cell? ⟨b, o, none⟩ = some v := Go.Proofs.Ytaocopmlgemgiaa.up (below_alloc _ _) h
theorem keep_drew {w : World} {b o : Nat} {v : Value} (h : w.cell? ⟨b, o, none⟩ = some v) : w.drew.cell? ⟨b, o, none⟩ = some v := h

theorem set4_other {w : World} {p q o : Nat} {x y z u v : Value} (h : q < p) (hc : w.cell? ⟨q, o, none⟩ = some v) : ((((w.setCell ⟨p, 0, none⟩ x).setCell ⟨p, 1, none⟩ y).setCell ⟨p, 2, none⟩ z).setCell ⟨p, 3, none⟩ u).cell? ⟨q, o, none⟩ = some v := by
  have hne : p ≠ q := by omega
  rw [cell_set, if_neg (by simp [hne]), cell_set, if_neg (by simp [hne]), cell_set, if_neg (by simp [hne]), cell_set, if_neg (by simp [hne])]
  exact hc
theorem rowUp2 {W0 wA : World} (h : Below (W0.drew.alloc (.cells #[.int .i64 0, .int .i64 0, .bool false, .int .i64 0] 47)).heap.size (W0.drew.alloc (.cells #[.int .i64 0, .int .i64 0, .bool false, .int .i64 0] 47)) wA) : Below W0.heap.size W0 wA ∧ wA.cell? ⟨W0.heap.size, 0, none⟩ = some (.int .i64 0) ∧ wA.cell? ⟨W0.heap.size, 1, none⟩ = some (.int .i64 0) ∧ wA.cell? ⟨W0.heap.size, 2, none⟩ = some (.bool false) ∧ wA.cell? ⟨W0.heap.size, 3, none⟩ = some (.int .i64 0) ∧ wA.frozen? ⟨W0.heap.size, 0, none⟩ = false ∧ wA.frozen? ⟨W0.heap.size, 1, none⟩ = false ∧ wA.frozen? ⟨W0.heap.size, 2, none⟩ = false ∧ wA.frozen? ⟨W0.heap.size, 3, none⟩ = false := by
  have h' := h
  refine ⟨bthen (B := W0.heap.size) ((Below.refl W0.heap.size W0).drew.alloc (Nat.le_refl _) _) h (by simp), ?_, ?_, ?_, ?_, ?_, ?_, ?_, ?_⟩
  · exact Go.Proofs.Ytaocopmlgemgiaa.up h (b := W0.heap.size) (by simp [go_sem])
  · exact Go.Proofs.Ytaocopmlgemgiaa.up h (b := W0.heap.size) (by simp [go_sem])
  · exact Go.Proofs.Ytaocopmlgemgiaa.up h (b := W0.heap.size) (by simp [go_sem])
  · exact Go.Proofs.Ytaocopmlgemgiaa.up h (b := W0.heap.size) (by simp [go_sem])
  · exact upf h (b := W0.heap.size) (by simp) (by simp [go_sem])
  · exact upf h (b := W0.heap.size) (by simp) (by simp [go_sem])
  · exact upf h (b := W0.heap.size) (by simp) (by simp [go_sem])
  · exact upf h (b := W0.heap.size) (by simp) (by simp [go_sem])
theorem rowUp {W0 wA : World} (h : Below (W0.alloc (.cells #[.int .i64 0, .int .i64 0, .bool false, .int .i64 0] 47)).drew.heap.size (W0.alloc (.cells #[.int .i64 0, .int .i64 0, .bool false, .int .i64 0] 47)).drew wA) : Below W0.heap.size W0 wA ∧ wA.cell? ⟨W0.heap.size, 0, none⟩ = some (.int .i64 0) ∧ wA.cell? ⟨W0.heap.size, 1, none⟩ = some (.int .i64 0) ∧ wA.cell? ⟨W0.heap.size, 2, none⟩ = some (.bool false) ∧ wA.cell? ⟨W0.heap.size, 3, none⟩ = some (.int .i64 0) ∧ wA.frozen? ⟨W0.heap.size, 0, none⟩ = false ∧ wA.frozen? ⟨W0.heap.size, 1, none⟩ = false ∧ wA.frozen? ⟨W0.heap.size, 2, none⟩ = false ∧ wA.frozen? ⟨W0.heap.size, 3, none⟩ = false := rowUp2 h
theorem rowNo {W0 wA : World} (h : Below W0.drew.heap.size W0.drew wA) : Below W0.heap.size W0 wA := bthen (Below.refl W0.heap.size W0).drew h (Nat.le_refl _)

set_option maxRecDepth 100000 in
set_option maxHeartbeats 8000000 in
theorem station8 (a o r ph ot si ev ar ti x1 x2 c wt : Int) (s ok : Bool) (hw : (ph = 2 → o = wt) ∧ (ph ≠ 2 → a = wt))
    (hl : ∀ wx B, Entries wx B 8 (kOf stK) stV (fun _ => True) → (Instr.lookup 49 (.map (some B)) (kv ph ev) true).run Try.prog wx = .ok (.tuple #[rowV x1 x2 s c, .bool ok]) wx) (w : World) :
    Calls Try.prog 8 #[pv a o r, mv ph ot si, .int .i64 ev, .int .i64 ar, .int .i64 ti] w fun e w' => e = stR (tabS ok (lookB a o r si ti) wt ph ot si ar ti x1 x2 s c) ∧ Below w.heap.size w w' := by
  have HWW := Lib.hid hw
  clear hw
  have HB3 := B3.new w a o r ph ot si
  have HB := (((below_alloc w (.cells #[.int .i64 a, .int .i64 o, .int .i64 r] 23)).alloc (by simp) (.cells #[.int .i64 ph, .int .i64 ot, .int .i64 si] 25)).alloc (by simp; omega) (.cells #[.int .i64 0, .int .i64 0, .int .i64 0] 25))
  have hc := looked20 a o r si ti
  unfold kv rowV at hl
  unfold pv at hc
  unfold pv mv
  go_enter Try.func8, Try.ntmps8
  go_upto_region 1 with fail
  generalize hW : (((w.alloc (.cells #[.int .i64 a, .int .i64 o, .int .i64 r] 23)).alloc (.cells #[.int .i64 ph, .int .i64 ot, .int .i64 si] 25)).alloc (.cells #[.int .i64 0, .int .i64 0, .int .i64 0] 25)) = W0 at *
  clear hW
  have H3 := Lib.hid HB3
  have HB0 := Lib.hid HB
  have HLK := Lib.hid hl
  have HCK := Lib.hid hc
  have k0 := HB3.m0
  clear HB3 HB hl hc
  go_cut [12, 13] (fun s12 s13 wx => ∃ P, s12 = .pointer (some ⟨P, 0, none⟩) ∧ s13 = .bool ok ∧ Rv wx P x1 x2 s c ∧ Below W0.heap.size W0 wx ∧ W0.heap.size ≤ P)
  case first =>
    have kd0 : W0.drew.cell? ⟨w.heap.size + 1, 0, none⟩ = some (.int .i64 ph) := k0
    have ltk := lt_of_cell k0
    go_region_held3 (fun w' => w'.cell? ⟨w.heap.size + 1, 0, none⟩ = some (.int .i64 ph)) (first | assumption | (with_reducible exact keep_drew (keep_alloc k0)) | (with_reducible exact keep_alloc sA) | (with_reducible exact keep_alloc kd0) | (with_reducible exact keep_alloc k0) | (with_reducible exact set4_other ltk sA) | (with_reducible exact set4_other (lt_of_cell sA) (keep_alloc sA)) | (go_keep; done))
      ((go_at_call 19; refine (st19 _).mono ?_; rintro e wA ⟨B, rfl, hE, hbA⟩; have sA := (by first | exact Go.Proofs.Ytaocopmlgemgiaa.up hbA kd0 | exact Go.Proofs.Ytaocopmlgemgiaa.up hbA (keep_alloc kd0) | exact Go.Proofs.Ytaocopmlgemgiaa.up hbA (keep_drew (keep_alloc k0)) : wA.cell? ⟨w.heap.size + 1, 0, none⟩ = some (.int .i64 ph)); (first | (with_reducible (have hlA := rowUp hbA); obtain ⟨bA, pA0, pA1, pA2, pA3, fA0, fA1, fA2, fA3⟩ := hlA) | (with_reducible (have hlA := rowUp2 hbA); obtain ⟨bA, pA0, pA1, pA2, pA3, fA0, fA1, fA2, fA3⟩ := hlA) | (with_reducible (have bA := rowNo hbA))); have q1 := HLK.out _ _ hE; have q2 := HLK.out _ _ (hE.up (below_alloc wA (.cells #[.int .i64 0, .int .i64 0, .bool false, .int .i64 0] 47)))))
    all_goals
      go_wp2_with fail
      go_meet
      first
        | (refine ⟨_, rfl, rfl, ⟨?_, ?_, ?_, ?_⟩, bA.alloc bA.size _, bA.size⟩ <;> (simp [go_sem]; done))
        | (refine ⟨_, rfl, rfl, ⟨?_, ?_, ?_, ?_⟩, (((bA.setCell (Nat.le_refl _) _).setCell (Nat.le_refl _) _).setCell (Nat.le_refl _) _).setCell (Nat.le_refl _) _, Nat.le_refl _⟩ <;> (simp [cell_set, pA0, pA1, pA2, pA3]; done))
  case rest =>
    obtain ⟨P, rfl, rfl, hR, hb1, hPl⟩ := hcut
    have neP : w.heap.size + 1 + 1 ≠ P := by have := lt_of_cell H3.out.r0; omega
    have neP2 : P ≠ w.heap.size + 1 + 1 := Ne.symm neP
    have HR := Lib.hid hR
    have H1 := Lib.hid (H3.out.mono hb1)
    have HW := Lib.hid (bthen HB0.out hb1 HB0.out.size)
    obtain ⟨p0, p1, p2, m0, m1, m2, t0, t1, t2, t3, t4, t5⟩ := H1.out
    have t6 := lt_of_cell p0
    have t7 := lt_of_cell m0
    have t8 := lt_of_cell t0
    obtain ⟨y0, y1, y2, y3⟩ := hR
    have z2 := HW.out.size
    have lt0 := lt_of_cell y0
    have lt1 := H3.out
    have lt2 := hb1.size
    clear hb1 k0 HLK
    clear lt1
    have lt1 := lt2
    cases ok
    · have HT := Lib.hid (show tabS false (lookB a o r si ti) wt ph ot si ar ti x1 x2 s c = (ph, ot, si, 0) by unfold tabS; rw [if_pos (.inl rfl)])
      go_wp2
      all_goals
        refine bodyPost_ret (v := .tuple #[mv (ph) (ot) (si), .int .i64 (0)]) (by simp [results, Try.results8, go_sem, cell_set, mv, t0, t1, t2, t3, t4, t5, t6, t7, t8, y0, y1, y2, y3, lt0, lt1, lt2]) rfl ?_
        rw [HT.out]
        exact ⟨rfl, by (repeat' first | exact HW.out | apply below_drewN | apply Below.drew | apply Below.setCell | apply Below.alloc) <;> (simp <;> omega)⟩
    · cases L : lookB a o r si ti
      · have HLB := Lib.hid L
        rw [L] at HCK
        clear L
        have HT := Lib.hid (show tabS true false wt ph ot si ar ti x1 x2 s c = (ph, ot, si, 0) by unfold tabS; rw [if_pos (.inr rfl)])
        have HW0 := HW
        clear HW
        go_wp2_with (go_at_call 20; refine (HCK.out _).mono ?_; rintro e w3 ⟨rfl, hb⟩; have HW := Lib.hid (bthen HW0.out hb z2); have z3 := HW.out.size; have G3 := H1.out.mono hb; clear p0 p1 p2 m0 m1 m2 t0 t1 t2 t3 t4 t5 t6 t7 t8 y0 y1 y2 y3 lt0; obtain ⟨p0, p1, p2, m0, m1, m2, t0, t1, t2, t3, t4, t5⟩ := G3; have t6 := lt_of_cell p0; have t7 := lt_of_cell m0; have t8 := lt_of_cell t0; obtain ⟨y0, y1, y2, y3⟩ := HR.out.mono hb; have lt0 := lt_of_cell y0; clear hb)
        all_goals
          refine bodyPost_ret (v := .tuple #[mv (ph) (ot) (si), .int .i64 (0)]) (by simp [results, Try.results8, go_sem, cell_set, mv, t0, t1, t2, t3, t4, t5, t6, t7, t8, y0, y1, y2, y3, lt0, lt1, lt2]) rfl ?_
          rw [HLB.out, HT.out]
          exact ⟨rfl, by (repeat' first | exact HW.out | apply below_drewN | apply Below.drew | apply Below.setCell | apply Below.alloc) <;> (simp <;> omega)⟩
      · have HLB := Lib.hid L
        rw [L] at HCK
        obtain ⟨⟨a1, a2, o1, o2, _, _⟩, ti1, ti2, si1, si2⟩ := look_bd L
        clear L
        have HW0 := HW
        clear HW
        go_upto_region 4 with (go_at_call 20; refine (HCK.out _).mono ?_; rintro e w3 ⟨rfl, hb⟩; have HW := Lib.hid (bthen HW0.out hb z2); have z3 := HW.out.size; have G3 := H1.out.mono hb; clear p0 p1 p2 m0 m1 m2 t0 t1 t2 t3 t4 t5 t6 t7 t8 y0 y1 y2 y3 lt0; obtain ⟨p0, p1, p2, m0, m1, m2, t0, t1, t2, t3, t4, t5⟩ := G3; have t6 := lt_of_cell p0; have t7 := lt_of_cell m0; have t8 := lt_of_cell t0; obtain ⟨y0, y1, y2, y3⟩ := HR.out.mono hb; have lt0 := lt_of_cell y0; clear hb)
        clear HW0 HCK H1 H3 HB0 HR
        by_cases hp2 : ph = 2
        · have e := HWW.out.1 hp2
          clear HWW
          subst e
          have np : (ph == 2) = true := beq_iff_eq.2 hp2
          clear hp2
          by_cases hc1 : c = 1
          · subst hc1
            cases hcl : cellB ar
            · skip
              have HT := Lib.hid (show tabS true true o ph ot si ar ti x1 x2 s 1 = (ph, ot, si, 0) by unfold tabS; rw [if_neg (by simp), if_pos (by simp [*] <;> omega)])
              go_wp2_with (go_at_call 21; refine (cell21 _ _).mono ?_; rw [hcl]; rintro e wz ⟨rfl, rfl⟩)
              all_goals
                refine bodyPost_ret (v := .tuple #[mv (ph) (ot) (si), .int .i64 (0)]) (by simp [results, Try.results8, go_sem, cell_set, mv, t0, t1, t2, t3, t4, t5, t6, t7, t8, y0, y1, y2, y3, lt0, lt1, lt2]) rfl ?_
                rw [HLB.out, HT.out]
                exact ⟨rfl, by (repeat' first | exact HW.out | apply below_drewN | apply Below.drew | apply Below.setCell | apply Below.alloc) <;> (simp <;> omega)⟩
            · skip
              cases s
              · skip
                have HT := Lib.hid (show tabS true true o ph ot si ar ti x1 x2 false 1 = (x1, ar, si, x2) by unfold tabS; rw [if_neg (by simp), if_neg (by simp <;> omega)]; rfl)
                go_wp2_with (go_at_call 21; refine (cell21 _ _).mono ?_; rw [hcl]; rintro e wz ⟨rfl, rfl⟩)
                go_region
                all_goals go_wp2
                all_goals
                  refine bodyPost_ret (v := .tuple #[mv (x1) (ar) (si), .int .i64 (x2)]) (by simp [results, Try.results8, go_sem, cell_set, mv, t0, t1, t2, t3, t4, t5, t6, t7, t8, y0, y1, y2, y3, lt0, lt1, lt2]) rfl ?_
                  rw [HLB.out, HT.out]
                  exact ⟨rfl, by (repeat' first | exact HW.out | apply below_drewN | apply Below.drew | apply Below.setCell | apply Below.alloc) <;> (simp <;> omega)⟩
              · skip
                have HT := Lib.hid (show tabS true true o ph ot si ar ti x1 x2 true 1 = (x1, ar, ti, x2) by unfold tabS; rw [if_neg (by simp), if_neg (by simp <;> omega)]; rfl)
                go_wp2_with (go_at_call 21; refine (cell21 _ _).mono ?_; rw [hcl]; rintro e wz ⟨rfl, rfl⟩)
                go_region
                all_goals go_wp2
                all_goals
                  refine bodyPost_ret (v := .tuple #[mv (x1) (ar) (ti), .int .i64 (x2)]) (by simp [results, Try.results8, go_sem, cell_set, mv, t0, t1, t2, t3, t4, t5, t6, t7, t8, y0, y1, y2, y3, lt0, lt1, lt2]) rfl ?_
                  rw [HLB.out, HT.out]
                  exact ⟨rfl, by (repeat' first | exact HW.out | apply below_drewN | apply Below.drew | apply Below.setCell | apply Below.alloc) <;> (simp <;> omega)⟩
          · have n1 : (c == 1) = false := beq_eq_false_iff_ne.2 hc1
            by_cases hc2 : c = 2
            · subst hc2
              by_cases has : ar = si
              · have n2 : (ar != si) = false := by simp [has]
                have n3 : (ar == si) = true := beq_iff_eq.2 has
                cases s
                · skip
                  have HT := Lib.hid (show tabS true true o ph ot si ar ti x1 x2 false 2 = (x1, ot, si, x2) by unfold tabS; rw [if_neg (by simp), if_neg (by simp <;> omega)]; rfl)
                  go_wp2_with fail
                  go_region
                  all_goals go_wp2
                  all_goals
                    refine bodyPost_ret (v := .tuple #[mv (x1) (ot) (si), .int .i64 (x2)]) (by simp [results, Try.results8, go_sem, cell_set, mv, t0, t1, t2, t3, t4, t5, t6, t7, t8, y0, y1, y2, y3, lt0, lt1, lt2]) rfl ?_
                    rw [HLB.out, HT.out]
                    exact ⟨rfl, by (repeat' first | exact HW.out | apply below_drewN | apply Below.drew | apply Below.setCell | apply Below.alloc) <;> (simp <;> omega)⟩
                · skip
                  have HT := Lib.hid (show tabS true true o ph ot si ar ti x1 x2 true 2 = (x1, ot, ti, x2) by unfold tabS; rw [if_neg (by simp), if_neg (by simp <;> omega)]; rfl)
                  go_wp2_with fail
                  go_region
                  all_goals go_wp2
                  all_goals
                    refine bodyPost_ret (v := .tuple #[mv (x1) (ot) (ti), .int .i64 (x2)]) (by simp [results, Try.results8, go_sem, cell_set, mv, t0, t1, t2, t3, t4, t5, t6, t7, t8, y0, y1, y2, y3, lt0, lt1, lt2]) rfl ?_
                    rw [HLB.out, HT.out]
                    exact ⟨rfl, by (repeat' first | exact HW.out | apply below_drewN | apply Below.drew | apply Below.setCell | apply Below.alloc) <;> (simp <;> omega)⟩
              · have n2 : (ar != si) = true := by rw [bne_iff_ne]; exact has
                have n3 : (ar == si) = false := beq_eq_false_iff_ne.2 has
                have HT := Lib.hid (show tabS true true o ph ot si ar ti x1 x2 s 2 = (ph, ot, si, 0) by unfold tabS; rw [if_neg (by simp), if_pos (by simp [*] <;> omega)])
                go_wp2
                all_goals
                  refine bodyPost_ret (v := .tuple #[mv (ph) (ot) (si), .int .i64 (0)]) (by simp [results, Try.results8, go_sem, cell_set, mv, t0, t1, t2, t3, t4, t5, t6, t7, t8, y0, y1, y2, y3, lt0, lt1, lt2]) rfl ?_
                  rw [HLB.out, HT.out]
                  exact ⟨rfl, by (repeat' first | exact HW.out | apply below_drewN | apply Below.drew | apply Below.setCell | apply Below.alloc) <;> (simp <;> omega)⟩
            · have n2 : (c == 2) = false := beq_eq_false_iff_ne.2 hc2
              by_cases hc3 : c = 3
              · subst hc3
                by_cases hlt : o ≤ ti - si
                · skip
                  cases s
                  · skip
                    have HT := Lib.hid (show tabS true true o ph ot si ar ti x1 x2 false 3 = (x1, ot, si, x2) by unfold tabS; rw [if_neg (by simp), if_neg (by simp <;> omega)]; rfl)
                    go_wp2_with fail
                    go_region
                    all_goals go_wp2
                    all_goals
                      refine bodyPost_ret (v := .tuple #[mv (x1) (ot) (si), .int .i64 (x2)]) (by simp [results, Try.results8, go_sem, cell_set, mv, t0, t1, t2, t3, t4, t5, t6, t7, t8, y0, y1, y2, y3, lt0, lt1, lt2]) rfl ?_
                      rw [HLB.out, HT.out]
                      exact ⟨rfl, by (repeat' first | exact HW.out | apply below_drewN | apply Below.drew | apply Below.setCell | apply Below.alloc) <;> (simp <;> omega)⟩
                  · skip
                    have HT := Lib.hid (show tabS true true o ph ot si ar ti x1 x2 true 3 = (x1, ot, ti, x2) by unfold tabS; rw [if_neg (by simp), if_neg (by simp <;> omega)]; rfl)
                    go_wp2_with fail
                    go_region
                    all_goals go_wp2
                    all_goals
                      refine bodyPost_ret (v := .tuple #[mv (x1) (ot) (ti), .int .i64 (x2)]) (by simp [results, Try.results8, go_sem, cell_set, mv, t0, t1, t2, t3, t4, t5, t6, t7, t8, y0, y1, y2, y3, lt0, lt1, lt2]) rfl ?_
                      rw [HLB.out, HT.out]
                      exact ⟨rfl, by (repeat' first | exact HW.out | apply below_drewN | apply Below.drew | apply Below.setCell | apply Below.alloc) <;> (simp <;> omega)⟩
                · skip
                  have HT := Lib.hid (show tabS true true o ph ot si ar ti x1 x2 s 3 = (ph, ot, si, 0) by unfold tabS; rw [if_neg (by simp), if_pos (by simp [*] <;> omega)])
                  go_wp2
                  all_goals
                    refine bodyPost_ret (v := .tuple #[mv (ph) (ot) (si), .int .i64 (0)]) (by simp [results, Try.results8, go_sem, cell_set, mv, t0, t1, t2, t3, t4, t5, t6, t7, t8, y0, y1, y2, y3, lt0, lt1, lt2]) rfl ?_
                    rw [HLB.out, HT.out]
                    exact ⟨rfl, by (repeat' first | exact HW.out | apply below_drewN | apply Below.drew | apply Below.setCell | apply Below.alloc) <;> (simp <;> omega)⟩
              · have n3 : (c == 3) = false := beq_eq_false_iff_ne.2 hc3
                cases s
                · skip
                  have HT := Lib.hid (show tabS true true o ph ot si ar ti x1 x2 false c = (x1, ot, si, x2) by unfold tabS; rw [if_neg (by simp), if_neg (by simp <;> omega)]; rw [if_neg hc1]; rfl)
                  go_wp2_with fail
                  go_region
                  all_goals go_wp2
                  all_goals
                    refine bodyPost_ret (v := .tuple #[mv (x1) (ot) (si), .int .i64 (x2)]) (by simp [results, Try.results8, go_sem, cell_set, mv, t0, t1, t2, t3, t4, t5, t6, t7, t8, y0, y1, y2, y3, lt0, lt1, lt2]) rfl ?_
                    rw [HLB.out, HT.out]
                    exact ⟨rfl, by (repeat' first | exact HW.out | apply below_drewN | apply Below.drew | apply Below.setCell | apply Below.alloc) <;> (simp <;> omega)⟩
                · skip
                  have HT := Lib.hid (show tabS true true o ph ot si ar ti x1 x2 true c = (x1, ot, ti, x2) by unfold tabS; rw [if_neg (by simp), if_neg (by simp <;> omega)]; rw [if_neg hc1]; rfl)
                  go_wp2_with fail
                  go_region
                  all_goals go_wp2
                  all_goals
                    refine bodyPost_ret (v := .tuple #[mv (x1) (ot) (ti), .int .i64 (x2)]) (by simp [results, Try.results8, go_sem, cell_set, mv, t0, t1, t2, t3, t4, t5, t6, t7, t8, y0, y1, y2, y3, lt0, lt1, lt2]) rfl ?_
                    rw [HLB.out, HT.out]
                    exact ⟨rfl, by (repeat' first | exact HW.out | apply below_drewN | apply Below.drew | apply Below.setCell | apply Below.alloc) <;> (simp <;> omega)⟩
        · have e := HWW.out.2 hp2
          clear HWW
          subst e
          have np : (ph == 2) = false := beq_eq_false_iff_ne.2 hp2
          clear hp2
          by_cases hc1 : c = 1
          · subst hc1
            cases hcl : cellB ar
            · skip
              have HT := Lib.hid (show tabS true true a ph ot si ar ti x1 x2 s 1 = (ph, ot, si, 0) by unfold tabS; rw [if_neg (by simp), if_pos (by simp [*] <;> omega)])
              go_wp2_with (go_at_call 21; refine (cell21 _ _).mono ?_; rw [hcl]; rintro e wz ⟨rfl, rfl⟩)
              all_goals
                refine bodyPost_ret (v := .tuple #[mv (ph) (ot) (si), .int .i64 (0)]) (by simp [results, Try.results8, go_sem, cell_set, mv, t0, t1, t2, t3, t4, t5, t6, t7, t8, y0, y1, y2, y3, lt0, lt1, lt2]) rfl ?_
                rw [HLB.out, HT.out]
                exact ⟨rfl, by (repeat' first | exact HW.out | apply below_drewN | apply Below.drew | apply Below.setCell | apply Below.alloc) <;> (simp <;> omega)⟩
            · skip
              cases s
              · skip
                have HT := Lib.hid (show tabS true true a ph ot si ar ti x1 x2 false 1 = (x1, ar, si, x2) by unfold tabS; rw [if_neg (by simp), if_neg (by simp <;> omega)]; rfl)
                go_wp2_with (go_at_call 21; refine (cell21 _ _).mono ?_; rw [hcl]; rintro e wz ⟨rfl, rfl⟩)
                go_region
                all_goals go_wp2
                all_goals
                  refine bodyPost_ret (v := .tuple #[mv (x1) (ar) (si), .int .i64 (x2)]) (by simp [results, Try.results8, go_sem, cell_set, mv, t0, t1, t2, t3, t4, t5, t6, t7, t8, y0, y1, y2, y3, lt0, lt1, lt2]) rfl ?_
                  rw [HLB.out, HT.out]
                  exact ⟨rfl, by (repeat' first | exact HW.out | apply below_drewN | apply Below.drew | apply Below.setCell | apply Below.alloc) <;> (simp <;> omega)⟩
              · skip
                have HT := Lib.hid (show tabS true true a ph ot si ar ti x1 x2 true 1 = (x1, ar, ti, x2) by unfold tabS; rw [if_neg (by simp), if_neg (by simp <;> omega)]; rfl)
                go_wp2_with (go_at_call 21; refine (cell21 _ _).mono ?_; rw [hcl]; rintro e wz ⟨rfl, rfl⟩)
                go_region
                all_goals go_wp2
                all_goals
                  refine bodyPost_ret (v := .tuple #[mv (x1) (ar) (ti), .int .i64 (x2)]) (by simp [results, Try.results8, go_sem, cell_set, mv, t0, t1, t2, t3, t4, t5, t6, t7, t8, y0, y1, y2, y3, lt0, lt1, lt2]) rfl ?_
                  rw [HLB.out, HT.out]
                  exact ⟨rfl, by (repeat' first | exact HW.out | apply below_drewN | apply Below.drew | apply Below.setCell | apply Below.alloc) <;> (simp <;> omega)⟩
          · have n1 : (c == 1) = false := beq_eq_false_iff_ne.2 hc1
            by_cases hc2 : c = 2
            · subst hc2
              by_cases has : ar = si
              · have n2 : (ar != si) = false := by simp [has]
                have n3 : (ar == si) = true := beq_iff_eq.2 has
                cases s
                · skip
                  have HT := Lib.hid (show tabS true true a ph ot si ar ti x1 x2 false 2 = (x1, ot, si, x2) by unfold tabS; rw [if_neg (by simp), if_neg (by simp <;> omega)]; rfl)
                  go_wp2_with fail
                  go_region
                  all_goals go_wp2
                  all_goals
                    refine bodyPost_ret (v := .tuple #[mv (x1) (ot) (si), .int .i64 (x2)]) (by simp [results, Try.results8, go_sem, cell_set, mv, t0, t1, t2, t3, t4, t5, t6, t7, t8, y0, y1, y2, y3, lt0, lt1, lt2]) rfl ?_
                    rw [HLB.out, HT.out]
                    exact ⟨rfl, by (repeat' first | exact HW.out | apply below_drewN | apply Below.drew | apply Below.setCell | apply Below.alloc) <;> (simp <;> omega)⟩
                · skip
                  have HT := Lib.hid (show tabS true true a ph ot si ar ti x1 x2 true 2 = (x1, ot, ti, x2) by unfold tabS; rw [if_neg (by simp), if_neg (by simp <;> omega)]; rfl)
                  go_wp2_with fail
                  go_region
                  all_goals go_wp2
                  all_goals
                    refine bodyPost_ret (v := .tuple #[mv (x1) (ot) (ti), .int .i64 (x2)]) (by simp [results, Try.results8, go_sem, cell_set, mv, t0, t1, t2, t3, t4, t5, t6, t7, t8, y0, y1, y2, y3, lt0, lt1, lt2]) rfl ?_
                    rw [HLB.out, HT.out]
                    exact ⟨rfl, by (repeat' first | exact HW.out | apply below_drewN | apply Below.drew | apply Below.setCell | apply Below.alloc) <;> (simp <;> omega)⟩
              · have n2 : (ar != si) = true := by rw [bne_iff_ne]; exact has
                have n3 : (ar == si) = false := beq_eq_false_iff_ne.2 has
                have HT := Lib.hid (show tabS true true a ph ot si ar ti x1 x2 s 2 = (ph, ot, si, 0) by unfold tabS; rw [if_neg (by simp), if_pos (by simp [*] <;> omega)])
                go_wp2
                all_goals
                  refine bodyPost_ret (v := .tuple #[mv (ph) (ot) (si), .int .i64 (0)]) (by simp [results, Try.results8, go_sem, cell_set, mv, t0, t1, t2, t3, t4, t5, t6, t7, t8, y0, y1, y2, y3, lt0, lt1, lt2]) rfl ?_
                  rw [HLB.out, HT.out]
                  exact ⟨rfl, by (repeat' first | exact HW.out | apply below_drewN | apply Below.drew | apply Below.setCell | apply Below.alloc) <;> (simp <;> omega)⟩
            · have n2 : (c == 2) = false := beq_eq_false_iff_ne.2 hc2
              by_cases hc3 : c = 3
              · subst hc3
                by_cases hlt : a ≤ ti - si
                · skip
                  cases s
                  · skip
                    have HT := Lib.hid (show tabS true true a ph ot si ar ti x1 x2 false 3 = (x1, ot, si, x2) by unfold tabS; rw [if_neg (by simp), if_neg (by simp <;> omega)]; rfl)
                    go_wp2_with fail
                    go_region
                    all_goals go_wp2
                    all_goals
                      refine bodyPost_ret (v := .tuple #[mv (x1) (ot) (si), .int .i64 (x2)]) (by simp [results, Try.results8, go_sem, cell_set, mv, t0, t1, t2, t3, t4, t5, t6, t7, t8, y0, y1, y2, y3, lt0, lt1, lt2]) rfl ?_
                      rw [HLB.out, HT.out]
                      exact ⟨rfl, by (repeat' first | exact HW.out | apply below_drewN | apply Below.drew | apply Below.setCell | apply Below.alloc) <;> (simp <;> omega)⟩
                  · skip
                    have HT := Lib.hid (show tabS true true a ph ot si ar ti x1 x2 true 3 = (x1, ot, ti, x2) by unfold tabS; rw [if_neg (by simp), if_neg (by simp <;> omega)]; rfl)
                    go_wp2_with fail
                    go_region
                    all_goals go_wp2
                    all_goals
                      refine bodyPost_ret (v := .tuple #[mv (x1) (ot) (ti), .int .i64 (x2)]) (by simp [results, Try.results8, go_sem, cell_set, mv, t0, t1, t2, t3, t4, t5, t6, t7, t8, y0, y1, y2, y3, lt0, lt1, lt2]) rfl ?_
                      rw [HLB.out, HT.out]
                      exact ⟨rfl, by (repeat' first | exact HW.out | apply below_drewN | apply Below.drew | apply Below.setCell | apply Below.alloc) <;> (simp <;> omega)⟩
                · skip
                  have HT := Lib.hid (show tabS true true a ph ot si ar ti x1 x2 s 3 = (ph, ot, si, 0) by unfold tabS; rw [if_neg (by simp), if_pos (by simp [*] <;> omega)])
                  go_wp2
                  all_goals
                    refine bodyPost_ret (v := .tuple #[mv (ph) (ot) (si), .int .i64 (0)]) (by simp [results, Try.results8, go_sem, cell_set, mv, t0, t1, t2, t3, t4, t5, t6, t7, t8, y0, y1, y2, y3, lt0, lt1, lt2]) rfl ?_
                    rw [HLB.out, HT.out]
                    exact ⟨rfl, by (repeat' first | exact HW.out | apply below_drewN | apply Below.drew | apply Below.setCell | apply Below.alloc) <;> (simp <;> omega)⟩
              · have n3 : (c == 3) = false := beq_eq_false_iff_ne.2 hc3
                cases s
                · skip
                  have HT := Lib.hid (show tabS true true a ph ot si ar ti x1 x2 false c = (x1, ot, si, x2) by unfold tabS; rw [if_neg (by simp), if_neg (by simp <;> omega)]; rw [if_neg hc1]; rfl)
                  go_wp2_with fail
                  go_region
                  all_goals go_wp2
                  all_goals
                    refine bodyPost_ret (v := .tuple #[mv (x1) (ot) (si), .int .i64 (x2)]) (by simp [results, Try.results8, go_sem, cell_set, mv, t0, t1, t2, t3, t4, t5, t6, t7, t8, y0, y1, y2, y3, lt0, lt1, lt2]) rfl ?_
                    rw [HLB.out, HT.out]
                    exact ⟨rfl, by (repeat' first | exact HW.out | apply below_drewN | apply Below.drew | apply Below.setCell | apply Below.alloc) <;> (simp <;> omega)⟩
                · skip
                  have HT := Lib.hid (show tabS true true a ph ot si ar ti x1 x2 true c = (x1, ot, ti, x2) by unfold tabS; rw [if_neg (by simp), if_neg (by simp <;> omega)]; rw [if_neg hc1]; rfl)
                  go_wp2_with fail
                  go_region
                  all_goals go_wp2
                  all_goals
                    refine bodyPost_ret (v := .tuple #[mv (x1) (ot) (ti), .int .i64 (x2)]) (by simp [results, Try.results8, go_sem, cell_set, mv, t0, t1, t2, t3, t4, t5, t6, t7, t8, y0, y1, y2, y3, lt0, lt1, lt2]) rfl ?_
                    rw [HLB.out, HT.out]
                    exact ⟨rfl, by (repeat' first | exact HW.out | apply below_drewN | apply Below.drew | apply Below.setCell | apply Below.alloc) <;> (simp <;> omega)⟩
end Go.Proofs.Ytaocopmlgemgiaa
