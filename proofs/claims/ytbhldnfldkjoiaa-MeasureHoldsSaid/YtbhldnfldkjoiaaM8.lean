/- Layer 37: the reference's step. -/
import Derived.Test.YtbhldnfldkjoiaaM6
import Derived.Test.YtbhldnfldkjoiaaTailM
namespace Go.Proofs.Ytbhldnfldkjoiaa
set_option linter.unusedVariables false
set_option linter.unusedSimpArgs false
open Go.RowKit Go.Sort
attribute [local go_sem] gcell

/-- A variable of two lists, of which the first grows. -/
structure Fl (W wr : World) (X : Nat) (v : Value) (k : Nat) (ys : Nat → Int) : Prop where
  bel : Below X W wr
  x0 : wr.cell? ⟨X, 0, none⟩ = some v
  x1 : wr.cell? ⟨X, 1, none⟩ = some (.slice none 0 0)
  f0 : wr.frozen? ⟨X, 0, none⟩ = false
  f1 : wr.frozen? ⟨X, 1, none⟩ = false
  own : wr.ownsRow (X + 1) 3 1 v k ((List.range k).map fun i => .int .i64 (ys i))
theorem Fl.sz {W wr : World} {X : Nat} {v : Value} {k : Nat} {ys : Nat → Int} (F : Fl W wr X v k ys) : X < wr.heap.size := lt_of_cell F.x0
theorem kept_below {w w' : World} {base e n : Nat} {v : Value} {xs : List Value} (h : w.ownsRow base e 1 v n xs) (hb : Below w.heap.size w w') : w'.ownsRow base e 1 v n xs :=
  h.kept (row := none) ⟨hb.os, hb.tape, hb.output, hb.size, fun i hi _ => hb.block i hi⟩ (by cases h : v.ownBlock <;> simp)
theorem Fl.mono {W wr w' : World} {X : Nat} {v : Value} {k : Nat} {ys : Nat → Int} (F : Fl W wr X v k ys) (hb : Below wr.heap.size wr w') : Fl W w' X v k ys :=
  ⟨bthen F.bel hb (Nat.le_of_lt F.sz), up hb F.x0, up hb F.x1, upf hb F.sz F.f0, upf hb F.sz F.f1, kept_below F.own hb⟩
theorem Fl.put {W wr w' : World} {X : Nat} {v v' : Value} {k : Nat} {ys : Nat → Int} (F : Fl W wr X v k ys) (hown : w'.ownsRow (X + 1) 3 1 v' (k + 1) ((List.range (k + 1)).map fun i => .int .i64 (ys i))) (hB : Below (X + 1) wr w') :
    Fl W (w'.setCell ⟨X, 0, none⟩ v') X v' (k + 1) ys := by
  have a0 := (hB.cell (p := ⟨X, 0, none⟩) (Nat.lt_succ_self X)).trans F.x0
  have a1 := (hB.cell (p := ⟨X, 1, none⟩) (Nat.lt_succ_self X)).trans F.x1
  refine ⟨(F.bel.trans (hB.mono (Nat.le_succ X))).setCell (Nat.le_refl _) _, by simp [cell_set, a0], by simp [cell_set, a1], ?_, ?_, ownsRow_setCell_below hown (Nat.lt_succ_self X) _⟩
  · rw [World.frozen?_setCell]; exact (hB.frozen (p := ⟨X, 0, none⟩) (Nat.lt_succ_self X)).trans F.f0
  · rw [World.frozen?_setCell]; exact (hB.frozen (p := ⟨X, 1, none⟩) (Nat.lt_succ_self X)).trans F.f1
theorem Fl.start (W : World) (ys : Nat → Int) : Fl W (W.alloc (.cells #[.slice none 0 0, .slice none 0 0] 26)) W.heap.size (.slice none 0 0) 0 ys :=
  ⟨(Below.refl _ _).alloc (Nat.le_refl _) _, by simp [go_sem], by simp [go_sem], by simp [go_sem], by simp [go_sem], World.ownsRow_nil _ _ _ _⟩

/-- .. of which the second grows. -/
structure Hl (W wr : World) (X B bF : Nat) (aF : Option Addr) (cF n : Nat) (fs : Nat → Int) (v : Value) (k : Nat) (ys : Nat → Int) : Prop where
  bel : Below X W wr
  x0 : wr.cell? ⟨X, 0, none⟩ = some (.slice aF n cF)
  x1 : wr.cell? ⟨X, 1, none⟩ = some v
  f1 : wr.frozen? ⟨X, 1, none⟩ = false
  a0 : 0 < n → aF = some ⟨bF, 0, none⟩
  row : ∀ j, j < n → wr.cell? ⟨bF, j, none⟩ = some (.int .i64 (fs j))
  own : wr.ownsRow B 3 1 v k ((List.range k).map fun i => .int .i64 (ys i))
  lo : X < B ∧ (0 < n → bF < B ∧ X < bF) ∧ B ≤ wr.heap.size
theorem Hl.sz {W wr : World} {X B bF : Nat} {aF : Option Addr} {cF n : Nat} {fs : Nat → Int} {v : Value} {k : Nat} {ys : Nat → Int} (F : Hl W wr X B bF aF cF n fs v k ys) : X < wr.heap.size := lt_of_cell F.x0
theorem Hl.mono {W wr w' : World} {X B bF : Nat} {aF : Option Addr} {cF n : Nat} {fs : Nat → Int} {v : Value} {k : Nat} {ys : Nat → Int} (F : Hl W wr X B bF aF cF n fs v k ys) (hb : Below wr.heap.size wr w') : Hl W w' X B bF aF cF n fs v k ys :=
  ⟨bthen F.bel hb (Nat.le_of_lt F.sz), up hb F.x0, up hb F.x1, upf hb F.sz F.f1, F.a0, fun j hj => up hb (F.row j hj), kept_below F.own hb, F.lo.1, F.lo.2.1, Nat.le_trans F.lo.2.2 hb.size⟩
theorem Hl.put {W wr w' : World} {X B bF : Nat} {aF : Option Addr} {cF n : Nat} {fs : Nat → Int} {v v' : Value} {k : Nat} {ys : Nat → Int} (F : Hl W wr X B bF aF cF n fs v k ys) (hown : w'.ownsRow B 3 1 v' (k + 1) ((List.range (k + 1)).map fun i => .int .i64 (ys i))) (hB : Below B wr w') :
    Hl W (w'.setCell ⟨X, 1, none⟩ v') X B bF aF cF n fs v' (k + 1) ys := by
  have a0 := (hB.cell (p := ⟨X, 0, none⟩) F.lo.1).trans F.x0
  have a1 := (hB.cell (p := ⟨X, 1, none⟩) F.lo.1).trans F.x1
  refine ⟨(F.bel.trans (hB.mono (Nat.le_of_lt F.lo.1))).setCell (Nat.le_refl _) _, by simp [cell_set, a0], by simp [cell_set, a1], ?_, F.a0, fun j hj => ?_, ownsRow_setCell_below hown F.lo.1 _, F.lo.1, F.lo.2.1, by have := F.lo.2.2; have := hB.size; simp; omega⟩
  · rw [World.frozen?_setCell]; exact (hB.frozen (p := ⟨X, 1, none⟩) F.lo.1).trans F.f1
  · have h1 := F.lo.2.1 (by omega)
    have h2 : X ≠ bF := by omega
    rw [cell_set, if_neg (by simp [h2])]
    exact (hB.cell (p := ⟨bF, j, none⟩) h1.1).trans (F.row j hj)
theorem Fl.next {W wr : World} {X : Nat} {v : Value} {n : Nat} {ys zs : Nat → Int} (F : Fl W wr X v n ys) : ∃ aF cF bF, v = .slice aF n cF ∧ Hl W wr X wr.heap.size bF aF cF n ys (.slice none 0 0) 0 zs := by
  obtain ⟨a, c, b, rfl, h2, h3, h4⟩ := own_cells F.own
  exact ⟨a, c, b, rfl, F.bel, F.x0, F.x1, F.f1, fun h => (h3 h).1, h4, World.ownsRow_nil _ _ _ _, F.sz, fun h => ⟨(h3 h).2.2, (h3 h).2.1⟩, Nat.le_refl _⟩
theorem Hl.rows {W wr : World} {X B bF : Nat} {aF : Option Addr} {cF n : Nat} {fs : Nat → Int} {v : Value} {m : Nat} {ys : Nat → Int} (F : Hl W wr X B bF aF cF n fs v m ys) : ∃ d l, v = .slice d m l ∧ Sg wr (sv aF d n cF m l) n m fs ys := by
  obtain ⟨d, l, g, rfl, h2, h3, h4⟩ := own_cells F.own
  have e1 : aF = none → n = 0 := fun h => by
    rcases Nat.eq_zero_or_pos n with h0 | h0
    · exact h0
    · have h1 := F.a0 h0
      rw [h] at h1
      cases h1
  have e2 : d = none → m = 0 := fun h => by
    rcases Nat.eq_zero_or_pos m with h0 | h0
    · exact h0
    · have h1 := (h3 h0).1
      rw [h] at h1
      cases h1
  exact ⟨d, l, rfl, aF, d, cF, l, rfl, e1, e2, ⟨bF, 0, F.a0, fun k hk => by rw [Nat.zero_add]; exact F.row k hk⟩, ⟨g, 0, fun h => (h3 h).1, fun k hk => by rw [Nat.zero_add]; exact h4 k hk⟩⟩
theorem Sg.set2 {w : World} {v : Value} {n m q : Nat} {fs hs : Nat → Int} (S : Sg w v n m fs hs) (hq : ∀ b o x, w.cell? ⟨b, o, none⟩ = some (.int .i64 x) → b ≠ q) (x y : Value) : Sg ((w.setCell ⟨q, 0, none⟩ x).setCell ⟨q, 1, none⟩ y) v n m fs hs := by
  obtain ⟨a, d, c, l, h1, h2, h3, ⟨b, o, h4, h5⟩, ⟨b', o', h6, h7⟩⟩ := S
  refine ⟨a, d, c, l, h1, h2, h3, ⟨b, o, h4, fun k hk => ?_⟩, ⟨b', o', h6, fun k hk => ?_⟩⟩
  · have := hq _ _ _ (h5 k hk)
    rw [cell_set, if_neg (by simp [Ne.symm this]), cell_set, if_neg (by simp [Ne.symm this])]
    exact h5 k hk
  · have := hq _ _ _ (h7 k hk)
    rw [cell_set, if_neg (by simp [Ne.symm this]), cell_set, if_neg (by simp [Ne.symm this])]
    exact h7 k hk
theorem Hl.rowsSet {W wr : World} {X B bF : Nat} {aF : Option Addr} {cF n : Nat} {fs : Nat → Int} {v : Value} {m : Nat} {ys : Nat → Int} (F : Hl W wr X B bF aF cF n fs v m ys) {q : Nat} (hq : q < X) (x y : Value) :
    ∃ d l, v = .slice d m l ∧ Sg ((wr.setCell ⟨q, 0, none⟩ x).setCell ⟨q, 1, none⟩ y) (sv aF d n cF m l) n m fs ys := by
  obtain ⟨d, l, g, rfl, h2, h3, h4⟩ := own_cells F.own
  have e1 : aF = none → n = 0 := fun h => by
    rcases Nat.eq_zero_or_pos n with h0 | h0
    · exact h0
    · have h1 := F.a0 h0
      rw [h] at h1
      cases h1
  have e2 : d = none → m = 0 := fun h => by
    rcases Nat.eq_zero_or_pos m with h0 | h0
    · exact h0
    · have h1 := (h3 h0).1
      rw [h] at h1
      cases h1
  refine ⟨d, l, rfl, aF, d, cF, l, rfl, e1, e2, ⟨bF, 0, F.a0, fun k hk => ?_⟩, ⟨g, 0, fun h => (h3 h).1, fun k hk => ?_⟩⟩
  · have := F.lo.2.1 (by omega)
    have hne : q ≠ bF := by omega
    rw [Nat.zero_add, cell_set, if_neg (by simp [hne]), cell_set, if_neg (by simp [hne])]
    exact F.row k hk
  · have := (h3 (by omega)).2.1
    have := F.lo.1
    have hne : q ≠ g := by omega
    rw [Nat.zero_add, cell_set, if_neg (by simp [hne]), cell_set, if_neg (by simp [hne])]
    exact h4 k hk
theorem Sg.far {w w' : World} {v : Value} {n m q : Nat} {fs hs : Nat → Int} (S : Sg w v n m fs hs) (hq : w.heap.size ≤ q) (hb : Below w.heap.size w w') (x y : Value) : Sg ((w'.setCell ⟨q, 0, none⟩ x).setCell ⟨q, 1, none⟩ y) v n m fs hs :=
  S.mono ((hb.setCell hq _).setCell hq _)
end Go.Proofs.Ytbhldnfldkjoiaa
