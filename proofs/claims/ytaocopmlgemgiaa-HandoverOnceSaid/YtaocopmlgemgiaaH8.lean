/- Layer 42: the sanity check. -/
import Derived.Test.YtaocopmlgemgiaaH7
namespace Go.Proofs.Ytaocopmlgemgiaa
set_option linter.unusedVariables false
set_option linter.unusedSimpArgs false
open Go.RowKit Go.Sort
attribute [local go_sem] gcell

/-- Three whole numbers in a variable. -/
structure Box3 (w : World) (q : Nat) (x y z : Int) : Prop where
  c0 : w.cell? ⟨q, 0, none⟩ = some (.int .i64 x)
  c1 : w.cell? ⟨q, 1, none⟩ = some (.int .i64 y)
  c2 : w.cell? ⟨q, 2, none⟩ = some (.int .i64 z)
  f0 : w.frozen? ⟨q, 0, none⟩ = false
  f1 : w.frozen? ⟨q, 1, none⟩ = false
  f2 : w.frozen? ⟨q, 2, none⟩ = false
theorem Box3.lt {w : World} {q : Nat} {x y z : Int} (B : Box3 w q x y z) : q < w.heap.size := lt_of_cell B.c0
theorem Box3.mono {w w' : World} {q : Nat} {x y z : Int} (B : Box3 w q x y z) (hb : Below w.heap.size w w') : Box3 w' q x y z :=
  ⟨Go.Proofs.Ytaocopmlgemgiaa.up hb B.c0, Go.Proofs.Ytaocopmlgemgiaa.up hb B.c1, Go.Proofs.Ytaocopmlgemgiaa.up hb B.c2, upf hb B.lt B.f0, upf hb B.lt B.f1, upf hb B.lt B.f2⟩
theorem Box3.new (w : World) (x y z : Int) (t : TypeId) (q : Nat) (hq : q = w.heap.size) : Box3 (w.alloc (.cells #[.int .i64 x, .int .i64 y, .int .i64 z] t)) q x y z := by
  subst hq
  exact ⟨by simp [go_sem], by simp [go_sem], by simp [go_sem], by simp [go_sem], by simp [go_sem], by simp [go_sem]⟩
/-- The store into three cells. -/
def set3 (w : World) (q : Nat) (x y z : Int) : World := ((w.setCell ⟨q, 0, none⟩ (.int .i64 x)).setCell ⟨q, 1, none⟩ (.int .i64 y)).setCell ⟨q, 2, none⟩ (.int .i64 z)
theorem set3_cell (w : World) (q p o : Nat) (x y z : Int) (h : q ≠ p) : (set3 w q x y z).cell? ⟨p, o, none⟩ = w.cell? ⟨p, o, none⟩ := by
  unfold set3
  rw [cell_set, if_neg (by simp [h]), cell_set, if_neg (by simp [h]), cell_set, if_neg (by simp [h])]
theorem set3_frozen (w : World) (q p o : Nat) (x y z : Int) : (set3 w q x y z).frozen? ⟨p, o, none⟩ = w.frozen? ⟨p, o, none⟩ := by
  unfold set3
  rw [World.frozen?_setCell, World.frozen?_setCell, World.frozen?_setCell]
theorem Box3.set {w : World} {q : Nat} {x y z : Int} (B : Box3 w q x y z) (x' y' z' : Int) : Box3 (set3 w q x' y' z') q x' y' z' := by
  refine ⟨?_, ?_, ?_, (set3_frozen ..).trans B.f0, (set3_frozen ..).trans B.f1, (set3_frozen ..).trans B.f2⟩
  · simp [set3, cell_set, B.c0]
  · simp [set3, cell_set, B.c1]
  · simp [set3, cell_set, B.c2]
theorem Box3.far {w : World} {p q : Nat} {x y z : Int} (B : Box3 w p x y z) (h : q ≠ p) (x' y' z' : Int) : Box3 (set3 w q x' y' z') p x y z :=
  ⟨(set3_cell _ _ _ _ _ _ _ h).trans B.c0, (set3_cell _ _ _ _ _ _ _ h).trans B.c1, (set3_cell _ _ _ _ _ _ _ h).trans B.c2, (set3_frozen ..).trans B.f0, (set3_frozen ..).trans B.f1, (set3_frozen ..).trans B.f2⟩
theorem below_set3 {B : Nat} {W w : World} {q : Nat} (h : Below B W w) (hq : B ≤ q) (x y z : Int) : Below B W (set3 w q x y z) := ((h.setCell hq _).setCell hq _).setCell hq _
theorem set3_size (w : World) (q : Nat) (x y z : Int) : (set3 w q x y z).heap.size = w.heap.size := by simp [set3]

/-- Four of them. -/
structure Box4 (w : World) (q : Nat) (x y z u : Int) : Prop where
  c0 : w.cell? ⟨q, 0, none⟩ = some (.int .i64 x)
  c1 : w.cell? ⟨q, 1, none⟩ = some (.int .i64 y)
  c2 : w.cell? ⟨q, 2, none⟩ = some (.int .i64 z)
  c3 : w.cell? ⟨q, 3, none⟩ = some (.int .i64 u)
  f0 : w.frozen? ⟨q, 0, none⟩ = false
  f1 : w.frozen? ⟨q, 1, none⟩ = false
  f2 : w.frozen? ⟨q, 2, none⟩ = false
  f3 : w.frozen? ⟨q, 3, none⟩ = false
theorem Box4.lt {w : World} {q : Nat} {x y z u : Int} (B : Box4 w q x y z u) : q < w.heap.size := lt_of_cell B.c0
theorem Box4.mono {w w' : World} {q : Nat} {x y z u : Int} (B : Box4 w q x y z u) (hb : Below w.heap.size w w') : Box4 w' q x y z u :=
  ⟨Go.Proofs.Ytaocopmlgemgiaa.up hb B.c0, Go.Proofs.Ytaocopmlgemgiaa.up hb B.c1, Go.Proofs.Ytaocopmlgemgiaa.up hb B.c2, Go.Proofs.Ytaocopmlgemgiaa.up hb B.c3, upf hb B.lt B.f0, upf hb B.lt B.f1, upf hb B.lt B.f2, upf hb B.lt B.f3⟩
theorem Box4.new (w : World) (x y z u : Int) (t : TypeId) (q : Nat) (hq : q = w.heap.size) : Box4 (w.alloc (.cells #[.int .i64 x, .int .i64 y, .int .i64 z, .int .i64 u] t)) q x y z u := by
  subst hq
  exact ⟨by simp [go_sem], by simp [go_sem], by simp [go_sem], by simp [go_sem], by simp [go_sem], by simp [go_sem], by simp [go_sem], by simp [go_sem]⟩
def set4 (w : World) (q : Nat) (x y z u : Int) : World := (set3 w q x y z).setCell ⟨q, 3, none⟩ (.int .i64 u)
theorem set4_cell (w : World) (q p o : Nat) (x y z u : Int) (h : q ≠ p) : (set4 w q x y z u).cell? ⟨p, o, none⟩ = w.cell? ⟨p, o, none⟩ := by
  unfold set4
  rw [cell_set, if_neg (by simp [h]), set3_cell _ _ _ _ _ _ _ h]
theorem set4_frozen (w : World) (q p o : Nat) (x y z u : Int) : (set4 w q x y z u).frozen? ⟨p, o, none⟩ = w.frozen? ⟨p, o, none⟩ := by
  unfold set4
  rw [World.frozen?_setCell, set3_frozen]
theorem Box4.set {w : World} {q : Nat} {x y z u : Int} (B : Box4 w q x y z u) (x' y' z' u' : Int) : Box4 (set4 w q x' y' z' u') q x' y' z' u' := by
  refine ⟨?_, ?_, ?_, ?_, (set4_frozen ..).trans B.f0, (set4_frozen ..).trans B.f1, (set4_frozen ..).trans B.f2, (set4_frozen ..).trans B.f3⟩
  · simp [set4, set3, cell_set, B.c0]
  · simp [set4, set3, cell_set, B.c1]
  · simp [set4, set3, cell_set, B.c2]
  · simp [set4, set3, cell_set, B.c3]
theorem Box3.far4 {w : World} {p q : Nat} {x y z : Int} (B : Box3 w p x y z) (h : q ≠ p) (x' y' z' u' : Int) : Box3 (set4 w q x' y' z' u') p x y z :=
  ⟨(set4_cell _ _ _ _ _ _ _ _ h).trans B.c0, (set4_cell _ _ _ _ _ _ _ _ h).trans B.c1, (set4_cell _ _ _ _ _ _ _ _ h).trans B.c2, (set4_frozen ..).trans B.f0, (set4_frozen ..).trans B.f1, (set4_frozen ..).trans B.f2⟩
theorem Box4.far3 {w : World} {p q : Nat} {x y z u : Int} (B : Box4 w p x y z u) (h : q ≠ p) (x' y' z' : Int) : Box4 (set3 w q x' y' z') p x y z u :=
  ⟨(set3_cell _ _ _ _ _ _ _ h).trans B.c0, (set3_cell _ _ _ _ _ _ _ h).trans B.c1, (set3_cell _ _ _ _ _ _ _ h).trans B.c2, (set3_cell _ _ _ _ _ _ _ h).trans B.c3, (set3_frozen ..).trans B.f0, (set3_frozen ..).trans B.f1, (set3_frozen ..).trans B.f2, (set3_frozen ..).trans B.f3⟩
theorem below_set4 {B : Nat} {W w : World} {q : Nat} (h : Below B W w) (hq : B ≤ q) (x y z u : Int) : Below B W (set4 w q x y z u) := (below_set3 h hq x y z).setCell hq _

/-- What a station hands back, in words. -/
theorem stationQ {a o r ph ot si ev ar ti x y z d : Int} (h : stS a o r ph ot si ev ar ti = (x, y, z, d)) (hp : (Lit.int .i64 ph).wf = true) (he : (Lit.int .i64 ev).wf = true) (w : World) :
    Calls Try.prog 8 #[.agg #[.int .i64 a, .int .i64 o, .int .i64 r], .agg #[.int .i64 ph, .int .i64 ot, .int .i64 si], .int .i64 ev, .int .i64 ar, .int .i64 ti] w fun e w' => e = .returned (.tuple #[.agg #[.int .i64 x, .int .i64 y, .int .i64 z], .int .i64 d]) ∧ Below w.heap.size w w' := by
  have k := stationP a o r ph ot si ev ar ti hp he w
  rw [h] at k
  exact k
theorem terminalQ {a o r ph ce ta si ev ar ti x y z u d : Int} (h : teS a o r ph ce ta si ev ar ti = (x, y, z, u, d)) (hp : (Lit.int .i64 ph).wf = true) (he : (Lit.int .i64 ev).wf = true) (w : World) :
    Calls Try.prog 10 #[.agg #[.int .i64 a, .int .i64 o, .int .i64 r], .agg #[.int .i64 ph, .int .i64 ce, .int .i64 ta, .int .i64 si], .int .i64 ev, .int .i64 ar, .int .i64 ti] w fun e w' => e = .returned (.tuple #[.agg #[.int .i64 x, .int .i64 y, .int .i64 z, .int .i64 u], .int .i64 d]) ∧ Below w.heap.size w w' := by
  have k := terminalP a o r ph ce ta si ev ar ti hp he w
  rw [h] at k
  exact k

set_option maxHeartbeats 4000000 in
theorem awake14 (w : World) : Calls Try.prog 14 #[] w fun e w' => e = .returned (.bool true) ∧ Below w.heap.size w w' := by
  have K1 := Lib.hid fun w => stationQ (a := 5) (o := 5) (r := 5) (ph := 0) (ot := 0) (si := 0) (ev := 1) (ar := 1) (ti := 3) (x := 1) (y := 1) (z := 3) (d := 1) (by decide) rfl rfl w
  have K2 := Lib.hid fun w => stationQ (a := 5) (o := 5) (r := 5) (ph := 1) (ot := 1) (si := 3) (ev := 2) (ar := 3) (ti := 4) (x := 2) (y := 1) (z := 4) (d := 2) (by decide) rfl rfl w
  have K3 := Lib.hid fun w => stationQ (a := 5) (o := 5) (r := 5) (ph := 2) (ot := 1) (si := 4) (ev := 4) (ar := 0) (ti := 5) (x := 3) (y := 1) (z := 5) (d := 3) (by decide) rfl rfl w
  have K4 := Lib.hid fun w => terminalQ (a := 5) (o := 5) (r := 5) (ph := 0) (ce := 0) (ta := 0) (si := 0) (ev := 1) (ar := 1) (ti := 5) (x := 1) (y := 0) (z := 1) (u := 5) (d := 1) (by decide) rfl rfl w
  have K5 := Lib.hid fun w => terminalQ (a := 5) (o := 5) (r := 5) (ph := 1) (ce := 0) (ta := 1) (si := 5) (ev := 2) (ar := 0) (ti := 6) (x := 0) (y := 1) (z := 1) (u := 5) (d := 2) (by decide) rfl rfl w
  have P0 := Lib.hid (Box3.new w 5 5 5 23 w.heap.size rfl)
  have HB0 := Lib.hid (below_alloc w (.cells #[.int .i64 5, .int .i64 5, .int .i64 5] 23))
  go_enter Try.func14, Try.ntmps14
  go_wp2_with (go_at_call 8; refine (K1.out _).mono ?_)
  rintro e w1 ⟨rfl, hb⟩
  have hP := P0.out.mono hb
  have HB1 := Lib.hid (bthen HB0.out hb HB0.out.size)
  have P1 := Lib.hid (hP.mono (below_alloc w1 (.cells #[.int .i64 1, .int .i64 1, .int .i64 3] 25)))
  have Q1 := Lib.hid (Box3.new w1 1 1 3 25 w1.heap.size rfl)
  have HB2 := Lib.hid (HB1.out.alloc HB1.out.size (.cells #[.int .i64 1, .int .i64 1, .int .i64 3] 25))
  have z1 := HB1.out.size
  obtain ⟨a0, a1, a2, _, _, _⟩ := hP
  have l0 := lt_of_cell a0
  have n1 : w1.heap.size ≠ w.heap.size := by omega
  have n2 : w.heap.size ≠ w1.heap.size := by omega
  clear hb P0 HB0
  go_wp2_with (go_at_call 8; refine (K2.out _).mono ?_)
  rintro e w2 ⟨rfl, hb⟩
  have hQ := Q1.out.mono hb
  have hP := P1.out.mono hb
  have Q2 := Lib.hid (hQ.set 2 1 4)
  have P2 := Lib.hid (hP.far (q := w1.heap.size) (by omega) 2 1 4)
  have HB3 := Lib.hid (below_set3 (q := w1.heap.size) (bthen HB2.out hb HB2.out.size) z1 2 1 4)
  clear a0 a1 a2 l0
  obtain ⟨a0, a1, a2, _, _, _⟩ := hP
  obtain ⟨q0, q1, q2, f0, f1, f2⟩ := hQ
  have l0 := lt_of_cell a0
  have l1 := lt_of_cell q0
  clear hb P1 Q1 HB1 HB2
  go_wp2_with (go_at_call 8; refine (K3.out _).mono ?_)
  rintro e w3 ⟨rfl, hb⟩
  have hQ := Q2.out.mono hb
  have hP := P2.out.mono hb
  have Q3 := Lib.hid (hQ.set 3 1 5)
  have P3 := Lib.hid (hP.far (q := w1.heap.size) (by omega) 3 1 5)
  have HB4 := Lib.hid (below_set3 (q := w1.heap.size) (bthen HB3.out hb HB3.out.size) z1 3 1 5)
  clear a0 a1 a2 l0 l1 q0 q1 q2 f0 f1 f2
  obtain ⟨a0, a1, a2, _, _, _⟩ := hP
  obtain ⟨q0, q1, q2, f0, f1, f2⟩ := hQ
  have l0 := lt_of_cell a0
  have l1 := lt_of_cell q0
  clear hb P2 Q2 HB3
  go_wp2_with (go_at_call 10; refine (K4.out _).mono ?_)
  rintro e w4 ⟨rfl, hb⟩
  have hQ := Q3.out.mono hb
  have hP := P3.out.mono hb
  have Q4 := Lib.hid (hQ.mono (below_alloc w4 (.cells #[.int .i64 1, .int .i64 0, .int .i64 1, .int .i64 5] 27)))
  have P4 := Lib.hid (hP.mono (below_alloc w4 (.cells #[.int .i64 1, .int .i64 0, .int .i64 1, .int .i64 5] 27)))
  have R4 := Lib.hid (Box4.new w4 1 0 1 5 27 w4.heap.size rfl)
  have hB5 := bthen HB4.out hb HB4.out.size
  have HB5 := Lib.hid (hB5.alloc hB5.size (.cells #[.int .i64 1, .int .i64 0, .int .i64 1, .int .i64 5] 27))
  have z4 := hB5.size
  clear a0 a1 a2 l0 l1 q0 q1 q2 f0 f1 f2 hB5
  obtain ⟨a0, a1, a2, _, _, _⟩ := hP
  obtain ⟨q0, q1, q2, f0, f1, f2⟩ := hQ
  have l0 := lt_of_cell a0
  have l1 := lt_of_cell q0
  have n3 : w4.heap.size ≠ w.heap.size := by omega
  have n4 : w.heap.size ≠ w4.heap.size := by omega
  have n5 : w4.heap.size ≠ w1.heap.size := by omega
  have n6 : w1.heap.size ≠ w4.heap.size := by omega
  clear hb P3 Q3 HB4
  go_wp2_with (go_at_call 10; refine (K5.out _).mono ?_)
  rintro e w5 ⟨rfl, hb⟩
  have hQ := Q4.out.mono hb
  have hR := R4.out.mono hb
  have HB6 := Lib.hid (below_set4 (q := w4.heap.size) (bthen HB5.out hb HB5.out.size) z4 0 1 1 5)
  clear a0 a1 a2 l0 l1 q0 q1 q2 f0 f1 f2
  obtain ⟨q0, q1, q2, _, _, _⟩ := hQ
  obtain ⟨r0, r1, r2, r3, f0, f1, f2, f3⟩ := hR
  have l0 := lt_of_cell q0
  have l1 := lt_of_cell r0
  clear hb P4 Q4 R4 HB5
  go_wp2
  go_ret
  exact ⟨rfl, HB6.out⟩
end Go.Proofs.Ytaocopmlgemgiaa
