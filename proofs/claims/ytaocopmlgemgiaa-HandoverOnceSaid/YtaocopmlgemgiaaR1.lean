/- Layer 42: what lies in memory while a run goes on. -/
import Derived.Test.YtaocopmlgemgiaaR0
import Derived.Test.YtaocopmlgemgiaaH9
namespace Go.Proofs.Ytaocopmlgemgiaa
set_option linter.unusedVariables false
set_option linter.unusedSimpArgs false
open Go.RowKit Go.Sort

theorem Box3.only {w w' : World} {q p : Nat} {x y z : Int} (B : Box3 w q x y z) (h : OnlyP w w' p) (hq : q ≠ p) : Box3 w' q x y z :=
  ⟨only_cell h hq B.c0, only_cell h hq B.c1, only_cell h hq B.c2, only_frozen h hq B.lt B.f0, only_frozen h hq B.lt B.f1, only_frozen h hq B.lt B.f2⟩
theorem Box4.only {w w' : World} {q p : Nat} {x y z u : Int} (B : Box4 w q x y z u) (h : OnlyP w w' p) (hq : q ≠ p) : Box4 w' q x y z u :=
  ⟨only_cell h hq B.c0, only_cell h hq B.c1, only_cell h hq B.c2, only_cell h hq B.c3, only_frozen h hq B.lt B.f0, only_frozen h hq B.lt B.f1, only_frozen h hq B.lt B.f2, only_frozen h hq B.lt B.f3⟩
theorem DiceAt.set3 {w : World} {p g : Nat} {a : Option Addr} {cap n : Nat} {xs : Nat → Int} {k : Nat} (D : DiceAt w p g a cap n xs k) {q : Nat} (hp : q ≠ p) (hg : q ≠ g) (x y z : Int) : DiceAt (Go.Proofs.Ytaocopmlgemgiaa.set3 w q x y z) p g a cap n xs k :=
  ((D.setFar hp hg _ _).setFar hp hg _ _).setFar hp hg _ _
theorem DiceAt.set4 {w : World} {p g : Nat} {a : Option Addr} {cap n : Nat} {xs : Nat → Int} {k : Nat} (D : DiceAt w p g a cap n xs k) {q : Nat} (hp : q ≠ p) (hg : q ≠ g) (x y z u : Int) : DiceAt (Go.Proofs.Ytaocopmlgemgiaa.set4 w q x y z u) p g a cap n xs k :=
  (D.set3 hp hg x y z).setFar hp hg _ _

/-- Dice, a patience, a move, a roam. -/
structure RS (w wr : World) (p g : Nat) (a : Option Addr) (cap n : Nat) (xs : Nat → Int) (k zP zM zX : Nat) (pa po pr ph ot si ph' ce ta si' : Int) : Prop where
  d : DiceAt wr p g a cap n xs k
  P : Box3 wr zP pa po pr
  M : Box3 wr zM ph ot si
  X : Box4 wr zX ph' ce ta si'
  bel : Below w.heap.size w wr
  lo : w.heap.size ≤ p ∧ w.heap.size ≤ zM ∧ w.heap.size ≤ zX
  ne : zP ≠ p ∧ zM ≠ p ∧ zX ≠ p ∧ zM ≠ g ∧ zX ≠ g ∧ zM ≠ zP ∧ zX ≠ zP ∧ zM ≠ zX
section
variable {w wr w' : World} {p g : Nat} {a : Option Addr} {cap n : Nat} {xs : Nat → Int} {k zP zM zX : Nat} {pa po pr ph ot si ph' ce ta si' : Int}
theorem RS.mono (S : RS w wr p g a cap n xs k zP zM zX pa po pr ph ot si ph' ce ta si') (hb : Below wr.heap.size wr w') : RS w w' p g a cap n xs k zP zM zX pa po pr ph ot si ph' ce ta si' :=
  ⟨S.d.mono hb, S.P.mono hb, S.M.mono hb, S.X.mono hb, bthen S.bel hb S.bel.size, S.lo, S.ne⟩
theorem RS.only (S : RS w wr p g a cap n xs k zP zM zX pa po pr ph ot si ph' ce ta si') {k' : Nat} (hd : DiceAt w' p g a cap n xs k') (h : OnlyP wr w' p) : RS w w' p g a cap n xs k' zP zM zX pa po pr ph ot si ph' ce ta si' :=
  ⟨hd, S.P.only h S.ne.1, S.M.only h S.ne.2.1, S.X.only h S.ne.2.2.1, S.bel.trans (only_below h S.lo.1 S.bel.size), S.lo, S.ne⟩
theorem RS.setM (S : RS w wr p g a cap n xs k zP zM zX pa po pr ph ot si ph' ce ta si') (x y z : Int) : RS w (set3 wr zM x y z) p g a cap n xs k zP zM zX pa po pr x y z ph' ce ta si' :=
  ⟨S.d.set3 S.ne.2.1 S.ne.2.2.2.1 x y z, S.P.far S.ne.2.2.2.2.2.1 x y z, S.M.set x y z, S.X.far3 S.ne.2.2.2.2.2.2.2 x y z, below_set3 S.bel S.lo.2.1 x y z, S.lo, S.ne⟩
theorem RS.setX (S : RS w wr p g a cap n xs k zP zM zX pa po pr ph ot si ph' ce ta si') (x y z u : Int) : RS w (set4 wr zX x y z u) p g a cap n xs k zP zM zX pa po pr ph ot si x y z u :=
  ⟨S.d.set4 S.ne.2.2.1 S.ne.2.2.2.2.1 x y z u, S.P.far4 S.ne.2.2.2.2.2.2.1 x y z u, S.M.far4 (Ne.symm S.ne.2.2.2.2.2.2.2) x y z u, S.X.set x y z u, below_set4 S.bel S.lo.2.2 x y z u, S.lo, S.ne⟩
end
theorem stS_ph (a o r ph ot si ev ar ti : Int) (h : 0 ≤ ph ∧ ph ≤ 3) : 0 ≤ (stS a o r ph ot si ev ar ti).1 ∧ (stS a o r ph ot si ev ar ti).1 ≤ 3 := by
  unfold stS
  repeat' split
  all_goals (dsimp only; omega)
theorem teS_ph (a o r ph ce ta si ev ar ti : Int) (h : 0 ≤ ph ∧ ph ≤ 2) : 0 ≤ (teS a o r ph ce ta si ev ar ti).1 ∧ (teS a o r ph ce ta si ev ar ti).1 ≤ 2 := by
  unfold teS
  repeat' split
  all_goals (dsimp only; omega)
end Go.Proofs.Ytaocopmlgemgiaa
