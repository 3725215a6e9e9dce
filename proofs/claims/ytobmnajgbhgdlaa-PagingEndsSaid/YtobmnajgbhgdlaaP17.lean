/- Layer 36: pagers in boxes, beside a map. -/
import Derived.Test.YtobmnajgbhgdlaaP15
import Derived.Test.YtobmnajgbhgdlaaP16
import Derived.Test.YtobmnajgbhgdlaaIntMap
namespace Go.Proofs.Ytobmnajgbhgdlaa
set_option linter.unusedVariables false
set_option linter.unusedSimpArgs false
open Go.RowKit Go.Sort

/-- A box that holds a pager with these pages. -/
structure PB (w : World) (B : Nat) (cy mo tr : Int) (a : Option Addr) (c : Nat) (L : List Pg) : Prop where
  x : Bx w B cy mo tr (.slice a L.length c)
  r : R3 w a L.length (pI L) (pS L) (pC L)
  k : CapOk L.length c
  n : a = none → L.length = 0
section
variable {w w' : World} {B D : Nat} {cy mo tr cy' mo' tr' : Int} {a a1 : Option Addr} {c c1 : Nat} {L P : List Pg}
theorem PB.mono (h : PB w B cy mo tr a c L) (hb : Below w.heap.size w w') : PB w' B cy mo tr a c L := ⟨h.x.mono hb, h.r.mono hb, h.k, h.n⟩
theorem PB.nv (h : PB w B cy mo tr a c L) : ∀ y, (Value.slice a L.length c) ≠ .int .i64 y := fun y e => by cases e
theorem PB.re (h : PB w B cy mo tr a c L) (r : R3 w a1 P.length (pI P) (pS P) (pC P)) (k : CapOk P.length c1) (n : a1 = none → P.length = 0) : PB (rebox w B cy mo tr (.slice a1 P.length c1)) B cy mo tr a1 c1 P :=
  ⟨h.x.re _, h.x.r3 h.nv _ r, k, n⟩
theorem Bx.other' {W : World} {B D : Nat} {cy mo tr cy' mo' tr' : Int} {v' : Value} (h : Bx W D cy mo tr v') (hne : B ≠ D) (u : Value) : Bx (rebox W B cy' mo' tr' u) D cy mo tr v' := by
  have k : ∀ o : Nat, (rebox W B cy' mo' tr' u).cell? ⟨D, o, none⟩ = W.cell? ⟨D, o, none⟩ := fun o => by
    unfold rebox
    rw [cell_set, if_neg (by simp [hne]), cell_set, if_neg (by simp [hne]), cell_set, if_neg (by simp [hne]), cell_set, if_neg (by simp [hne])]
  refine ⟨(k 0).trans h.c0, (k 1).trans h.c1, (k 2).trans h.c2, (k 3).trans h.c3, fun o => ?_⟩
  unfold rebox
  rw [World.frozen?_setCell, World.frozen?_setCell, World.frozen?_setCell, World.frozen?_setCell]
  exact h.f o
theorem PB.other (h : PB w D cy mo tr a c L) (hB : PB w B cy' mo' tr' a1 c1 P) (hne : B ≠ D) (u : Value) : PB (rebox w B cy' mo' tr' u) D cy mo tr a c L :=
  ⟨h.x.other' hne u, hB.x.r3 hB.nv u h.r, h.k, h.n⟩
theorem PB.new (w : World) (cy mo tr : Int) (r : R3 w a L.length (pI L) (pS L) (pC L)) (k : CapOk L.length c) (n : a = none → L.length = 0) : PB (w.alloc (.cells #[.int .i64 cy, .int .i64 mo, .int .i64 tr, .slice a L.length c] 25)) w.heap.size cy mo tr a c L :=
  ⟨Bx.new _ _ _ _ _, r.mono (blA _ _), k, n⟩
theorem map_far {b n o : Nat} {M : Int → Option Value} {z : Nat} {v : Value} (h : MapAt w b n M) (hg : w.grownBy w' (some b)) (hc : w.cell? ⟨z, o, none⟩ = some v) : w'.cell? ⟨z, o, none⟩ = some v := by
  have hne : z ≠ b := fun e => h.no_cell (e ▸ hc)
  rw [World.cell?_of_block (hg.block z (lt_of_cell hc) (by simpa using hne))]; exact hc
theorem R3.map {b n m : Nat} {M : Int → Option Value} {I S C : Nat → Int} (H : R3 w a m I S C) (h : MapAt w b n M) (hg : w.grownBy w' (some b)) : R3 w' a m I S C := by
  obtain ⟨z, o, h1, h2⟩ := H
  exact ⟨z, o, h1, fun k hk => ⟨map_far h hg (h2 k hk).1, map_far h hg (h2 k hk).2.1, map_far h hg (h2 k hk).2.2⟩⟩
theorem Row.map {b n m : Nat} {M : Int → Option Value} {xs : Nat → Int} (H : Row w a m xs) (h : MapAt w b n M) (hg : w.grownBy w' (some b)) : Row w' a m xs := by
  obtain ⟨z, o, h1, h2⟩ := H
  exact ⟨z, o, h1, fun k hk => map_far h hg (h2 k hk)⟩
theorem Bx.map {b n : Nat} {M : Int → Option Value} {v : Value} (H : Bx w B cy mo tr v) (h : MapAt w b n M) (hg : w.grownBy w' (some b)) : Bx w' B cy mo tr v := by
  have hne : B ≠ b := fun e => h.no_cell (e ▸ H.c0)
  exact ⟨map_far h hg H.c0, map_far h hg H.c1, map_far h hg H.c2, map_far h hg H.c3, fun o => by
    rw [World.frozen?_of_block (hg.block B H.lt (by simpa using hne))]; exact H.f o⟩
theorem PB.map {b n : Nat} {M : Int → Option Value} (H : PB w B cy mo tr a c L) (h : MapAt w b n M) (hg : w.grownBy w' (some b)) : PB w' B cy mo tr a c L :=
  ⟨H.x.map h hg, H.r.map h hg, H.k, H.n⟩
theorem MapAt.rebox {b n : Nat} {M : Int → Option Value} {u : Value} (h : MapAt w b n M) (hne : B ≠ b) : MapAt (rebox w B cy mo tr u) b n M :=
  (((h.setCell (o := 0) hne).setCell (o := 1) hne).setCell (o := 2) hne).setCell (o := 3) hne
theorem below_map {b : Nat} {w0 : World} (h : Below w0.heap.size w0 w) (hg : w.grownBy w' (some b)) (hb : w0.heap.size ≤ b) : Below w0.heap.size w0 w' :=
  h.grown hg h.size (fun k hk => by cases hk; exact hb)
end
end Go.Proofs.Ytobmnajgbhgdlaa
