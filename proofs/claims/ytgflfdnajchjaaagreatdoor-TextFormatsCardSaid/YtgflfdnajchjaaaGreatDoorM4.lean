/- Layer 45: a network that dice make, in memory. -/
import Derived.Test.YtgflfdnajchjaaaGreatDoorM3
import Derived.Test.YtgflfdnajchjaaaGreatDoorRowM
namespace Go.Proofs.YtgflfdnajchjaaaGreatDoor
set_option linter.unusedVariables false
set_option linter.unusedSimpArgs false
open Go.RowKit Go.Sort
open Tm
/-- What lies below C, but for the dice, stays. -/
structure LowP (C p : Nat) (w w' : World) : Prop where
  os : w'.os = w.os
  tape : w'.tape = w.tape
  output : w'.output = w.output
  size : w.heap.size ≤ w'.heap.size
  block : ∀ i, i < C → i ≠ p → w'.heap[i]? = w.heap[i]?
theorem LowP.refl (C p : Nat) (w : World) : LowP C p w w := ⟨rfl, rfl, rfl, Nat.le_refl _, fun _ _ _ => rfl⟩
theorem LowP.trans {C p : Nat} {a b c : World} (h : LowP C p a b) (k : LowP C p b c) : LowP C p a c :=
  ⟨k.os.trans h.os, k.tape.trans h.tape, k.output.trans h.output, Nat.le_trans h.size k.size, fun i hi hp => (k.block i hi hp).trans (h.block i hi hp)⟩
theorem LowP.of {C p : Nat} {a b : World} (h : OnlyP a b p) (hC : C ≤ a.heap.size) : LowP C p a b :=
  ⟨h.os, h.tape, h.output, h.size, fun i hi hp => h.block i (by omega) (by simpa using hp)⟩
theorem LowP.only {p : Nat} {a b : World} (h : LowP a.heap.size p a b) : OnlyP a b p :=
  ⟨h.os, h.tape, h.output, h.size, fun i hi hp => h.block i hi (by simpa using hp)⟩
theorem LowP.mono {C C' p : Nat} {a b : World} (h : LowP C p a b) (hC : C' ≤ C) : LowP C' p a b := ⟨h.os, h.tape, h.output, h.size, fun i hi hp => h.block i (by omega) hp⟩
theorem LowP.set {C p q o : Nat} {a b : World} {v : Value} (h : LowP C p a b) (hq : C ≤ q) : LowP C p a (b.setCell ⟨q, o, none⟩ v) :=
  ⟨h.os, h.tape, h.output, Nat.le_trans h.size (by simp [World.setCell]), fun i hi hp => (Below.heap_setCell _ _ _ _ (by show i ≠ q; omega)).trans (h.block i hi hp)⟩
theorem LowP.grown {C p : Nat} {a b c : World} {r : Option Nat} (h : LowP C p a b) (hC : C ≤ b.heap.size) (hg : b.grownBy c r) (hr : ∀ g, r = some g → C ≤ g) : LowP C p a c :=
  ⟨hg.os.trans h.os, hg.tape.trans h.tape, hg.output.trans h.output, Nat.le_trans h.size hg.size, fun i hi hp => (hg.block i (by omega) (fun e => by have := hr i e.symm; omega)).trans (h.block i hi hp)⟩
theorem DiceS.low {w w' : World} {p B C : Nat} (D : DiceS w p B) (hg : ∀ i, i < C → w'.heap[i]? = w.heap[i]?) (hs : w.heap.size ≤ w'.heap.size) (ho : w'.os = w.os) (ht : w'.tape = w.tape) (hu : w'.output = w.output) (hC : B ≤ C) : DiceS w' p B := D.mono (C := C) ⟨ho, ht, hu, hs, hg⟩ hC
/-- A network's rows, each in a block of its own. -/
structure CfRw (w : World) (B : Nat) (c : Cf) (X : Nat → Ch.Fd) (T : Nat → Te) : Prop where
  f : w.ownsRow B 86 5 (.slice c.fa c.fn c.fc) c.fn ((List.range (c.fn * 5)).map (fdv X))
  t : w.ownsRow B 57 14 (.slice c.ta c.tn c.tc) c.tn ((List.range (c.tn * 14)).map (tev' T))
  b : ∀ k, k < c.tn → w.ownsRow B 71 11 (bV (T k)) (T k).bn ((List.range ((T k).bn * 11)).map (bev' (T k).be))
  u : ∀ k, k < c.tn → w.ownsRow B 74 4 (kV (T k)) (T k).kn ((List.range ((T k).kn * 4)).map (buv (T k).P (T k).R (T k).M (T k).T))
structure CfW (w : World) (B z : Nat) (c : Cf) (X : Nat → Ch.Fd) (T : Nat → Te) : Prop extends CfRw w B c X T where
  hz : w.heap[z]? = some (.cells (cfs c).toArray 37 (0, 0))
  bz : B ≤ z
section
variable {w w' : World} {B z p : Nat} {c : Cf} {X : Nat → Ch.Fd} {T : Nat → Te}
theorem own_only' {e s n : Nat} {v : Value} {xs : List Value} (h : w.ownsRow B e s v n xs) (ho : OnlyP w w' p) (hp : p < B) : w'.ownsRow B e s v n xs := own_kept h fun g hg => only_block ho (by have := (h.lt g hg).1; omega) (h.lt g hg).2
theorem CfRw.only (K : CfRw w B c X T) (ho : OnlyP w w' p) (hp : p < B) : CfRw w' B c X T := ⟨own_only' K.f ho hp, own_only' K.t ho hp, fun k hk => own_only' (K.b k hk) ho hp, fun k hk => own_only' (K.u k hk) ho hp⟩
theorem CfW.only (K : CfW w B z c X T) (ho : OnlyP w w' p) (hp : p < B) : CfW w' B z c X T := ⟨K.toCfRw.only ho hp, only_box ho (by have := K.bz; omega) K.hz, K.bz⟩
theorem CfRw.cfIn (K : CfRw w B c X T) : CfIn w c X T := by
  have hf : ∀ {e s n : Nat} {v : Value} {xs : List Value}, w.ownsRow B e s v n xs → n ≤ maxLen := fun h => by
    obtain ⟨a, c, -, h1, h2, -⟩ := own_slice h
    omega
  refine ⟨?_, ?_, hf K.f, hf K.t⟩
  · obtain ⟨a, cc, b, e, hc, hp, hcell⟩ := own_cellsK K.f
    injection e with e1 e2 e3
    subst e1
    refine ⟨b, 0, fun h => (hp h).1, fun k hk => ?_⟩
    have g : ∀ i, i < 5 → w.cell? ⟨b, 0 + k * 5 + i, none⟩ = some (.int .i64 ((fdL (X k)).getD i 0)) := fun i hi => by
      rw [Nat.zero_add, ← fdv_at X k i hi]
      exact hcell _ (by omega)
    exact ⟨g 0 (by omega), g 1 (by omega), g 2 (by omega), g 3 (by omega), g 4 (by omega)⟩
  · obtain ⟨a, cc, b, e, hc, hp, hcell⟩ := own_cellsK K.t
    injection e with e1 e2 e3
    subst e1
    refine ⟨b, 0, fun h => (hp h).1, fun k hk => ⟨fun j hj => ?_, ?_, ?_, hf (K.b k hk), hf (K.u k hk)⟩⟩
    · rw [Nat.zero_add, ← tev_at T k j hj]
      exact hcell _ (by omega)
    · obtain ⟨a, cc, b, e, hc, hp, hcell⟩ := own_cellsK (K.b k hk)
      injection e with e1 e2 e3
      subst e1
      refine ⟨b, 0, fun h => (hp h).1, fun j hj => ?_⟩
      have g : ∀ i, i < 11 → w.cell? ⟨b, 0 + j * 11 + i, none⟩ = some (.int .i64 ((be11 ((T k).be j)).getD i 0)) := fun i hi => by
        rw [Nat.zero_add, ← bev_at (T k).be j i hi]
        exact hcell _ (by omega)
      exact ⟨g 0 (by omega), g 1 (by omega), g 2 (by omega), g 3 (by omega), g 4 (by omega), g 5 (by omega), g 6 (by omega), g 7 (by omega), g 8 (by omega), g 9 (by omega), g 10 (by omega)⟩
    · obtain ⟨a, cc, b, e, hc, hp, hcell⟩ := own_cellsK (K.u k hk)
      injection e with e1 e2 e3
      subst e1
      refine ⟨b, 0, fun h => (hp h).1, fun j hj => ?_⟩
      have g : ∀ i, i < 4 → w.cell? ⟨b, 0 + j * 4 + i, none⟩ = some (.int .i64 ([(T k).P j, (T k).R j, (T k).M j, (T k).T j].getD i 0)) := fun i hi => by
        rw [Nat.zero_add, ← buv_at _ _ _ _ j i hi]
        exact hcell _ (by omega)
      exact ⟨g 0 (by omega), g 1 (by omega), g 2 (by omega), g 3 (by omega)⟩
theorem cfs_setF (c : Cf) (a : Option Addr) (n cc : Nat) : (cfs c).toArray.setIfInBounds 18 (.slice a n cc) = (cfs { c with fa := a, fn := n, fc := cc }).toArray := rfl
theorem cfs_setT (c : Cf) (a : Option Addr) (n cc : Nat) : (cfs c).toArray.setIfInBounds 19 (.slice a n cc) = (cfs { c with ta := a, tn := n, tc := cc }).toArray := rfl
/-- Fades are put to a network. -/
theorem CfW.addF (K : CfW w B z c X T) {w1 : World} {a' : Option Addr} {n' c' : Nat} {X' : Nat → Ch.Fd}
    (h : w1.ownsRow B 86 5 (.slice a' n' c') n' ((List.range (n' * 5)).map (fdv X'))) (hg : w.grownBy w1 (Value.slice c.fa c.fn c.fc).ownBlock) :
    CfW (w1.setCell ⟨z, 18, none⟩ (.slice a' n' c')) B z { c with fa := a', fn := n', fc := c' } X' T := by
  have hz1 : w1.heap[z]? = some (.cells (cfs c).toArray 37 (0, 0)) := (hg.block z (heap_lt K.hz) (fun e => own_ne K.f K.hz (by decide) e.symm rfl)).trans K.hz
  have oth : ∀ {e' s' m' : Nat} {v' : Value} {xs' : List Value}, w.ownsRow B e' s' v' m' xs' → e' ≠ 86 → e' ≠ 37 → (w1.setCell ⟨z, 18, none⟩ (.slice a' n' c')).ownsRow B e' s' v' m' xs' := fun h' hne hz' =>
    own_kept h' fun g hg' => by
      rw [heap_set_other _ (own_ne h' K.hz hz' hg')]
      exact hg.block g (h'.lt g hg').2 (fun e => own_apart h' K.f hne hg' e.symm)
  exact ⟨⟨own_kept h fun g hg' => heap_set_other _ (own_ne h hz1 (by decide) hg'), oth K.t (by decide) (by decide), fun k hk => oth (K.b k hk) (by decide) (by decide), fun k hk => oth (K.u k hk) (by decide) (by decide)⟩, by rw [heap_set_same hz1]; rfl, K.bz⟩
/-- A terminal is put to a network. -/
theorem CfW.addT (K : CfW w B z c X T) {w1 : World} {a' : Option Addr} {c' : Nat} {T' : Nat → Te} (hT : ∀ k, k < c.tn → T' k = T k)
    (hb : w.ownsRow B 71 11 (bV (T' c.tn)) (T' c.tn).bn ((List.range ((T' c.tn).bn * 11)).map (bev' (T' c.tn).be)))
    (hk : w.ownsRow B 74 4 (kV (T' c.tn)) (T' c.tn).kn ((List.range ((T' c.tn).kn * 4)).map (buv (T' c.tn).P (T' c.tn).R (T' c.tn).M (T' c.tn).T)))
    (h : w1.ownsRow B 57 14 (.slice a' (c.tn + 1) c') (c.tn + 1) ((List.range ((c.tn + 1) * 14)).map (tev' T'))) (hg : w.grownBy w1 (Value.slice c.ta c.tn c.tc).ownBlock) :
    CfW (w1.setCell ⟨z, 19, none⟩ (.slice a' (c.tn + 1) c')) B z { c with ta := a', tn := c.tn + 1, tc := c' } X T' := by
  have hz1 : w1.heap[z]? = some (.cells (cfs c).toArray 37 (0, 0)) := (hg.block z (heap_lt K.hz) (fun e => own_ne K.t K.hz (by decide) e.symm rfl)).trans K.hz
  have oth : ∀ {e' s' m' : Nat} {v' : Value} {xs' : List Value}, w.ownsRow B e' s' v' m' xs' → e' ≠ 57 → e' ≠ 37 → (w1.setCell ⟨z, 19, none⟩ (.slice a' (c.tn + 1) c')).ownsRow B e' s' v' m' xs' := fun h' hne hz' =>
    own_kept h' fun g hg' => by
      rw [heap_set_other _ (own_ne h' K.hz hz' hg')]
      exact hg.block g (h'.lt g hg').2 (fun e => own_apart h' K.t hne hg' e.symm)
  refine ⟨⟨oth K.f (by decide) (by decide), own_kept h fun g hg' => heap_set_other _ (own_ne h hz1 (by decide) hg'), fun k hk' => ?_, fun k hk' => ?_⟩, by rw [heap_set_same hz1]; rfl, K.bz⟩
  · by_cases hkn : k < c.tn
    · rw [hT k hkn]; exact oth (K.b k hkn) (by decide) (by decide)
    · obtain rfl : k = c.tn := by have : k < c.tn + 1 := hk'; omega
      exact oth hb (by decide) (by decide)
  · by_cases hkn : k < c.tn
    · rw [hT k hkn]; exact oth (K.u k hkn) (by decide) (by decide)
    · obtain rfl : k = c.tn := by have : k < c.tn + 1 := hk'; omega
      exact oth hk (by decide) (by decide)
end
/-! ### The bounds -/
structure HdB (c : Cf) : Prop where
  b0 : 0 ≤ c.h 0 ∧ c.h 0 ≤ 999
  b1 : 1 ≤ c.h 1 ∧ c.h 1 ≤ 3
  b2 : 6 ≤ c.h 2 ∧ c.h 2 ≤ 12
  b3 : 1 ≤ c.h 3 ∧ c.h 3 ≤ 5
  b4 : 1 ≤ c.h 4 ∧ c.h 4 ≤ 5
  b5 : 1 ≤ c.h 5 ∧ c.h 5 ≤ 4
  b6 : 1 ≤ c.h 6 ∧ c.h 6 ≤ 4
  b7 : 1 ≤ c.h 7 ∧ c.h 7 ≤ 4
  b8 : 0 ≤ c.h 8 ∧ c.h 8 ≤ 4
  b9 : 4 ≤ c.h 9 ∧ c.h 9 ≤ 23
  b10 : 2 ≤ c.h 10 ∧ c.h 10 ≤ 10
  b11 : 2 ≤ c.h 11 ∧ c.h 11 ≤ 10
  b12 : 0 ≤ c.h 12 ∧ c.h 12 ≤ 2
  b13 : 0 ≤ c.h 13 ∧ c.h 13 ≤ 1
  b14 : 1 ≤ c.h 14 ∧ c.h 14 ≤ 4
  b15 : c.h 15 = 0
  b16 : 1 ≤ c.h 16 ∧ c.h 16 ≤ 3
  b17 : 4 ≤ c.h 17 ∧ c.h 17 ≤ 23
/-- A terminal's numbers, but for its bearers. -/
structure TeB0 (m : Int) (t : Te) : Prop where
  cl : 0 ≤ t.cl ∧ t.cl < m
  cs : 0 ≤ t.cs ∧ t.cs ≤ 1
  bt : 500 ≤ t.bt ∧ t.bt ≤ 5499
  fr : t.fr = 0
  wd : 1 ≤ t.wd ∧ t.wd ≤ 9
  bk : 0 ≤ t.bk ∧ t.bk ≤ 3
  ry : t.cy = 1 ∧ t.on' = 1 ∧ t.li = 0 ∨ 4 ≤ t.cy ∧ t.cy ≤ 11 ∧ 1 ≤ t.on' ∧ t.on' ≤ 3 ∧ 0 ≤ t.li ∧ t.li ≤ 3
  z : t.of' = 0 ∧ t.sh = 0 ∧ t.ss = 0
structure BeB (t : Te) (n : Nat) : Prop where
  b : ∀ j, j < n → ∃ mo, (mo = 1 ∨ mo = 2) ∧ SideB mo (t.be j)
  k : ∀ j, j < n → (0 ≤ t.P j ∧ t.P j ≤ 2) ∧ (0 ≤ t.R j ∧ t.R j ≤ 39) ∧ t.M j = 80 ∧ t.T j = 0
structure TeB (m : Int) (t : Te) : Prop extends TeB0 m t where
  n : 1 ≤ t.bn ∧ t.bn ≤ 2
  e : t.kn = t.bn
  bb : BeB t t.bn
def FdB' (tn m : Int) (x : Ch.Fd) : Prop := 0 ≤ x.t ∧ x.t < tn ∧ 0 ≤ x.c ∧ x.c < m ∧ 0 ≤ x.f ∧ x.f ≤ 400 ∧ 0 ≤ x.g ∧ x.g ≤ 40 ∧ 0 ≤ x.n ∧ x.n ≤ 60
structure CfB (c : Cf) (X : Nat → Ch.Fd) (T : Nat → Te) (i : Nat) : Prop where
  h : HdB c
  tn : c.tn = i
  fn : c.fn ≤ 60 * i
  t : ∀ k, k < c.tn → TeB (c.h 1) (T k)
  f : ∀ k, k < c.fn → FdB' c.tn (c.h 1) (X k)
end Go.Proofs.YtgflfdnajchjaaaGreatDoor
