import Derived.Test.YtgflfdnajchjaaaGreatDoorRR
import Derived.Test.YtgflfdnajchjaaaGreatDoorPB
import Derived.Test.YtgflfdnajchjaaaGreatDoorPR
set_option linter.unusedVariables false
set_option linter.unusedSimpArgs false
namespace Go.Proofs.YtgflfdnajchjaaaGreatDoor
open Go.Lib (hid)
open Go.RowKit
section
open Go.RowKit Go.Sort
open Tm
structure LowP (C p : Nat) (w w' : World) : Prop where
 os : w'.os = w.os
 tape : w'.tape = w.tape
 output : w'.output = w.output
 size : w.heap.size ≤ w'.heap.size
 block : ∀ i, i < C → i ≠ p → w'.heap[i]? = w.heap[i]?
theorem LowP.refl (C p : Nat) (w : World) : LowP C p w w := ⟨rfl, rfl, rfl, Nat.le_refl _, fun _ _ _ => rfl⟩
theorem LowP.trans {C p : Nat} {a b c : World} (h : LowP C p a b) (k : LowP C p b c) : LowP C p a c :=
 ⟨k.os.trans h.os, k.tape.trans h.tape, k.output.trans h.output, Nat.le_trans h.size k.size, fun i hi hp => (k.block i hi hp).trans (h.block i hi hp)⟩
theorem LowP.of {C p : Nat} {a b : World} (h : OnlyP a b p) (hC : C ≤ a.heap.size) : LowP C p a b :=
 ⟨h.os, h.tape, h.output, h.size, fun i hi hp => h.block i (by omega) (by simpa using hp)⟩
theorem LowP.only {p : Nat} {a b : World} (h : LowP a.heap.size p a b) : OnlyP a b p :=
 ⟨h.os, h.tape, h.output, h.size, fun i hi hp => h.block i hi (by simpa using hp)⟩
theorem LowP.mono {C C' p : Nat} {a b : World} (h : LowP C p a b) (hC : C' ≤ C) : LowP C' p a b := ⟨h.os, h.tape, h.output, h.size, fun i hi hp => h.block i (by omega) hp⟩
theorem LowP.set {C p q o : Nat} {a b : World} {v : Value} (h : LowP C p a b) (hq : C ≤ q) : LowP C p a (b.setCell ⟨q, o, none⟩ v) :=
 ⟨h.os, h.tape, h.output, Nat.le_trans h.size (by simp [World.setCell]), fun i hi hp => (Below.heap_setCell _ _ _ _ (by show i ≠ q; omega)).trans (h.block i hi hp)⟩
theorem LowP.grown {C p : Nat} {a b c : World} {r : Option Nat} (h : LowP C p a b) (hC : C ≤ b.heap.size) (hg : b.grownBy c r) (hr : ∀ g, r = some g → C ≤ g) : LowP C p a c :=
 ⟨hg.os.trans h.os, hg.tape.trans h.tape, hg.output.trans h.output, Nat.le_trans h.size hg.size, fun i hi hp => (hg.block i (by omega) (fun e => by have := hr i e.symm; omega)).trans (h.block i hi hp)⟩
structure CfRw (w : World) (B : Nat) (c : Cf) (X : Nat → Ch.Fd) (T : Nat → Te) : Prop where
 f : w.ownsRow B 86 5 (.slice c.fa c.fn c.fc) c.fn ((List.range (c.fn * 5)).map (fdv X))
 t : w.ownsRow B 57 14 (.slice c.ta c.tn c.tc) c.tn ((List.range (c.tn * 14)).map (tev' T))
 b : ∀ k, k < c.tn → w.ownsRow B 71 11 (bV (T k)) (T k).bn ((List.range ((T k).bn * 11)).map (bev' (T k).be))
 u : ∀ k, k < c.tn → w.ownsRow B 74 4 (kV (T k)) (T k).kn ((List.range ((T k).kn * 4)).map (buv (T k).P (T k).R (T k).M (T k).T))
structure CfW (w : World) (B z : Nat) (c : Cf) (X : Nat → Ch.Fd) (T : Nat → Te) : Prop extends CfRw w B c X T where
 hz : w.heap[z]? = some (.cells (cfs c).toArray 37 (0, 0))
 bz : B ≤ z
section
variable {w w' : World} {B z p : Nat} {c : Cf} {X : Nat → Ch.Fd} {T : Nat → Te}
theorem own_only' {e s n : Nat} {v : Value} {xs : List Value} (h : w.ownsRow B e s v n xs) (ho : OnlyP w w' p) (hp : p < B) : w'.ownsRow B e s v n xs := own_kept h fun g hg => only_block ho (by have := (h.lt g hg).1; omega) (h.lt g hg).2
theorem CfRw.only (K : CfRw w B c X T) (ho : OnlyP w w' p) (hp : p < B) : CfRw w' B c X T := ⟨own_only' K.f ho hp, own_only' K.t ho hp, fun k hk => own_only' (K.b k hk) ho hp, fun k hk => own_only' (K.u k hk) ho hp⟩
theorem CfW.only (K : CfW w B z c X T) (ho : OnlyP w w' p) (hp : p < B) : CfW w' B z c X T := ⟨K.toCfRw.only ho hp, only_box ho (by have := K.bz; omega) K.hz, K.bz⟩
theorem CfRw.cfIn (K : CfRw w B c X T) : CfIn w c X T := by
 have hf : ∀ {e s n : Nat} {v : Value} {xs : List Value}, w.ownsRow B e s v n xs → n ≤ maxLen := fun h => by
  obtain ⟨a, c, -, h1, h2, -⟩ := own_slice h;omega
 refine ⟨?_, ?_, hf K.f, hf K.t⟩
 · obtain ⟨a, cc, b, e, hc, hp, hcell⟩ := own_cellsK K.f;injection e with e1 e2 e3
   subst e1;refine ⟨b, 0, fun h => (hp h).1, fun k hk => ?_⟩
   have g : ∀ i, i < 5 → w.cell? ⟨b, 0 + k * 5 + i, none⟩ = some (.int .i64 ((fdL (X k)).getD i 0)) := fun i hi => by
    rw [Nat.zero_add, ← fdv_at X k i hi];exact hcell _ (by omega)
   exact ⟨g 0 (by omega), g 1 (by omega), g 2 (by omega), g 3 (by omega), g 4 (by omega)⟩
 · obtain ⟨a, cc, b, e, hc, hp, hcell⟩ := own_cellsK K.t;injection e with e1 e2 e3
   subst e1;refine ⟨b, 0, fun h => (hp h).1, fun k hk => ⟨fun j hj => ?_, ?_, ?_, hf (K.b k hk), hf (K.u k hk)⟩⟩
   · rw [Nat.zero_add, ← tev_at T k j hj];exact hcell _ (by omega)
   · obtain ⟨a, cc, b, e, hc, hp, hcell⟩ := own_cellsK (K.b k hk);injection e with e1 e2 e3
     subst e1;refine ⟨b, 0, fun h => (hp h).1, fun j hj => ?_⟩
     have g : ∀ i, i < 11 → w.cell? ⟨b, 0 + j * 11 + i, none⟩ = some (.int .i64 ((be11 ((T k).be j)).getD i 0)) := fun i hi => by
      rw [Nat.zero_add, ← bev_at (T k).be j i hi];exact hcell _ (by omega)
     exact ⟨g 0 (by omega), g 1 (by omega), g 2 (by omega), g 3 (by omega), g 4 (by omega), g 5 (by omega), g 6 (by omega), g 7 (by omega), g 8 (by omega), g 9 (by omega), g 10 (by omega)⟩
   · obtain ⟨a, cc, b, e, hc, hp, hcell⟩ := own_cellsK (K.u k hk);injection e with e1 e2 e3
     subst e1;refine ⟨b, 0, fun h => (hp h).1, fun j hj => ?_⟩
     have g : ∀ i, i < 4 → w.cell? ⟨b, 0 + j * 4 + i, none⟩ = some (.int .i64 ([(T k).P j, (T k).R j, (T k).M j, (T k).T j].getD i 0)) := fun i hi => by
      rw [Nat.zero_add, ← buv_at _ _ _ _ j i hi];exact hcell _ (by omega)
     exact ⟨g 0 (by omega), g 1 (by omega), g 2 (by omega), g 3 (by omega)⟩
theorem CfW.addF (K : CfW w B z c X T) {w1 : World} {a' : Option Addr} {n' c' : Nat} {X' : Nat → Ch.Fd}
 (h : w1.ownsRow B 86 5 (.slice a' n' c') n' ((List.range (n' * 5)).map (fdv X'))) (hg : w.grownBy w1 (Value.slice c.fa c.fn c.fc).ownBlock) :
 CfW (w1.setCell ⟨z, 18, none⟩ (.slice a' n' c')) B z { c with fa := a', fn := n', fc := c' } X' T := by
 have hz1 : w1.heap[z]? = some (.cells (cfs c).toArray 37 (0, 0)) := (hg.block z (heap_lt K.hz) (fun e => own_ne K.f K.hz (by decide) e.symm rfl)).trans K.hz
 have oth : ∀ {e' s' m' : Nat} {v' : Value} {xs' : List Value}, w.ownsRow B e' s' v' m' xs' → e' ≠ 86 → e' ≠ 37 → (w1.setCell ⟨z, 18, none⟩ (.slice a' n' c')).ownsRow B e' s' v' m' xs' := fun h' hne hz' =>
  own_kept h' fun g hg' => by
   rw [heap_set_other _ (own_ne h' K.hz hz' hg')];exact hg.block g (h'.lt g hg').2 (fun e => own_apart h' K.f hne hg' e.symm)
 exact ⟨⟨own_kept h fun g hg' => heap_set_other _ (own_ne h hz1 (by decide) hg'), oth K.t (by decide) (by decide), fun k hk => oth (K.b k hk) (by decide) (by decide), fun k hk => oth (K.u k hk) (by decide) (by decide)⟩, by rw [heap_set_same hz1]; rfl, K.bz⟩
theorem CfW.addT (K : CfW w B z c X T) {w1 : World} {a' : Option Addr} {c' : Nat} {T' : Nat → Te} (hT : ∀ k, k < c.tn → T' k = T k)
 (hb : w.ownsRow B 71 11 (bV (T' c.tn)) (T' c.tn).bn ((List.range ((T' c.tn).bn * 11)).map (bev' (T' c.tn).be)))
 (hk : w.ownsRow B 74 4 (kV (T' c.tn)) (T' c.tn).kn ((List.range ((T' c.tn).kn * 4)).map (buv (T' c.tn).P (T' c.tn).R (T' c.tn).M (T' c.tn).T)))
 (h : w1.ownsRow B 57 14 (.slice a' (c.tn + 1) c') (c.tn + 1) ((List.range ((c.tn + 1) * 14)).map (tev' T'))) (hg : w.grownBy w1 (Value.slice c.ta c.tn c.tc).ownBlock) :
 CfW (w1.setCell ⟨z, 19, none⟩ (.slice a' (c.tn + 1) c')) B z { c with ta := a', tn := c.tn + 1, tc := c' } X T' := by
 have hz1 : w1.heap[z]? = some (.cells (cfs c).toArray 37 (0, 0)) := (hg.block z (heap_lt K.hz) (fun e => own_ne K.t K.hz (by decide) e.symm rfl)).trans K.hz
 have oth : ∀ {e' s' m' : Nat} {v' : Value} {xs' : List Value}, w.ownsRow B e' s' v' m' xs' → e' ≠ 57 → e' ≠ 37 → (w1.setCell ⟨z, 19, none⟩ (.slice a' (c.tn + 1) c')).ownsRow B e' s' v' m' xs' := fun h' hne hz' =>
  own_kept h' fun g hg' => by
   rw [heap_set_other _ (own_ne h' K.hz hz' hg')];exact hg.block g (h'.lt g hg').2 (fun e => own_apart h' K.t hne hg' e.symm)
 refine ⟨⟨oth K.f (by decide) (by decide), own_kept h fun g hg' => heap_set_other _ (own_ne h hz1 (by decide) hg'), fun k hk' => ?_, fun k hk' => ?_⟩, by rw [heap_set_same hz1]; rfl, K.bz⟩
 · by_cases hkn : k < c.tn
   · rw [hT k hkn]; exact oth (K.b k hkn) (by decide) (by decide)
   · obtain rfl : k = c.tn := by have : k < c.tn + 1 := hk'; omega
     exact oth hb (by decide) (by decide)
 · by_cases hkn : k < c.tn
   · rw [hT k hkn]; exact oth (K.u k hkn) (by decide) (by decide)
   · obtain rfl : k = c.tn := by have : k < c.tn + 1 := hk'; omega
     exact oth hk (by decide) (by decide)
end
structure HdB (c : Cf) : Prop where
 b0 : 0 ≤ c.h 0 ∧ c.h 0 ≤ 999
 b1 : 1 ≤ c.h 1 ∧ c.h 1 ≤ 3
 b2 : 6 ≤ c.h 2 ∧ c.h 2 ≤ 12
 b3 : 1 ≤ c.h 3 ∧ c.h 3 ≤ 5
 b4 : 1 ≤ c.h 4 ∧ c.h 4 ≤ 5
 b5 : 1 ≤ c.h 5 ∧ c.h 5 ≤ 4
 b6 : 1 ≤ c.h 6 ∧ c.h 6 ≤ 4
 b7 : 1 ≤ c.h 7 ∧ c.h 7 ≤ 4
 b8 : 0 ≤ c.h 8 ∧ c.h 8 ≤ 4
 b9 : 4 ≤ c.h 9 ∧ c.h 9 ≤ 23
 b10 : 2 ≤ c.h 10 ∧ c.h 10 ≤ 10
 b11 : 2 ≤ c.h 11 ∧ c.h 11 ≤ 10
 b12 : 0 ≤ c.h 12 ∧ c.h 12 ≤ 2
 b13 : 0 ≤ c.h 13 ∧ c.h 13 ≤ 1
 b14 : 1 ≤ c.h 14 ∧ c.h 14 ≤ 4
 b15 : c.h 15 = 0
 b16 : 1 ≤ c.h 16 ∧ c.h 16 ≤ 3
 b17 : 4 ≤ c.h 17 ∧ c.h 17 ≤ 23
structure TeB0 (m : Int) (t : Te) : Prop where
 cl : 0 ≤ t.cl ∧ t.cl < m
 cs : 0 ≤ t.cs ∧ t.cs ≤ 1
 bt : 500 ≤ t.bt ∧ t.bt ≤ 5499
 fr : t.fr = 0
 wd : 1 ≤ t.wd ∧ t.wd ≤ 9
 bk : 0 ≤ t.bk ∧ t.bk ≤ 3
 ry : t.cy = 1 ∧ t.on' = 1 ∧ t.li = 0 ∨ 4 ≤ t.cy ∧ t.cy ≤ 11 ∧ 1 ≤ t.on' ∧ t.on' ≤ 3 ∧ 0 ≤ t.li ∧ t.li ≤ 3
 z : t.of' = 0 ∧ t.sh = 0 ∧ t.ss = 0
structure BeB (t : Te) (n : Nat) : Prop where
 b : ∀ j, j < n → ∃ mo, (mo = 1 ∨ mo = 2) ∧ SideB mo (t.be j)
 k : ∀ j, j < n → (0 ≤ t.P j ∧ t.P j ≤ 2) ∧ (0 ≤ t.R j ∧ t.R j ≤ 39) ∧ t.M j = 80 ∧ t.T j = 0
structure TeB (m : Int) (t : Te) : Prop extends TeB0 m t where
 n : 1 ≤ t.bn ∧ t.bn ≤ 2
 e : t.kn = t.bn
 bb : BeB t t.bn
def FdB' (tn m : Int) (x : Ch.Fd) : Prop := 0 ≤ x.t ∧ x.t < tn ∧ 0 ≤ x.c ∧ x.c < m ∧ 0 ≤ x.f ∧ x.f ≤ 400 ∧ 0 ≤ x.g ∧ x.g ≤ 40 ∧ 0 ≤ x.n ∧ x.n ≤ 60
structure CfB (c : Cf) (X : Nat → Ch.Fd) (T : Nat → Te) (i : Nat) : Prop where
 h : HdB c
 tn : c.tn = i
 fn : c.fn ≤ 60 * i
 t : ∀ k, k < c.tn → TeB (c.h 1) (T k)
 f : ∀ k, k < c.fn → FdB' c.tn (c.h 1) (X k)
end
section
open Go.RowKit Go.Sort
open Tm
structure TeW (w0 u : World) (p B zt : Nat) (t : Te) : Prop where
 O : OnlyP w0 u p
 D : DiceS u p B
 zb : u.heap[zt]? = some (.cells (tcs t).toArray 57 (0, 0))
 zl : w0.heap.size ≤ zt
 b : u.ownsRow w0.heap.size 71 11 (bV t) t.bn ((List.range (t.bn * 11)).map (bev' t.be))
 k : u.ownsRow w0.heap.size 74 4 (kV t) t.kn ((List.range (t.kn * 4)).map (buv t.P t.R t.M t.T))
section
variable {w0 u u1 : World} {p B zt : Nat} {t : Te}
theorem TeW.next (S : TeW w0 u p B zt t) (hp : p < w0.heap.size) {w' : World} (ho : OnlyP u w' p) (hd : DiceS w' p B) : TeW w0 w' p B zt t :=
 ⟨only_trans S.O ho, hd, only_box ho (by have := S.zl; omega) S.zb, S.zl, own_only' S.b ho hp, own_only' S.k ho hp⟩
theorem TeW.sets (S : TeW w0 u p B zt t) (hB : B ≤ w0.heap.size) (o : Nat) (vs : List Value) (t' : Te) (hz : (u.setCells zt o vs).heap[zt]? = some (.cells (tcs t').toArray 57 (0, 0))) (hb : bV t' = bV t ∧ t'.bn = t.bn ∧ t'.be = t.be) (hk : kV t' = kV t ∧ t'.kn = t.kn ∧ t'.P = t.P ∧ t'.R = t.R ∧ t'.M = t.M ∧ t'.T = t.T) : TeW w0 (u.setCells zt o vs) p B zt t' := by
 obtain ⟨b1, b2, b3⟩ := hb;obtain ⟨k1, k2, k3, k4, k5, k6⟩ := hk;have hzl := S.zl;refine ⟨only_sets S.O hzl o vs, S.D.sets (by omega) o vs, hz, hzl, ?_, ?_⟩
 · rw [b1, b2, b3];exact own_kept S.b fun g hg => bx_cells_other (own_ne S.b S.zb (by decide) hg) vs o
 · rw [k1, k2, k3, k4, k5, k6];exact own_kept S.k fun g hg => bx_cells_other (own_ne S.k S.zb (by decide) hg) vs o
theorem DiceS.grew {w w' : World} {p B : Nat} {r : Option Nat} (D : DiceS w p B) (hg : w.grownBy w' r) (h : ∀ g, r = some g → B ≤ g) : DiceS w' p B :=
 D.mono ((Below.refl B w).grown hg D.le h) (Nat.le_refl _)
theorem only_grew {w u u' : World} {p : Nat} {r : Option Nat} (O : OnlyP w u p) (hg : u.grownBy u' r) (h : ∀ g, r = some g → w.heap.size ≤ g) : OnlyP w u' p :=
 ⟨hg.os.trans O.os, hg.tape.trans O.tape, hg.output.trans O.output, Nat.le_trans O.size hg.size, fun i hi hne => (hg.block i (Nat.lt_of_lt_of_le hi O.size) (fun e => by have := h i e.symm; omega)).trans (O.block i hi hne)⟩
theorem TeW.addB (S : TeW w0 u p B zt t) (hB : B ≤ w0.heap.size) {a1 : Option Addr} {c1 : Nat} {be : Nat → BeR} (h : u1.ownsRow w0.heap.size 71 11 (.slice a1 (t.bn + 1) c1) (t.bn + 1) ((List.range ((t.bn + 1) * 11)).map (bev' be))) (hg : u.grownBy u1 (bV t).ownBlock) :
 TeW w0 (u1.setCell ⟨zt, 2, none⟩ (.slice a1 (t.bn + 1) c1)) p B zt { t with ba := a1, bn := t.bn + 1, bc := c1, be := be } := by
 have hzl := S.zl;have hz1 : u1.heap[zt]? = some (.cells (tcs t).toArray 57 (0, 0)) := (hg.block zt (heap_lt S.zb) (fun e => own_ne S.b S.zb (by decide) e.symm rfl)).trans S.zb;have hr : ∀ g, (bV t).ownBlock = some g → w0.heap.size ≤ g := fun g hg => (S.b.lt g hg).1
 refine ⟨only_setNew (only_grew S.O hg hr) hzl _ _, (S.D.grew hg fun g h => by have := hr g h; omega).set (by omega), by rw [heap_set_same hz1]; rfl, hzl, own_kept h fun g hg' => heap_set_other _ (own_ne h hz1 (by decide) hg'), ?_⟩
 exact own_kept S.k fun g hg' => by
  rw [heap_set_other _ (own_ne S.k S.zb (by decide) hg')];exact hg.block g (S.k.lt g hg').2 (fun e => own_apart S.k S.b (by decide) hg' e.symm)
theorem TeW.addK (S : TeW w0 u p B zt t) (hB : B ≤ w0.heap.size) {a1 : Option Addr} {c1 : Nat} {P R M T : Nat → Int} (h : u1.ownsRow w0.heap.size 74 4 (.slice a1 (t.kn + 1) c1) (t.kn + 1) ((List.range ((t.kn + 1) * 4)).map (buv P R M T))) (hg : u.grownBy u1 (kV t).ownBlock) :
 TeW w0 (u1.setCell ⟨zt, 3, none⟩ (.slice a1 (t.kn + 1) c1)) p B zt { t with ka := a1, kn := t.kn + 1, kc := c1, P := P, R := R, M := M, T := T } := by
 have hzl := S.zl;have hz1 : u1.heap[zt]? = some (.cells (tcs t).toArray 57 (0, 0)) := (hg.block zt (heap_lt S.zb) (fun e => own_ne S.k S.zb (by decide) e.symm rfl)).trans S.zb;have hr : ∀ g, (kV t).ownBlock = some g → w0.heap.size ≤ g := fun g hg => (S.k.lt g hg).1
 refine ⟨only_setNew (only_grew S.O hg hr) hzl _ _, (S.D.grew hg fun g h => by have := hr g h; omega).set (by omega), by rw [heap_set_same hz1]; rfl, hzl, ?_, own_kept h fun g hg' => heap_set_other _ (own_ne h hz1 (by decide) hg')⟩
 exact own_kept S.b fun g hg' => by
  rw [heap_set_other _ (own_ne S.b S.zb (by decide) hg')];exact hg.block g (S.b.lt g hg').2 (fun e => own_apart S.b S.k (by decide) hg' e.symm)
end
theorem tcs_setR (t : Te) (a b c d e f : Int) : setFrom (tcs t).toArray 7 [.int .i64 a, .int .i64 b, .int .i64 c, .int .i64 d, .int .i64 e, .int .i64 f] = (tcs { t with cy := a, of' := b, on' := c, li := d, sh := e, ss := f }).toArray := by
 obtain ⟨⟩ := t;simp [setFrom, tcs]
theorem tcs_setG (t : Te) (a b c : Int) : setFrom (tcs t).toArray 4 [.int .i64 a, .int .i64 b, .int .i64 c] = (tcs { t with fr := a, wd := b, bk := c }).toArray := by
 obtain ⟨⟩ := t;simp [setFrom, tcs]
theorem TeW.setR {w0 u : World} {p B zt : Nat} {t : Te} (S : TeW w0 u p B zt t) (hB : B ≤ w0.heap.size) (a b c d e f : Int) : TeW w0 (u.setCells zt 7 [.int .i64 a, .int .i64 b, .int .i64 c, .int .i64 d, .int .i64 e, .int .i64 f]) p B zt { t with cy := a, of' := b, on' := c, li := d, sh := e, ss := f } :=
 S.sets hB 7 _ _ (by rw [← tcs_setR]; exact bx_cells_same _ 7 S.zb) ⟨rfl, rfl, rfl⟩ ⟨rfl, rfl, rfl, rfl, rfl, rfl⟩
theorem TeW.setG {w0 u : World} {p B zt : Nat} {t : Te} (S : TeW w0 u p B zt t) (hB : B ≤ w0.heap.size) (a b c : Int) : TeW w0 (u.setCells zt 4 [.int .i64 a, .int .i64 b, .int .i64 c]) p B zt { t with fr := a, wd := b, bk := c } :=
 S.sets hB 4 _ _ (by rw [← tcs_setG]; exact bx_cells_same _ 4 S.zb) ⟨rfl, rfl, rfl⟩ ⟨rfl, rfl, rfl, rfl, rfl, rfl⟩
structure TeB1 (m : Int) (t : Te) : Prop where
 cl : 0 ≤ t.cl ∧ t.cl < m
 cs : 0 ≤ t.cs ∧ t.cs ≤ 1
 bt : 500 ≤ t.bt ∧ t.bt ≤ 5499
 ry : t.cy = 1 ∧ t.on' = 1 ∧ t.li = 0 ∨ 4 ≤ t.cy ∧ t.cy ≤ 11 ∧ 1 ≤ t.on' ∧ t.on' ≤ 3 ∧ 0 ≤ t.li ∧ t.li ≤ 3
 z : t.of' = 0 ∧ t.sh = 0 ∧ t.ss = 0
 g : t.fr = 0 ∧ t.wd = 0 ∧ t.bk = 0
 e : t.bn = 0 ∧ t.kn = 0
theorem TeB1.ryth {m : Int} {t : Te} (h : TeB1 m t) {a c d : Int} (h0 : 4 ≤ a ∧ a ≤ 11 ∧ 1 ≤ c ∧ c ≤ 3 ∧ 0 ≤ d ∧ d ≤ 3) : TeB1 m { t with cy := a, of' := 0, on' := c, li := d, sh := 0, ss := 0 } := ⟨h.cl, h.cs, h.bt, .inr h0, ⟨rfl, rfl, rfl⟩, h.g, h.e⟩
theorem TeB1.guar {m : Int} {t : Te} (h : TeB1 m t) {b c : Int} (h0 : 1 ≤ b ∧ b ≤ 9) (h1 : 0 ≤ c ∧ c ≤ 3) : TeB0 m { t with fr := 0, wd := b, bk := c } := ⟨h.cl, h.cs, h.bt, rfl, h0, h1, h.ry, h.z⟩
theorem own_nil0 (w : World) (B e s : Nat) (f : Nat → Value) {n : Nat} {v : Value} (hn : n = 0) (hv : v = .slice none 0 0) : w.ownsRow B e s v n ((List.range (n * s)).map f) := by
 subst hn hv;exact own_nilK _ _ _ _ _
end
section
open Go.RowKit Go.Sort
open Tm
def addR {α : Type} (be : Nat → α) (n : Nat) (r : α) : Nat → α := fun k => if k = n then r else be k
theorem addR_at {α : Type} (be : Nat → α) (n : Nat) (r : α) : addR be n r n = r := if_pos rfl
theorem addR_ne {α : Type} {be : Nat → α} {n k : Nat} {r : α} (h : k ≠ n) : addR be n r k = be k := if_neg h
theorem be_keep (be : Nat → BeR) (n : Nat) (r : BeR) (j : Nat) (hj : j < n * 11) : bev' (addR be n r) j = bev' be j := by
 unfold bev';rw [addR_ne (show j / 11 ≠ n by omega)]
theorem be_new (be : Nat → BeR) (n : Nat) (r : BeR) (j : Nat) (hj : j < 11) : (be11c r).toArray[j]? = some (bev' (addR be n r) (n * 11 + j)) := by
 rw [bev_at _ _ _ hj, addR_at]
 match j, hj with
 | 0, _ => rfl
 | 1, _ => rfl
 | 2, _ => rfl
 | 3, _ => rfl
 | 4, _ => rfl
 | 5, _ => rfl
 | 6, _ => rfl
 | 7, _ => rfl
 | 8, _ => rfl
 | 9, _ => rfl
 | 10, _ => rfl
def bu4 (x y m t : Int) : List Value := [.int .i64 x, .int .i64 y, .int .i64 m, .int .i64 t]
theorem bu_keep (P R M T : Nat → Int) (n : Nat) (x y m t : Int) (j : Nat) (hj : j < n * 4) : buv (addR P n x) (addR R n y) (addR M n m) (addR T n t) j = buv P R M T j := by
 unfold buv;have h : j / 4 ≠ n := by omega
 rw [addR_ne h, addR_ne h, addR_ne h, addR_ne h]
theorem bu_new (P R M T : Nat → Int) (n : Nat) (x y m t : Int) (j : Nat) (hj : j < 4) : (bu4 x y m t).toArray[j]? = some (buv (addR P n x) (addR R n y) (addR M n m) (addR T n t) (n * 4 + j)) := by
 rw [buv_at _ _ _ _ _ _ hj, addR_at, addR_at, addR_at, addR_at]
 match j, hj with
 | 0, _ => rfl
 | 1, _ => rfl
 | 2, _ => rfl
 | 3, _ => rfl
theorem te_keep (T : Nat → Te) (n : Nat) (t : Te) (j : Nat) (hj : j < n * 14) : tev' (addR T n t) j = tev' T j := by
 unfold tev';rw [addR_ne (show j / 14 ≠ n by omega)]
theorem te_new (T : Nat → Te) (n : Nat) (t : Te) (j : Nat) (hj : j < 14) : (tcs t).toArray[j]? = some (tev' (addR T n t) (n * 14 + j)) := by
 rw [tev_at _ _ _ hj, addR_at, List.getElem?_toArray];exact tc_at t j hj
theorem TeB0.withB {m : Int} {t : Te} (h : TeB0 m t) {a1 : Option Addr} {n c1 : Nat} {be : Nat → BeR} : TeB0 m { t with ba := a1, bn := n, bc := c1, be := be } := ⟨h.cl, h.cs, h.bt, h.fr, h.wd, h.bk, h.ry, h.z⟩
theorem TeB0.withK {m : Int} {t : Te} (h : TeB0 m t) {a1 : Option Addr} {n c1 : Nat} {P R M T : Nat → Int} : TeB0 m { t with ka := a1, kn := n, kc := c1, P := P, R := R, M := M, T := T } := ⟨h.cl, h.cs, h.bt, h.fr, h.wd, h.bk, h.ry, h.z⟩
structure BeB3 (t : Te) (nb nk : Nat) : Prop where
 b : ∀ j, j < nb → ∃ mo, (mo = 1 ∨ mo = 2) ∧ SideB mo (t.be j)
 k : ∀ j, j < nk → (0 ≤ t.P j ∧ t.P j ≤ 2) ∧ (0 ≤ t.R j ∧ t.R j ≤ 39) ∧ t.M j = 80 ∧ t.T j = 0
theorem BeB.withB {t : Te} {n : Nat} (h : BeB t n) {a1 : Option Addr} {c1 : Nat} {mo : Int} {r : BeR} (hm : mo = 1 ∨ mo = 2) (hr : SideB mo r) : BeB3 { t with ba := a1, bn := n + 1, bc := c1, be := addR t.be n r } (n + 1) n := by
 refine ⟨fun j hj => ?_, h.k⟩
 by_cases e : j = n
 · subst e;exact ⟨mo, hm, by show SideB mo (addR t.be j r j); rw [addR_at]; exact hr⟩
 · obtain ⟨m2, h1, h2⟩ := h.b j (by omega);exact ⟨m2, h1, by show SideB m2 (addR t.be n r j); rw [addR_ne e]; exact h2⟩
theorem BeB3.withK {t : Te} {n : Nat} (h : BeB3 t (n + 1) n) {a1 : Option Addr} {c1 : Nat} {x y : Int} (hx : 0 ≤ x ∧ x ≤ 2) (hy : 0 ≤ y ∧ y ≤ 39) : BeB { t with ka := a1, kn := n + 1, kc := c1, P := addR t.P n x, R := addR t.R n y, M := addR t.M n 80, T := addR t.T n 0 } (n + 1) := by
 refine ⟨h.b, fun j hj => ?_⟩
 show (0 ≤ addR t.P n x j ∧ addR t.P n x j ≤ 2) ∧ (0 ≤ addR t.R n y j ∧ addR t.R n y j ≤ 39) ∧ addR t.M n 80 j = 80 ∧ addR t.T n 0 j = 0
 by_cases e : j = n
 · subst e;rw [addR_at, addR_at, addR_at, addR_at];exact ⟨hx, hy, rfl, rfl⟩
 · rw [addR_ne e, addR_ne e, addR_ne e, addR_ne e];exact h.k j (by omega)
theorem FdsAt.base {w : World} {B C n : Nat} {id m : Int} {v : Value} (F : FdsAt w B id m v n) (h : C ≤ B) : FdsAt w C id m v n := by
 obtain ⟨X, hX, hb⟩ := F;exact ⟨X, own_base hX h, hb⟩
theorem CfRw.base {w : World} {B C : Nat} {c : Cf} {X : Nat → Ch.Fd} {T : Nat → Te} (K : CfRw w B c X T) (h : C ≤ B) : CfRw w C c X T := ⟨own_base K.f h, own_base K.t h, fun k hk => own_base (K.b k hk) h, fun k hk => own_base (K.u k hk) h⟩
theorem CfRw.sets {w : World} {B q : Nat} {c : Cf} {X : Nat → Ch.Fd} {T : Nat → Te} (K : CfRw w B c X T) (h : q < B) (o : Nat) (vs : List Value) : CfRw (w.setCells q o vs) B c X T := by
 have go : ∀ {e s n : Nat} {v : Value} {xs : List Value}, w.ownsRow B e s v n xs → (w.setCells q o vs).ownsRow B e s v n xs := fun hh => own_kept hh fun g hg => bx_cells_other (by have := (hh.lt g hg).1; omega) vs o
 exact ⟨go K.f, go K.t, fun k hk => go (K.b k hk), fun k hk => go (K.u k hk)⟩
theorem CfRw.row {w : World} {B q : Nat} {c : Cf} {X : Nat → Ch.Fd} {T : Nat → Te} (K : CfRw w B c X T) (h : q < c.tn) : ∃ g, c.ta = some ⟨g, 0, none⟩ ∧ B ≤ g ∧ w.cell? ⟨g, q * 14, none⟩ = some (.int .i64 (T q).cl) := by
 obtain ⟨a, cc, b, e, hc, hp, hcell⟩ := own_cellsK K.t;injection e with e1 e2 e3
 obtain ⟨hb, h1, -, -⟩ := hp (by omega);refine ⟨b, e1.trans hb, h1, ?_⟩
 have := hcell (q * 14 + 0) (by omega);rw [tev_at T q 0 (by omega)] at this;exact this
theorem CfB.addT {c : Cf} {X : Nat → Ch.Fd} {T : Nat → Te} {q : Nat} (K : CfB c X T q) {a1 : Option Addr} {c1 : Nat} {t : Te} (ht : TeB (c.h 1) t) : CfB { c with ta := a1, tn := c.tn + 1, tc := c1 } X (addR T c.tn t) (q + 1) := by
 have hq := K.tn;refine ⟨⟨K.h.b0, K.h.b1, K.h.b2, K.h.b3, K.h.b4, K.h.b5, K.h.b6, K.h.b7, K.h.b8, K.h.b9, K.h.b10, K.h.b11, K.h.b12, K.h.b13, K.h.b14, K.h.b15, K.h.b16, K.h.b17⟩, by show c.tn + 1 = q + 1; omega, by have := K.fn; show c.fn ≤ 60 * (q + 1); omega, fun k hk => ?_, fun k hk => ?_⟩
 · show TeB (c.h 1) (addR T c.tn t k)
   have hk' : k < c.tn + 1 := hk;by_cases e : k = c.tn
   · subst e; rw [addR_at]; exact ht
   · rw [addR_ne e]; exact K.t k (by omega)
 · have := K.f k hk;obtain ⟨h1, h2, h3⟩ := this;exact ⟨h1, by show _ < ((c.tn + 1 : Nat) : Int); omega, h3⟩
theorem CfB.addF {c : Cf} {X X' : Nat → Ch.Fd} {T : Nat → Te} {q k : Nat} {a1 : Option Addr} {c1 : Nat} (K : CfB c X T (q + 1)) (hf : c.fn ≤ 60 * q) (hk : k ≤ 60) (h1 : ∀ j, j < c.fn → X' j = X j) (h2 : ∀ j, j < k → FdB q (c.h 1) (X' (c.fn + j))) : CfB { c with fa := a1, fn := c.fn + k, fc := c1 } X' T (q + 1) := by
 have hq := K.tn;refine ⟨⟨K.h.b0, K.h.b1, K.h.b2, K.h.b3, K.h.b4, K.h.b5, K.h.b6, K.h.b7, K.h.b8, K.h.b9, K.h.b10, K.h.b11, K.h.b12, K.h.b13, K.h.b14, K.h.b15, K.h.b16, K.h.b17⟩, K.tn, by show c.fn + k ≤ 60 * (q + 1); omega, K.t, fun j hj => ?_⟩
 show FdB' c.tn (c.h 1) (X' j)
 have hj' : j < c.fn + k := hj;by_cases e : j < c.fn
 · rw [h1 j e]; exact K.f j e
 · have := h2 (j - c.fn) (by omega);rw [show c.fn + (j - c.fn) = j by omega] at this;obtain ⟨g1, g2, g3, g4, g5, g6, g7, g8, g9⟩ := this;exact ⟨by omega, by omega, g2, g3, g4, g5, g6, g7, g8, g9⟩
theorem CfW.alloc {w : World} {B z p : Nat} {c : Cf} {X : Nat → Ch.Fd} {T : Nat → Te} (K : CfW w B z c X T) (o : Obj) (hp : p < B) : CfW (w.alloc o) B z c X T := K.only (p := p) (only_alloc (only_refl w p) o) hp
theorem only_low {w u u' : World} {p C : Nat} (O : OnlyP w u p) (h : LowP C p u u') (hC : w.heap.size ≤ C) : OnlyP w u' p :=
 ⟨h.os.trans O.os, h.tape.trans O.tape, h.output.trans O.output, Nat.le_trans O.size h.size, fun i hi hp => (h.block i (by omega) (by simpa using hp)).trans (O.block i hi hp)⟩
section
variable {ops : Array Oper} {rest : List Oper} {o : Oper} {a : Act} {Q : Exit → Act → World → Prop}
theorem wpList_append_be (w : World) (B : Nat) (hgd : o.guard = none) (sl x : Operand) (ho : o.op = .call { callee := .builtin .append, args := #[sl, x], argTypes := #[50, 50] }) (v : Value) (n : Nat) (be : Nat → BeR) (hs : a.eval sl = v) (r : BeR) (b : Nat) (hx : a.eval x = .slice (some ⟨b, 0, none⟩) 1 1)
 (hcs : w.heap[b]? = some (.cells (be11c r).toArray 71 (0, 0))) (F : w.ownsRow B 71 11 v n ((List.range (n * 11)).map (bev' be))) (hB : B ≤ w.heap.size) (hn : n + 1 ≤ 1000000)
 (h : ∀ v' w', w'.ownsRow B 71 11 v' (n + 1) ((List.range ((n + 1) * 11)).map (bev' (addR be n r))) → w.grownBy w' v.ownBlock → wpList Tryz.prog ops Q rest (a.put o.dst v') w') : wpList Tryz.prog ops Q (o :: rest) a w := by
 refine wpList_append_at w B hgd sl x 50 ho 71 _ 11 88 Tryz.underlying50 pz71 rfl (by decide) (by decide) v n (bev' be) hs b _ (0, 0) hx hcs rfl ?_ (bev' (addR be n r)) (fun j hj => be_keep be n r j hj) (fun j hj => be_new be n r j hj) F hB hn fun v' w' h1 h2 _ => h v' w' h1 h2
 intro u hu;simp [be11c] at hu;rcases hu with rfl | rfl | rfl | rfl | rfl | rfl | rfl | rfl | rfl | rfl | rfl <;> rfl
theorem wpList_append_bu (w : World) (B : Nat) (hgd : o.guard = none) (sl x : Operand) (ho : o.op = .call { callee := .builtin .append, args := #[sl, x], argTypes := #[51, 51] }) (v : Value) (n : Nat) (P R M T : Nat → Int) (hs : a.eval sl = v) (x0 y0 m0 t0 : Int) (b : Nat) (hx : a.eval x = .slice (some ⟨b, 0, none⟩) 1 1)
 (hcs : w.heap[b]? = some (.cells (bu4 x0 y0 m0 t0).toArray 74 (0, 0))) (F : w.ownsRow B 74 4 v n ((List.range (n * 4)).map (buv P R M T))) (hB : B ≤ w.heap.size) (hn : n + 1 ≤ 1000000)
 (h : ∀ v' w', w'.ownsRow B 74 4 v' (n + 1) ((List.range ((n + 1) * 4)).map (buv (addR P n x0) (addR R n y0) (addR M n m0) (addR T n t0))) → w.grownBy w' v.ownBlock → wpList Tryz.prog ops Q rest (a.put o.dst v') w') : wpList Tryz.prog ops Q (o :: rest) a w := by
 refine wpList_append_at w B hgd sl x 51 ho 74 _ 4 32 Tryz.underlying51 pz74 rfl (by decide) (by decide) v n (buv P R M T) hs b _ (0, 0) hx hcs rfl ?_ (buv (addR P n x0) (addR R n y0) (addR M n m0) (addR T n t0)) (fun j hj => bu_keep P R M T n x0 y0 m0 t0 j hj) (fun j hj => bu_new P R M T n x0 y0 m0 t0 j hj) F hB hn fun v' w' h1 h2 _ => h v' w' h1 h2
 intro u hu;simp [bu4] at hu;rcases hu with rfl | rfl | rfl | rfl <;> rfl
theorem wpList_append_te (w : World) (B : Nat) (hgd : o.guard = none) (sl x : Operand) (ho : o.op = .call { callee := .builtin .append, args := #[sl, x], argTypes := #[35, 35] }) (v : Value) (n : Nat) (T : Nat → Te) (hs : a.eval sl = v) (t : Te) (b : Nat) (hx : a.eval x = .slice (some ⟨b, 0, none⟩) 1 1)
 (hcs : w.heap[b]? = some (.cells (tcs t).toArray 57 (0, 0))) (F : w.ownsRow B 57 14 v n ((List.range (n * 14)).map (tev' T))) (hB : B ≤ w.heap.size) (hn : n + 1 ≤ 1000000)
 (h : ∀ v' w', w'.ownsRow B 57 14 v' (n + 1) ((List.range ((n + 1) * 14)).map (tev' (addR T n t))) → w.grownBy w' v.ownBlock → wpList Tryz.prog ops Q rest (a.put o.dst v') w') : wpList Tryz.prog ops Q (o :: rest) a w := by
 refine wpList_append_at w B hgd sl x 35 ho 57 _ 14 _ Tryz.underlying35 pz57 rfl (by decide) (by decide) v n (tev' T) hs b _ (0, 0) hx hcs rfl ?_ (tev' (addR T n t)) (fun j hj => te_keep T n t j hj) (fun j hj => te_new T n t j hj) F hB hn fun v' w' h1 h2 _ => h v' w' h1 h2
 intro u hu;simp [tcs] at hu;rcases hu with rfl | rfl | rfl | rfl | rfl | rfl | rfl | rfl | rfl | rfl | rfl | rfl | rfl | rfl <;> rfl
theorem wpList_append_fds (w : World) (B C : Nat) (hgd : o.guard = none) (sl x : Operand) (ho : o.op = .call { callee := .builtin .append, args := #[sl, x], argTypes := #[34, 34] }) (v : Value) (n : Nat) (X : Nat → Ch.Fd) (hs : a.eval sl = v) (id m : Int) (u : Value) (k : Nat) (hk1 : 1 ≤ k) (hx : a.eval x = u)
 (hu : FdsAt w C id m u k) (F : w.ownsRow B 86 5 v n ((List.range (n * 5)).map (fdv X))) (hB : B ≤ w.heap.size) (hn : n + k ≤ 1000000)
 (h : ∀ v' w' X', w'.ownsRow B 86 5 v' (n + k) ((List.range ((n + k) * 5)).map (fdv X')) → (∀ j, j < n → X' j = X j) → (∀ j, j < k → FdB id m (X' (n + j))) → w.grownBy w' v.ownBlock → wpList Tryz.prog ops Q rest (a.put o.dst v') w') : wpList Tryz.prog ops Q (o :: rest) a w := by
 obtain ⟨Y, hY, hYb⟩ := hu;obtain ⟨a0, cc, b, e, hc, hp, hcell⟩ := own_cellsK hY;obtain ⟨rfl, -⟩ := hp (by omega);rw [e] at hx;have hX1 : ∀ j, j < n → (fun j => if j < n then X j else Y (j - n)) j = X j := fun j hj => if_pos hj
 have hX2 : ∀ j, (fun j => if j < n then X j else Y (j - n)) (n + j) = Y j := fun j => by
  show (if n + j < n then X (n + j) else Y (n + j - n)) = Y j
  rw [if_neg (by omega), Nat.add_sub_cancel_left]
 generalize (fun j => if j < n then X j else Y (j - n)) = X' at *;refine wpList_append_rows w B hgd sl x 34 ho 86 _ 5 40 Tryz.underlying34 pz86 rfl (by decide) (by decide) v n (fdv X) hs b 0 k cc hx (fdv Y) (fun j hj => by rw [Nat.zero_add]; exact hcell j hj) (fun j hj => rfl) (fdv X') (fun j hj => ?_) (fun j hj => ?_) F hB hn fun v' w' h1 h2 _ => h v' w' X' h1 hX1 (fun j hj => by rw [hX2]; exact hYb j hj) h2
 · unfold fdv;rw [hX1 (j / 5) (by omega)]
 · unfold fdv;rw [show (n * 5 + j) / 5 = n + j / 5 by omega, show (n * 5 + j) % 5 = j % 5 by omega, hX2]
end
end
end Go.Proofs.YtgflfdnajchjaaaGreatDoor
