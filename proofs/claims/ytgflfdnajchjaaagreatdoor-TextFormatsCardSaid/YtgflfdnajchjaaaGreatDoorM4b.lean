/- Layer 45: a terminal that dice make, in memory. -/
import Derived.Test.YtgflfdnajchjaaaGreatDoorM4
import Derived.Test.YtgflfdnajchjaaaGreatDoorJR
import Derived.Test.YtgflfdnajchjaaaGreatDoorPeelJ
namespace Go.Proofs.YtgflfdnajchjaaaGreatDoor
set_option linter.unusedVariables false
set_option linter.unusedSimpArgs false
open Go.RowKit Go.Sort
open Tm
/-- A terminal in a box, its rows in blocks of their own, all behind w0. -/
structure TeW (w0 u : World) (p B zt : Nat) (t : Te) : Prop where
  O : OnlyP w0 u p
  D : DiceS u p B
  zb : u.heap[zt]? = some (.cells (tcs t).toArray 57 (0, 0))
  zl : w0.heap.size ≤ zt
  b : u.ownsRow w0.heap.size 71 11 (bV t) t.bn ((List.range (t.bn * 11)).map (bev' t.be))
  k : u.ownsRow w0.heap.size 74 4 (kV t) t.kn ((List.range (t.kn * 4)).map (buv t.P t.R t.M t.T))
section
variable {w0 u u1 : World} {p B zt : Nat} {t : Te}
theorem TeW.next (S : TeW w0 u p B zt t) (hp : p < w0.heap.size) {w' : World} (ho : OnlyP u w' p) (hd : DiceS w' p B) : TeW w0 w' p B zt t :=
  ⟨only_trans S.O ho, hd, only_box ho (by have := S.zl; omega) S.zb, S.zl, own_only' S.b ho hp, own_only' S.k ho hp⟩
theorem TeW.sets (S : TeW w0 u p B zt t) (hB : B ≤ w0.heap.size) (o : Nat) (vs : List Value) (t' : Te) (hz : (u.setCells zt o vs).heap[zt]? = some (.cells (tcs t').toArray 57 (0, 0))) (hb : bV t' = bV t ∧ t'.bn = t.bn ∧ t'.be = t.be) (hk : kV t' = kV t ∧ t'.kn = t.kn ∧ t'.P = t.P ∧ t'.R = t.R ∧ t'.M = t.M ∧ t'.T = t.T) : TeW w0 (u.setCells zt o vs) p B zt t' := by
  obtain ⟨b1, b2, b3⟩ := hb
  obtain ⟨k1, k2, k3, k4, k5, k6⟩ := hk
  have hzl := S.zl
  refine ⟨only_sets S.O hzl o vs, S.D.sets (by omega) o vs, hz, hzl, ?_, ?_⟩
  · rw [b1, b2, b3]
    exact own_kept S.b fun g hg => bx_cells_other (own_ne S.b S.zb (by decide) hg) vs o
  · rw [k1, k2, k3, k4, k5, k6]
    exact own_kept S.k fun g hg => bx_cells_other (own_ne S.k S.zb (by decide) hg) vs o
theorem DiceS.grew {w w' : World} {p B : Nat} {r : Option Nat} (D : DiceS w p B) (hg : w.grownBy w' r) (h : ∀ g, r = some g → B ≤ g) : DiceS w' p B :=
  D.mono ((Below.refl B w).grown hg D.le h) (Nat.le_refl _)
theorem only_grew {w u u' : World} {p : Nat} {r : Option Nat} (O : OnlyP w u p) (hg : u.grownBy u' r) (h : ∀ g, r = some g → w.heap.size ≤ g) : OnlyP w u' p :=
  ⟨hg.os.trans O.os, hg.tape.trans O.tape, hg.output.trans O.output, Nat.le_trans O.size hg.size, fun i hi hne => (hg.block i (Nat.lt_of_lt_of_le hi O.size) (fun e => by have := h i e.symm; omega)).trans (O.block i hi hne)⟩
theorem TeW.addB (S : TeW w0 u p B zt t) (hB : B ≤ w0.heap.size) {a1 : Option Addr} {c1 : Nat} {be : Nat → BeR} (h : u1.ownsRow w0.heap.size 71 11 (.slice a1 (t.bn + 1) c1) (t.bn + 1) ((List.range ((t.bn + 1) * 11)).map (bev' be))) (hg : u.grownBy u1 (bV t).ownBlock) :
    TeW w0 (u1.setCell ⟨zt, 2, none⟩ (.slice a1 (t.bn + 1) c1)) p B zt { t with ba := a1, bn := t.bn + 1, bc := c1, be := be } := by
  have hzl := S.zl
  have hz1 : u1.heap[zt]? = some (.cells (tcs t).toArray 57 (0, 0)) := (hg.block zt (heap_lt S.zb) (fun e => own_ne S.b S.zb (by decide) e.symm rfl)).trans S.zb
  have hr : ∀ g, (bV t).ownBlock = some g → w0.heap.size ≤ g := fun g hg => (S.b.lt g hg).1
  refine ⟨only_setNew (only_grew S.O hg hr) hzl _ _, (S.D.grew hg fun g h => by have := hr g h; omega).set (by omega), by rw [heap_set_same hz1]; rfl, hzl, own_kept h fun g hg' => heap_set_other _ (own_ne h hz1 (by decide) hg'), ?_⟩
  exact own_kept S.k fun g hg' => by
    rw [heap_set_other _ (own_ne S.k S.zb (by decide) hg')]
    exact hg.block g (S.k.lt g hg').2 (fun e => own_apart S.k S.b (by decide) hg' e.symm)
theorem TeW.addK (S : TeW w0 u p B zt t) (hB : B ≤ w0.heap.size) {a1 : Option Addr} {c1 : Nat} {P R M T : Nat → Int} (h : u1.ownsRow w0.heap.size 74 4 (.slice a1 (t.kn + 1) c1) (t.kn + 1) ((List.range ((t.kn + 1) * 4)).map (buv P R M T))) (hg : u.grownBy u1 (kV t).ownBlock) :
    TeW w0 (u1.setCell ⟨zt, 3, none⟩ (.slice a1 (t.kn + 1) c1)) p B zt { t with ka := a1, kn := t.kn + 1, kc := c1, P := P, R := R, M := M, T := T } := by
  have hzl := S.zl
  have hz1 : u1.heap[zt]? = some (.cells (tcs t).toArray 57 (0, 0)) := (hg.block zt (heap_lt S.zb) (fun e => own_ne S.k S.zb (by decide) e.symm rfl)).trans S.zb
  have hr : ∀ g, (kV t).ownBlock = some g → w0.heap.size ≤ g := fun g hg => (S.k.lt g hg).1
  refine ⟨only_setNew (only_grew S.O hg hr) hzl _ _, (S.D.grew hg fun g h => by have := hr g h; omega).set (by omega), by rw [heap_set_same hz1]; rfl, hzl, ?_, own_kept h fun g hg' => heap_set_other _ (own_ne h hz1 (by decide) hg')⟩
  exact own_kept S.b fun g hg' => by
    rw [heap_set_other _ (own_ne S.b S.zb (by decide) hg')]
    exact hg.block g (S.b.lt g hg').2 (fun e => own_apart S.b S.k (by decide) hg' e.symm)
end
theorem tcs_setR (t : Te) (a b c d e f : Int) : setFrom (tcs t).toArray 7 [.int .i64 a, .int .i64 b, .int .i64 c, .int .i64 d, .int .i64 e, .int .i64 f] = (tcs { t with cy := a, of' := b, on' := c, li := d, sh := e, ss := f }).toArray := by
  obtain ⟨⟩ := t
  simp [setFrom, tcs]
theorem tcs_setG (t : Te) (a b c : Int) : setFrom (tcs t).toArray 4 [.int .i64 a, .int .i64 b, .int .i64 c] = (tcs { t with fr := a, wd := b, bk := c }).toArray := by
  obtain ⟨⟩ := t
  simp [setFrom, tcs]
theorem TeW.setR {w0 u : World} {p B zt : Nat} {t : Te} (S : TeW w0 u p B zt t) (hB : B ≤ w0.heap.size) (a b c d e f : Int) : TeW w0 (u.setCells zt 7 [.int .i64 a, .int .i64 b, .int .i64 c, .int .i64 d, .int .i64 e, .int .i64 f]) p B zt { t with cy := a, of' := b, on' := c, li := d, sh := e, ss := f } :=
  S.sets hB 7 _ _ (by rw [← tcs_setR]; exact bx_cells_same _ 7 S.zb) ⟨rfl, rfl, rfl⟩ ⟨rfl, rfl, rfl, rfl, rfl, rfl⟩
theorem TeW.setG {w0 u : World} {p B zt : Nat} {t : Te} (S : TeW w0 u p B zt t) (hB : B ≤ w0.heap.size) (a b c : Int) : TeW w0 (u.setCells zt 4 [.int .i64 a, .int .i64 b, .int .i64 c]) p B zt { t with fr := a, wd := b, bk := c } :=
  S.sets hB 4 _ _ (by rw [← tcs_setG]; exact bx_cells_same _ 4 S.zb) ⟨rfl, rfl, rfl⟩ ⟨rfl, rfl, rfl, rfl, rfl, rfl⟩
/-- What is known of a terminal before it has a guarantee and bearers. -/
structure TeB1 (m : Int) (t : Te) : Prop where
  cl : 0 ≤ t.cl ∧ t.cl < m
  cs : 0 ≤ t.cs ∧ t.cs ≤ 1
  bt : 500 ≤ t.bt ∧ t.bt ≤ 5499
  ry : t.cy = 1 ∧ t.on' = 1 ∧ t.li = 0 ∨ 4 ≤ t.cy ∧ t.cy ≤ 11 ∧ 1 ≤ t.on' ∧ t.on' ≤ 3 ∧ 0 ≤ t.li ∧ t.li ≤ 3
  z : t.of' = 0 ∧ t.sh = 0 ∧ t.ss = 0
  g : t.fr = 0 ∧ t.wd = 0 ∧ t.bk = 0
  e : t.bn = 0 ∧ t.kn = 0
theorem TeB1.ryth {m : Int} {t : Te} (h : TeB1 m t) {a c d : Int} (h0 : 4 ≤ a ∧ a ≤ 11 ∧ 1 ≤ c ∧ c ≤ 3 ∧ 0 ≤ d ∧ d ≤ 3) : TeB1 m { t with cy := a, of' := 0, on' := c, li := d, sh := 0, ss := 0 } := ⟨h.cl, h.cs, h.bt, .inr h0, ⟨rfl, rfl, rfl⟩, h.g, h.e⟩
theorem TeB1.guar {m : Int} {t : Te} (h : TeB1 m t) {b c : Int} (h0 : 1 ≤ b ∧ b ≤ 9) (h1 : 0 ≤ c ∧ c ≤ 3) : TeB0 m { t with fr := 0, wd := b, bk := c } := ⟨h.cl, h.cs, h.bt, rfl, h0, h1, h.ry, h.z⟩
theorem own_nil0 (w : World) (B e s : Nat) (f : Nat → Value) {n : Nat} {v : Value} (hn : n = 0) (hv : v = .slice none 0 0) : w.ownsRow B e s v n ((List.range (n * s)).map f) := by
  subst hn hv
  exact own_nilK _ _ _ _ _
end Go.Proofs.YtgflfdnajchjaaaGreatDoor
