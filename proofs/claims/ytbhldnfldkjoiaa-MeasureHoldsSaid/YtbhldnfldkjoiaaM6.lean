/- Layer 37: a step: the copies. -/
import Derived.Test.YtbhldnfldkjoiaaM3
import Derived.Deep.DeepCutAuto
import Derived.Deep.RegionHeld3
import Derived.Deep.RegionWith
namespace Go.Proofs.Ytbhldnfldkjoiaa
set_option linter.unusedVariables false
set_option linter.unusedSimpArgs false
open Go.RowKit Go.Sort
attribute [local go_sem] gcell

def f1 (fs qs : Nat → Int) (k : Nat) : Int := fs k + (16 * qs k - fs k) / 4
def stepE (mg bk hd : Int) (n m : Nat) (fs hs : Nat → Int) (own : Int) (r : Nat) (qs : Nat → Int) : Int :=
  if chk mg bk hd n m fs hs = 0 then if own < 0 ∨ (n : Int) ≤ own then 63 else if r = n then if anyB (out qs 15) r then 3 else 0 else 2 else chk mg bk hd n m fs hs
def stepF (mg bk hd : Int) (n m : Nat) (fs hs : Nat → Int) (own : Int) (r : Nat) (qs : Nat → Int) : Nat → Int := if stepE mg bk hd n m fs hs own r qs = 0 then f1 fs qs else fs
def stepH (mg bk hd : Int) (n m : Nat) (fs hs : Nat → Int) (own : Int) (r : Nat) (qs : Nat → Int) : Nat → Int := if stepE mg bk hd n m fs hs own r qs = 0 then held (f1 fs qs) own.toNat mg bk hs else hs

/-- Two copies in a variable. -/
structure Cl (W wx : World) (P : Nat) (n m : Nat) (a d : Option Addr) (c l g1 g2 : Nat) (fs hs : Nat → Int) : Prop where
  bel : Below W.heap.size W wx
  p0 : wx.cell? ⟨P, 0, none⟩ = some (.slice a n c)
  p1 : wx.cell? ⟨P, 1, none⟩ = some (.slice d m l)
  a0 : 0 < n → a = some ⟨g1, 0, none⟩
  d0 : 0 < m → d = some ⟨g2, 0, none⟩
  x : ∀ k, k < n → wx.cell? ⟨g1, k, none⟩ = some (.int .i64 (fs k))
  y : ∀ k, k < m → wx.cell? ⟨g2, k, none⟩ = some (.int .i64 (hs k))
  fx : 0 < n → ∀ k, wx.frozen? ⟨g1, k, none⟩ = false
  fy : 0 < m → ∀ k, wx.frozen? ⟨g2, k, none⟩ = false
  ne : 0 < n → 0 < m → g1 ≠ g2
  np : (0 < n → P ≠ g1) ∧ (0 < m → P ≠ g2)
  lo : W.heap.size ≤ P ∧ (0 < n → W.heap.size ≤ g1) ∧ (0 < m → W.heap.size ≤ g2)
theorem Cl.mono {W wx w' : World} {P n m : Nat} {a d : Option Addr} {c l g1 g2 : Nat} {fs hs : Nat → Int} (C : Cl W wx P n m a d c l g1 g2 fs hs) (hb : Below wx.heap.size wx w') : Cl W w' P n m a d c l g1 g2 fs hs :=
  ⟨bthen C.bel hb C.bel.size, up hb C.p0, up hb C.p1, C.a0, C.d0, fun k hk => up hb (C.x k hk), fun k hk => up hb (C.y k hk),
   fun h k => upf hb (lt_of_cell (C.x 0 h)) (C.fx h k), fun h k => upf hb (lt_of_cell (C.y 0 h)) (C.fy h k), C.ne, C.np, C.lo⟩
theorem Cl.rows {W wx : World} {P n m : Nat} {a d : Option Addr} {c l g1 g2 : Nat} {fs hs : Nat → Int} (C : Cl W wx P n m a d c l g1 g2 fs hs) : Sg wx (sv a d n c m l) n m fs hs := by
  have e1 : a = none → n = 0 := fun h => by
    rcases Nat.eq_zero_or_pos n with h0 | h0
    · exact h0
    · have h1 := C.a0 h0
      rw [h] at h1
      cases h1
  have e2 : d = none → m = 0 := fun h => by
    rcases Nat.eq_zero_or_pos m with h0 | h0
    · exact h0
    · have h1 := C.d0 h0
      rw [h] at h1
      cases h1
  exact ⟨a, d, c, l, rfl, e1, e2, ⟨g1, 0, C.a0, fun k hk => by rw [Nat.zero_add]; exact C.x k hk⟩, ⟨g2, 0, C.d0, fun k hk => by rw [Nat.zero_add]; exact C.y k hk⟩⟩

/-- A copy, as it lies in a later world. -/
structure Cp (W wl : World) (n : Nat) (a : Option Addr) (g : Nat) (xs : Nat → Int) : Prop where
  bel : Below W.heap.size W wl
  lo : 0 < n → a = some ⟨g, 0, none⟩ ∧ W.heap.size ≤ g ∧ g < wl.heap.size
  x : ∀ k, k < n → wl.cell? ⟨g, k, none⟩ = some (.int .i64 (xs k))
  f : 0 < n → ∀ k, wl.frozen? ⟨g, k, none⟩ = false
theorem Cp.mono {W wl w' : World} {n : Nat} {a : Option Addr} {g : Nat} {xs : Nat → Int} (C : Cp W wl n a g xs) (hb : Below wl.heap.size wl w') : Cp W w' n a g xs :=
  ⟨bthen C.bel hb C.bel.size, fun h => ⟨(C.lo h).1, (C.lo h).2.1, Nat.lt_of_lt_of_le (C.lo h).2.2 hb.size⟩, fun k hk => up hb (C.x k hk), fun h k => upf hb (C.lo h).2.2 (C.f h k)⟩
theorem Cp.of {W u wl : World} {n : Nat} {a : Option Addr} {g : Nat} {xs : Nat → Int} (hu : Below W.heap.size W u) (hb : Below u.heap.size u wl) (hg : 0 < n → a = some ⟨g, 0, none⟩ ∧ u.heap.size ≤ g ∧ g < wl.heap.size) (x : ∀ k, k < n → wl.cell? ⟨g, k, none⟩ = some (.int .i64 (xs k))) (f : 0 < n → ∀ k, wl.frozen? ⟨g, k, none⟩ = false) : Cp W wl n a g xs :=
  ⟨bthen hu hb hu.size, fun h => ⟨(hg h).1, Nat.le_trans hu.size (hg h).2.1, (hg h).2.2⟩, x, f⟩
theorem Cl.last {W wl : World} {n m : Nat} {a d : Option Addr} {c l g1 g2 : Nat} {fs hs : Nat → Int} (A : Cp W wl n a g1 fs) (B : Cp W wl m d g2 hs) (ne : 0 < n → 0 < m → g1 ≠ g2) :
    Cl W (wl.alloc (.cells #[.slice a n c, .slice d m l] 26)) wl.heap.size n m a d c l g1 g2 fs hs := by
  have hb : Below wl.heap.size wl (wl.alloc (.cells #[.slice a n c, .slice d m l] 26)) := (Below.refl _ _).alloc (Nat.le_refl _) _
  have A' := A.mono hb
  have B' := B.mono hb
  refine ⟨A'.bel, by simp [go_sem], by simp [go_sem], fun h => (A.lo h).1, fun h => (B.lo h).1, A'.x, B'.x, A'.f, B'.f, ne, ⟨fun h => ?_, fun h => ?_⟩, A.bel.size, fun h => (A.lo h).2.1, fun h => (B.lo h).2.1⟩
  · have := (A.lo h).2.2; omega
  · have := (B.lo h).2.2; omega
theorem Cl.kept {W wl : World} {P n m : Nat} {a d : Option Addr} {c l g1 g2 : Nat} {fs hs : Nat → Int} {u v : Value} (A : Cp W wl n a g1 fs) (B : Cp W wl m d g2 hs) (ne : 0 < n → 0 < m → g1 ≠ g2)
    (p0 : wl.cell? ⟨P, 0, none⟩ = some u) (p1 : wl.cell? ⟨P, 1, none⟩ = some v) (hP : W.heap.size ≤ P) (h1 : 0 < n → P ≠ g1) (h2 : 0 < m → P ≠ g2) :
    Cl W ((wl.setCell ⟨P, 0, none⟩ (.slice a n c)).setCell ⟨P, 1, none⟩ (.slice d m l)) P n m a d c l g1 g2 fs hs := by
  refine ⟨(A.bel.setCell hP _).setCell hP _, by simp [cell_set, p0], by simp [cell_set, p1], fun h => (A.lo h).1, fun h => (B.lo h).1, fun k hk => ?_, fun k hk => ?_, fun h k => ?_, fun h k => ?_, ne, ⟨h1, h2⟩, hP, fun h => (A.lo h).2.1, fun h => (B.lo h).2.1⟩
  · have := h1 (by omega)
    rw [cell_set, if_neg (by simp [this]), cell_set, if_neg (by simp [this])]
    exact A.x k hk
  · have := h2 (by omega)
    rw [cell_set, if_neg (by simp [this]), cell_set, if_neg (by simp [this])]
    exact B.x k hk
  · rw [World.frozen?_setCell, World.frozen?_setCell]; exact A.f h k
  · rw [World.frozen?_setCell, World.frozen?_setCell]; exact B.f h k

/-- The boxes that Step lays: the rule, the measurement, one's own, the result. -/
structure Bx (W : World) (z : Nat) (mg bk hd own : Int) (a d : Option Addr) (n m c l : Nat) : Prop where
  r0 : W.cell? ⟨z, 0, none⟩ = some (.int .i64 mg)
  r1 : W.cell? ⟨z, 1, none⟩ = some (.int .i64 bk)
  r2 : W.cell? ⟨z, 2, none⟩ = some (.int .i64 hd)
  s0 : W.cell? ⟨z + 1, 0, none⟩ = some (.slice a n c)
  s1 : W.cell? ⟨z + 1, 1, none⟩ = some (.slice d m l)
  o : W.cell? ⟨z + 1 + 1, 0, none⟩ = some (.int .i64 own)
  e0 : W.cell? ⟨z + 1 + 1 + 1, 0, none⟩ = some (.slice none 0 0)
  e1 : W.cell? ⟨z + 1 + 1 + 1, 1, none⟩ = some (.slice none 0 0)
  f0 : W.frozen? ⟨z + 1 + 1 + 1, 0, none⟩ = false
  f1 : W.frozen? ⟨z + 1 + 1 + 1, 1, none⟩ = false
theorem Bx.mono {W w' : World} {z : Nat} {mg bk hd own : Int} {a d : Option Addr} {n m c l : Nat} (B : Bx W z mg bk hd own a d n m c l) (hb : Below W.heap.size W w') : Bx w' z mg bk hd own a d n m c l :=
  ⟨up hb B.r0, up hb B.r1, up hb B.r2, up hb B.s0, up hb B.s1, up hb B.o, up hb B.e0, up hb B.e1, upf hb (lt_of_cell B.e0) B.f0, upf hb (lt_of_cell B.e0) B.f1⟩

theorem Cl.rows2 {W wx : World} {P q n m : Nat} {a d : Option Addr} {c l g1 g2 : Nat} {fs hs : Nat → Int} (C : Cl W wx P n m a d c l g1 g2 fs hs) (hq : q < W.heap.size) (u v : Value) : Sg ((wx.setCell ⟨q, 0, none⟩ u).setCell ⟨q, 1, none⟩ v) (sv a d n c m l) n m fs hs := by
  obtain ⟨a', d', c', l', h1, h2, h3, _, _⟩ := C.rows
  unfold sv at h1
  simp at h1
  obtain ⟨⟨rfl, rfl⟩, rfl, rfl⟩ := h1
  refine ⟨a, d, c, l, rfl, h2, h3, ⟨g1, 0, C.a0, fun k hk => ?_⟩, ⟨g2, 0, C.d0, fun k hk => ?_⟩⟩
  · have := C.lo.2.1 (by omega)
    have hne : q ≠ g1 := by omega
    rw [Nat.zero_add, cell_set, if_neg (by simp [hne]), cell_set, if_neg (by simp [hne])]
    exact C.x k hk
  · have := C.lo.2.2 (by omega)
    have hne : q ≠ g2 := by omega
    rw [Nat.zero_add, cell_set, if_neg (by simp [hne]), cell_set, if_neg (by simp [hne])]
    exact C.y k hk
theorem set2_other {w : World} {p q o : Nat} {x y v : Value} (h : q < p) (hc : w.cell? ⟨q, o, none⟩ = some v) : ((w.setCell ⟨p, 0, none⟩ x).setCell ⟨p, 1, none⟩ y).cell? ⟨q, o, none⟩ = some v := by
  rw [cell_set, if_neg (by simp <;> omega), cell_set, if_neg (by simp <;> omega)]
  exact hc

theorem Cl.setF {W wx : World} {P n m : Nat} {a d : Option Addr} {c l g1 g2 : Nat} {fs hs ys : Nat → Int} (C : Cl W wx P n m a d c l g1 g2 fs hs) {k : Nat} {x : Int} (hk : k < n) (hy : ∀ j, j < n → ys j = if j = k then x else fs j) :
    Cl W (wx.setCell ⟨g1, k, none⟩ (.int .i64 x)) P n m a d c l g1 g2 ys hs := by
  have h1 := C.np.1 (by omega)
  refine ⟨C.bel.setCell (C.lo.2.1 (by omega)) _, ?_, ?_, C.a0, C.d0, fun j hj => ?_, fun j hj => ?_, fun h j => ?_, fun h j => ?_, C.ne, C.np, C.lo⟩
  · rw [cell_set, if_neg (by simp [Ne.symm h1])]; exact C.p0
  · rw [cell_set, if_neg (by simp [Ne.symm h1])]; exact C.p1
  · rw [hy j hj, cell_set]
    by_cases e : j = k
    · subst e; simp [C.x j hj]
    · rw [if_neg (by simp [Ne.symm e]), if_neg e]; exact C.x j hj
  · have := C.ne (by omega) (by omega)
    rw [cell_set, if_neg (by simp [this])]; exact C.y j hj
  · rw [World.frozen?_setCell]; exact C.fx h j
  · rw [World.frozen?_setCell]; exact C.fy h j
theorem Cl.setH {W wx : World} {P n m : Nat} {a d : Option Addr} {c l g1 g2 : Nat} {fs hs ys : Nat → Int} (C : Cl W wx P n m a d c l g1 g2 fs hs) {k : Nat} {x : Int} (hk : k < m) (hy : ∀ j, j < m → ys j = if j = k then x else hs j) :
    Cl W (wx.setCell ⟨g2, k, none⟩ (.int .i64 x)) P n m a d c l g1 g2 fs ys := by
  have h1 := C.np.2 (by omega)
  refine ⟨C.bel.setCell (C.lo.2.2 (by omega)) _, ?_, ?_, C.a0, C.d0, fun j hj => ?_, fun j hj => ?_, fun h j => ?_, fun h j => ?_, C.ne, C.np, C.lo⟩
  · rw [cell_set, if_neg (by simp [Ne.symm h1])]; exact C.p0
  · rw [cell_set, if_neg (by simp [Ne.symm h1])]; exact C.p1
  · have := C.ne (by omega) (by omega)
    rw [cell_set, if_neg (by simp [Ne.symm this])]; exact C.x j hj
  · rw [hy j hj, cell_set]
    by_cases e : j = k
    · subst e; simp [C.y j hj]
    · rw [if_neg (by simp [Ne.symm e]), if_neg e]; exact C.y j hj
  · rw [World.frozen?_setCell]; exact C.fx h j
  · rw [World.frozen?_setCell]; exact C.fy h j
theorem Cl.congr {W wx : World} {P n m : Nat} {a d : Option Addr} {c l g1 g2 : Nat} {fs hs xs ys : Nat → Int} (C : Cl W wx P n m a d c l g1 g2 fs hs) (h1 : ∀ j, j < n → xs j = fs j) (h2 : ∀ j, j < m → ys j = hs j) : Cl W wx P n m a d c l g1 g2 xs ys :=
  ⟨C.bel, C.p0, C.p1, C.a0, C.d0, fun k hk => by rw [h1 k hk]; exact C.x k hk, fun k hk => by rw [h2 k hk]; exact C.y k hk, C.fx, C.fy, C.ne, C.np, C.lo⟩
/-- The first k are new. -/
def upto (k : Nat) (new old : Nat → Int) (j : Nat) : Int := if j < k then new j else old j
theorem upto_succ (k : Nat) (new old : Nat → Int) (j : Nat) : upto (k + 1) new old j = if j = k then new k else upto k new old j := by
  unfold upto
  by_cases h : j = k
  · subst h; rw [if_pos (by omega), if_pos rfl]
  · rw [if_neg h]
    by_cases h2 : j < k
    · rw [if_pos (by omega), if_pos h2]
    · rw [if_neg (by omega), if_neg h2]
theorem upto_at (k : Nat) (new old : Nat → Int) : upto k new old k = old k := if_neg (Nat.lt_irrefl _)
theorem upto_lt {k j : Nat} (new old : Nat → Int) (h : j < k) : upto k new old j = new j := if_pos h

end Go.Proofs.Ytbhldnfldkjoiaa
