/- Layer 37: what lies in memory while a run goes on. -/
import Derived.Test.YtbhldnfldkjoiaaRest
import Derived.Test.YtbhldnfldkjoiaaM11
import Derived.Test.YtbhldnfldkjoiaaM9
namespace Go.Proofs.Ytbhldnfldkjoiaa
set_option linter.unusedVariables false
set_option linter.unusedSimpArgs false
open Go.RowKit Go.Sort

/-- The lists of a measurement lie in none of these blocks. -/
def Off (bs : List Nat) (v : Value) : Prop := ∃ a d n c m l, v = sv a d n c m l ∧ (∀ b o, 0 < n → a = some ⟨b, o, none⟩ → b ∉ bs) ∧ (∀ b o, 0 < m → d = some ⟨b, o, none⟩ → b ∉ bs)
theorem Fr.off {B : Nat} {v : Value} {bs : List Nat} (h : Fr B v) (hb : ∀ b ∈ bs, b < B) : Off bs v := by
  obtain ⟨a, d, n, c, m, l, rfl, h1, h2⟩ := h
  refine ⟨a, d, n, c, m, l, rfl, fun b o h0 e hm => ?_, fun b o h0 e hm => ?_⟩
  · obtain ⟨g, rfl, hg⟩ := h1 h0
    injection e with e
    injection e with e1
    have := hb b hm
    omega
  · obtain ⟨g, rfl, hg⟩ := h2 h0
    injection e with e
    injection e with e1
    have := hb b hm
    omega
theorem Fr.off' {B : Nat} {w : World} {a d : Option Addr} {n c m l : Nat} {fs hs : Nat → Int} {bs : List Nat} (h : Fr B (sv a d n c m l)) (S : Sg w (sv a d n c m l) n m fs hs) (hb : ∀ b ∈ bs, b < B ∨ w.heap.size ≤ b) : Off bs (sv a d n c m l) := by
  obtain ⟨a', d', n', c', m', l', e, h1, h2⟩ := h
  unfold sv at e
  simp at e
  obtain ⟨⟨rfl, rfl, rfl⟩, rfl, rfl, rfl⟩ := e
  obtain ⟨b1, o1, x1, x2⟩ := S.rows1
  obtain ⟨b2, o2, y1, y2⟩ := S.rows2
  refine ⟨_, _, _, _, _, _, rfl, fun b o h0 e hm => ?_, fun b o h0 e hm => ?_⟩
  · obtain ⟨g, e1, hg⟩ := h1 h0
    have e2 := x1 h0
    rw [e] at e1 e2
    injection e1 with e1
    injection e1 with e1
    injection e2 with e2
    injection e2 with e2
    have := hb b hm
    have := lt_of_cell (x2 0 h0)
    omega
  · obtain ⟨g, e1, hg⟩ := h2 h0
    have e2 := y1 h0
    rw [e] at e1 e2
    injection e1 with e1
    injection e1 with e1
    injection e2 with e2
    injection e2 with e2
    have := hb b hm
    have := lt_of_cell (y2 0 h0)
    omega
theorem Row.keep {w w' : World} {a : Option Addr} {n : Nat} {xs : Nat → Int} (R : Row w a n xs) (h : ∀ b o v, (0 < n → a = some ⟨b, o, none⟩) → ∀ k, k < n → w.cell? ⟨b, o + k, none⟩ = some v → w'.cell? ⟨b, o + k, none⟩ = some v) : Row w' a n xs := by
  obtain ⟨b, o, h1, h2⟩ := R
  exact ⟨b, o, h1, fun k hk => h b o _ h1 k hk (h2 k hk)⟩
theorem Sg.keep {w w' : World} {v : Value} {n m : Nat} {fs hs : Nat → Int} {bs : List Nat} (S : Sg w v n m fs hs) (O : Off bs v) (h : ∀ b o u, b ∉ bs → w.cell? ⟨b, o, none⟩ = some u → w'.cell? ⟨b, o, none⟩ = some u) : Sg w' v n m fs hs := by
  obtain ⟨a, d, c, l, rfl, h1, h2, r1, r2⟩ := S
  obtain ⟨a', d', n', c', m', l', e, o1, o2⟩ := O
  unfold sv at e
  simp at e
  obtain ⟨⟨rfl, rfl, rfl⟩, rfl, rfl, rfl⟩ := e
  exact ⟨a, d, c, l, rfl, h1, h2, r1.keep fun b o v e k hk hc => h b _ v (o1 b o (by omega) (e (by omega))) hc, r2.keep fun b o v e k hk hc => h b _ v (o2 b o (by omega) (e (by omega))) hc⟩

/-- A list of one's own. -/
structure QAt (w : World) (z n : Nat) (qs : Nat → Int) : Prop where
  c : ∀ k, k < n → w.cell? ⟨z, k, none⟩ = some (.int .i64 (qs k))
  f : ∀ k, w.frozen? ⟨z, k, none⟩ = false
  lt : z < w.heap.size
theorem QAt.mono {w w' : World} {z n : Nat} {qs : Nat → Int} (Q : QAt w z n qs) (hb : Below w.heap.size w w') : QAt w' z n qs :=
  ⟨fun k hk => up hb (Q.c k hk), fun k => upf hb Q.lt (Q.f k), Nat.lt_of_lt_of_le Q.lt hb.size⟩
theorem QAt.row {w : World} {z n : Nat} {qs : Nat → Int} (Q : QAt w z n qs) : Row w (some ⟨z, 0, none⟩) n qs :=
  ⟨z, 0, fun _ => rfl, fun k hk => by rw [Nat.zero_add]; exact Q.c k hk⟩
def putN (qs : Nat → Int) (j : Nat) (x : Int) : Nat → Int := fun k => if k = j then x else qs k
theorem QAt.set {w : World} {z n : Nat} {qs : Nat → Int} (Q : QAt w z n qs) (j : Nat) (x : Int) : QAt (w.setCell ⟨z, j, none⟩ (.int .i64 x)) z n (putN qs j x) := by
  refine ⟨fun k hk => ?_, fun k => ?_, by simpa using Q.lt⟩
  · have := Q.c k hk
    unfold putN
    by_cases e : k = j
    · subst e
      rw [if_pos rfl, cell_set, if_pos rfl, this]; rfl
    · rw [if_neg e, cell_set, if_neg (by simp [Ne.symm e])]; exact this
  · rw [World.frozen?_setCell]; exact Q.f k

/-- Dice, a rule, a measurement, a list of qualities. -/
structure RM (w wr : World) (p g : Nat) (aa : Option Addr) (cap n0 : Nat) (xs : Nat → Int) (k zR zS zQ : Nat) (mg bk hd : Int) (a d : Option Addr) (n c l : Nat) (fs hs qs : Nat → Int) : Prop where
  D : DiceAt wr p g aa cap n0 xs k
  R : Rb wr zR mg bk hd
  S : Sx wr zS a d n c n l fs hs
  O : Off [p, zS, zQ] (sv a d n c n l)
  Q : QAt wr zQ n qs
  bel : Below w.heap.size w wr
  lo : w.heap.size ≤ p ∧ w.heap.size ≤ zS ∧ w.heap.size ≤ zQ
  ne : (zR ≠ p ∧ zR ≠ zS ∧ zR ≠ zQ) ∧ (zS ≠ p ∧ zS ≠ zQ ∧ zQ ≠ p) ∧ (zS ≠ g ∧ zQ ≠ g)
section
variable {w wr w' : World} {p g : Nat} {aa : Option Addr} {cap n0 : Nat} {xs : Nat → Int} {k zR zS zQ : Nat} {mg bk hd : Int} {a d : Option Addr} {n c l : Nat} {fs hs qs : Nat → Int}
theorem RM.mono (S : RM w wr p g aa cap n0 xs k zR zS zQ mg bk hd a d n c l fs hs qs) (hb : Below wr.heap.size wr w') : RM w w' p g aa cap n0 xs k zR zS zQ mg bk hd a d n c l fs hs qs :=
  ⟨S.D.mono hb, S.R.mono hb, S.S.mono hb, S.O, S.Q.mono hb, bthen S.bel hb S.bel.size, S.lo, S.ne⟩
theorem Rb.only (R : Rb wr zR mg bk hd) (h : OnlyP wr w' p) (hne : zR ≠ p) : Rb w' zR mg bk hd := ⟨only_cell h hne R.r0, only_cell h hne R.r1, only_cell h hne R.r2⟩
theorem RM.only (S : RM w wr p g aa cap n0 xs k zR zS zQ mg bk hd a d n c l fs hs qs) {k' : Nat} (hd' : DiceAt w' p g aa cap n0 xs k') (h : OnlyP wr w' p) : RM w w' p g aa cap n0 xs k' zR zS zQ mg bk hd a d n c l fs hs qs :=
  ⟨hd', S.R.only h S.ne.1.1,
   ⟨⟨only_cell h S.ne.2.1.1 S.S.b.c0, only_cell h S.ne.2.1.1 S.S.b.c1, S.S.b.s.keep S.O fun b o u hb hc => only_cell h (by simp at hb; omega) hc⟩, only_frozen h S.ne.2.1.1 S.S.lt S.S.f0, only_frozen h S.ne.2.1.1 S.S.lt S.S.f1,
    fun o ho => (World.cell?_of_block (h.block zS S.S.lt (by have := S.ne.2.1.1; simp; omega))).trans (S.S.far o ho)⟩,
   S.O, ⟨fun j hj => only_cell h S.ne.2.1.2.2 (S.Q.c j hj), fun j => only_frozen h S.ne.2.1.2.2 S.Q.lt (S.Q.f j), Nat.lt_of_lt_of_le S.Q.lt h.size⟩,
   S.bel.trans (only_below h S.lo.1 S.bel.size), S.lo, S.ne⟩
theorem RM.setQ (S : RM w wr p g aa cap n0 xs k zR zS zQ mg bk hd a d n c l fs hs qs) (j : Nat) (x : Int) : RM w (wr.setCell ⟨zQ, j, none⟩ (.int .i64 x)) p g aa cap n0 xs k zR zS zQ mg bk hd a d n c l fs hs (putN qs j x) := by
  have n1 := S.ne.1.2.2
  have n2 := S.ne.2.1.2.1
  have far : ∀ b o u, b ≠ zQ → wr.cell? ⟨b, o, none⟩ = some u → (wr.setCell ⟨zQ, j, none⟩ (.int .i64 x)).cell? ⟨b, o, none⟩ = some u := fun b o u hb hc => by
    rw [cell_set, if_neg (by simp [Ne.symm hb])]; exact hc
  refine ⟨S.D.setFar S.ne.2.1.2.2 S.ne.2.2.2 _ _, ⟨far _ _ _ n1 S.R.r0, far _ _ _ n1 S.R.r1, far _ _ _ n1 S.R.r2⟩,
    ⟨⟨far _ _ _ n2 S.S.b.c0, far _ _ _ n2 S.S.b.c1, S.S.b.s.keep S.O fun b o u hb hc => far b o u (by simp at hb; omega) hc⟩, ?_, ?_, fun o ho => ?_⟩, S.O, S.Q.set j x, S.bel.setCell S.lo.2.2 _, S.lo, S.ne⟩
  · rw [World.frozen?_setCell]; exact S.S.f0
  · rw [World.frozen?_setCell]; exact S.S.f1
  · rw [cell_set, if_neg (by simp [Ne.symm n2])]; exact S.S.far o ho
theorem RM.setS (S : RM w wr p g aa cap n0 xs k zR zS zQ mg bk hd a d n c l fs hs qs) {a' d' : Option Addr} {c' l' : Nat} {fs' hs' : Nat → Int} (G : Sg wr (sv a' d' n c' n l') n n fs' hs') (O : Off [p, zS, zQ] (sv a' d' n c' n l')) :
    RM w ((wr.setCell ⟨zS, 0, none⟩ (.slice a' n c')).setCell ⟨zS, 1, none⟩ (.slice d' n l')) p g aa cap n0 xs k zR zS zQ mg bk hd a' d' n c' l' fs' hs' qs := by
  have n2 := S.ne.2.1.2.1
  refine ⟨(S.D.setFar S.ne.2.1.1 S.ne.2.2.1 _ _).setFar S.ne.2.1.1 S.ne.2.2.1 _ _, S.R.far (Ne.symm S.ne.1.2.1) _ _, S.S.put G, O, ⟨fun j hj => ?_, fun j => ?_, by simpa using S.Q.lt⟩, (S.bel.setCell S.lo.2.1 _).setCell S.lo.2.1 _, S.lo, S.ne⟩
  · rw [cell_set, if_neg (by simp [n2]), cell_set, if_neg (by simp [n2])]; exact S.Q.c j hj
  · rw [World.frozen?_setCell, World.frozen?_setCell]; exact S.Q.f j
end
end Go.Proofs.Ytbhldnfldkjoiaa
