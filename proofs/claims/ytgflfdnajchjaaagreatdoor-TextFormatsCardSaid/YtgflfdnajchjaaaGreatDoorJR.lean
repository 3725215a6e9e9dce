import Derived.Test.YtgflfdnajchjaaaGreatDoorJQ
/- Layer 45: two rows grow in one statement: the state of the region. -/
namespace Go.Proofs.YtgflfdnajchjaaaGreatDoor
set_option linter.unusedVariables false
set_option linter.unusedSimpArgs false
open Go.RowKit Go.Sort
/-- How far a statement 'x.f, x.g = append(x.f, y), append(x.g, z)' has come: number 8 and 15 are the appends, 7 and 14 the new elements. -/
structure StB (W : World) (B : Nat) (bv kv : Value) (cb ck : Array Value) (m1 m2 : Nat) (xs ys : List Value) (pf : Nat → Value → Prop) (L : Nat → Bool) (vs : Nat → Value) (u : World) : Prop where
  bel : Below B W u
  frame : ∀ i, i < W.heap.size → bv.ownBlock ≠ some i → kv.ownBlock ≠ some i → u.heap[i]? = W.heap[i]?
  b0 : L 8 = false → ∀ g, g < W.heap.size → bv.ownBlock = some g → u.heap[g]? = W.heap[g]?
  k0 : L 15 = false → ∀ g, g < W.heap.size → kv.ownBlock = some g → u.heap[g]? = W.heap[g]?
  pr : ∀ i, 2 ≤ i → i < 16 → L i = true → pf i (vs i)
  s7 : L 7 = true → ∃ b, vs 7 = .slice (some ⟨b, 0, none⟩) 1 1 ∧ W.heap.size ≤ b ∧ u.heap[b]? = some (.cells cb 71 (0, 0))
  s14 : L 14 = true → ∃ b, vs 14 = .slice (some ⟨b, 0, none⟩) 1 1 ∧ W.heap.size ≤ b ∧ u.heap[b]? = some (.cells ck 74 (0, 0))
  r8 : L 8 = true → u.ownsRow B 71 11 (vs 8) m1 xs ∧ ∀ i, (vs 8).ownBlock = some i → bv.ownBlock = some i ∨ W.heap.size ≤ i
  r15 : L 15 = true → u.ownsRow B 74 4 (vs 15) m2 ys ∧ ∀ i, (vs 15).ownBlock = some i → kv.ownBlock = some i ∨ W.heap.size ≤ i
section
variable {W : World} {B : Nat} {bv kv : Value} {cb ck : Array Value} {m1 m2 : Nat} {xs ys : List Value} {pf : Nat → Value → Prop} {L : Nat → Bool} {vs : Nat → Value} {u : World}
theorem StB.congr (S : StB W B bv kv cb ck m1 m2 xs ys pf L vs u) {L' : Nat → Bool} {vs' : Nat → Value} (h1 : ∀ i, 2 ≤ i → i < 16 → L i = L' i) (h2 : ∀ i, 2 ≤ i → i < 16 → L i = true → vs i = vs' i) : StB W B bv kv cb ck m1 m2 xs ys pf L' vs' u := by
  have e : ∀ i, 2 ≤ i → i < 16 → L' i = true → L i = true ∧ vs i = vs' i := fun i h3 h4 h5 => by
    have h6 := (h1 i h3 h4).trans h5
    exact ⟨h6, h2 i h3 h4 h6⟩
  refine ⟨S.bel, S.frame, fun h => S.b0 ((h1 8 (by omega) (by omega)).trans h), fun h => S.k0 ((h1 15 (by omega) (by omega)).trans h), fun i h3 h4 h5 => ?_, fun h => ?_, fun h => ?_, fun h => ?_, fun h => ?_⟩
  · obtain ⟨h6, h7⟩ := e i h3 h4 h5
    rw [← h7]; exact S.pr i h3 h4 h6
  · obtain ⟨h6, h7⟩ := e 7 (by omega) (by omega) h
    rw [← h7]; exact S.s7 h6
  · obtain ⟨h6, h7⟩ := e 14 (by omega) (by omega) h
    rw [← h7]; exact S.s14 h6
  · obtain ⟨h6, h7⟩ := e 8 (by omega) (by omega) h
    rw [← h7]; exact S.r8 h6
  · obtain ⟨h6, h7⟩ := e 15 (by omega) (by omega) h
    rw [← h7]; exact S.r15 h6
theorem put_L {i j : Nat} (L : Nat → Bool) : (fun j => L j || j == i) j = true ↔ (j = i ∨ L j = true) := by
  by_cases h : j = i
  · subst h; simp
  · simp [h]
theorem put_Lf {i j : Nat} (L : Nat → Bool) (h : (fun j => L j || j == i) j = false) : j ≠ i ∧ L j = false := by
  simp only [Bool.or_eq_false_iff, beq_eq_false_iff_ne] at h
  exact ⟨h.2, h.1⟩
/-- An operation that leaves the world alone. -/
theorem StB.pure (S : StB W B bv kv cb ck m1 m2 xs ys pf L vs u) {i : Nat} {v : Value} (h7 : i ≠ 7) (h8 : i ≠ 8) (h14 : i ≠ 14) (h15 : i ≠ 15) (hv : pf i v) : StB W B bv kv cb ck m1 m2 xs ys pf (fun j => L j || j == i) (fun j => if j = i then v else vs j) u := by
  have ne : ∀ {j : Nat}, j ≠ i → (fun j => if j = i then v else vs j) j = vs j := fun h => if_neg h
  refine ⟨S.bel, S.frame, fun h => S.b0 (put_Lf L h).2, fun h => S.k0 (put_Lf L h).2, fun j h3 h4 h5 => ?_, fun h => ?_, fun h => ?_, fun h => ?_, fun h => ?_⟩
  · by_cases e : j = i
    · subst e
      simp only [if_pos]
      exact hv
    · simp only [if_neg e]
      rcases (put_L L).1 h5 with h | h
      · exact absurd h e
      · exact S.pr j h3 h4 h
  · rcases (put_L L).1 h with h | h
    · exact absurd h.symm h7
    · rw [if_neg (fun e => h7 e.symm)]; exact S.s7 h
  · rcases (put_L L).1 h with h | h
    · exact absurd h.symm h14
    · rw [if_neg (fun e => h14 e.symm)]; exact S.s14 h
  · rcases (put_L L).1 h with h | h
    · exact absurd h.symm h8
    · rw [if_neg (fun e => h8 e.symm)]; exact S.r8 h
  · rcases (put_L L).1 h with h | h
    · exact absurd h.symm h15
    · rw [if_neg (fun e => h15 e.symm)]; exact S.r15 h
/-- A new block. -/
theorem StB.ext (S : StB W B bv kv cb ck m1 m2 xs ys pf L vs u) (hB : B ≤ W.heap.size) {u' : World} (hb : Below u.heap.size u u') : StB W B bv kv cb ck m1 m2 xs ys pf L vs u' := by
  have hs := S.bel.size
  refine ⟨S.bel.trans (hb.mono (Nat.le_trans hB hs)), fun i hi h1 h2 => (hb.block i (by omega)).trans (S.frame i hi h1 h2), fun h g hg h1 => (hb.block g (by omega)).trans (S.b0 h g hg h1), fun h g hg h1 => (hb.block g (by omega)).trans (S.k0 h g hg h1), S.pr, fun h => ?_, fun h => ?_, fun h => ?_, fun h => ?_⟩
  · obtain ⟨b, h1, h2, h3⟩ := S.s7 h
    exact ⟨b, h1, h2, (hb.block b (heap_lt h3)).trans h3⟩
  · obtain ⟨b, h1, h2, h3⟩ := S.s14 h
    exact ⟨b, h1, h2, (hb.block b (heap_lt h3)).trans h3⟩
  · exact ⟨own_below (S.r8 h).1 hb, (S.r8 h).2⟩
  · exact ⟨own_below (S.r15 h).1 hb, (S.r15 h).2⟩
theorem StB.new7 (S : StB W B bv kv cb ck m1 m2 xs ys pf L vs u) (hB : B ≤ W.heap.size) (hv : ∀ v, pf 7 v) : StB W B bv kv cb ck m1 m2 xs ys pf (fun j => L j || j == 7) (fun j => if j = 7 then .slice (some ⟨u.heap.size, 0, none⟩) 1 1 else vs j) (u.alloc (.cells cb 71)) := by
  have S' := S.ext hB ((Below.refl u.heap.size u).alloc (Nat.le_refl _) (.cells cb 71))
  refine ⟨S'.bel, S'.frame, fun h => S'.b0 (put_Lf L h).2, fun h => S'.k0 (put_Lf L h).2, fun j h3 h4 h5 => ?_, fun h => ?_, fun h => ?_, fun h => ?_, fun h => ?_⟩
  · by_cases e : j = 7
    · subst e
      exact hv _
    · simp only [if_neg e]
      rcases (put_L L).1 h5 with h | h
      · exact absurd h e
      · exact S.pr j h3 h4 h
  · exact ⟨u.heap.size, rfl, S.bel.size, (MapKept.heap_alloc u _).1⟩
  · rcases (put_L L).1 h with h | h
    · exact absurd h (by decide)
    · exact S'.s14 h
  · rcases (put_L L).1 h with h | h
    · exact absurd h (by decide)
    · exact S'.r8 h
  · rcases (put_L L).1 h with h | h
    · exact absurd h (by decide)
    · exact S'.r15 h
theorem StB.new14 (S : StB W B bv kv cb ck m1 m2 xs ys pf L vs u) (hB : B ≤ W.heap.size) (hv : ∀ v, pf 14 v) : StB W B bv kv cb ck m1 m2 xs ys pf (fun j => L j || j == 14) (fun j => if j = 14 then .slice (some ⟨u.heap.size, 0, none⟩) 1 1 else vs j) (u.alloc (.cells ck 74)) := by
  have S' := S.ext hB ((Below.refl u.heap.size u).alloc (Nat.le_refl _) (.cells ck 74))
  refine ⟨S'.bel, S'.frame, fun h => S'.b0 (put_Lf L h).2, fun h => S'.k0 (put_Lf L h).2, fun j h3 h4 h5 => ?_, fun h => ?_, fun h => ?_, fun h => ?_, fun h => ?_⟩
  · by_cases e : j = 14
    · subst e
      exact hv _
    · simp only [if_neg e]
      rcases (put_L L).1 h5 with h | h
      · exact absurd h e
      · exact S.pr j h3 h4 h
  · rcases (put_L L).1 h with h | h
    · exact absurd h (by decide)
    · exact S'.s7 h
  · exact ⟨u.heap.size, rfl, S.bel.size, (MapKept.heap_alloc u _).1⟩
  · rcases (put_L L).1 h with h | h
    · exact absurd h (by decide)
    · exact S'.r8 h
  · rcases (put_L L).1 h with h | h
    · exact absurd h (by decide)
    · exact S'.r15 h
/-- The first append. -/
theorem StB.app8 (S : StB W B bv kv cb ck m1 m2 xs ys pf L vs u) (hB : B ≤ W.heap.size) (hv : ∀ v, pf 8 v) (hl : L 8 = false) {n1 : Nat} {zs : List Value} (hW : W.ownsRow B 71 11 bv n1 zs) (hk : ∀ g, kv.ownBlock = some g → bv.ownBlock ≠ some g) {v : Value} {u' : World} (ho : u'.ownsRow B 71 11 v m1 xs) (hg : u.grownBy u' bv.ownBlock) (hn : v.ownBlock = bv.ownBlock ∨ v.ownBlock = some u.heap.size) :
    StB W B bv kv cb ck m1 m2 xs ys pf (fun j => L j || j == 8) (fun j => if j = 8 then v else vs j) u' := by
  have hs := S.bel.size
  have far : ∀ i, i < u.heap.size → bv.ownBlock ≠ some i → u'.heap[i]? = u.heap[i]? := fun i hi h => hg.block i hi (fun e => h e.symm)
  refine ⟨S.bel.grown hg (Nat.le_trans hB hs) (fun k hk => (hW.lt k hk).1), fun i hi h1 h2 => (far i (by omega) h1).trans (S.frame i hi h1 h2), fun h => absurd rfl (put_Lf L h).1, fun h g hg' h1 => (far g (by omega) (hk g h1)).trans (S.k0 (put_Lf L h).2 g hg' h1), fun j h3 h4 h5 => ?_, fun h => ?_, fun h => ?_, fun h => ?_, fun h => ?_⟩
  · by_cases e : j = 8
    · subst e
      exact hv _
    · simp only [if_neg e]
      rcases (put_L L).1 h5 with h | h
      · exact absurd h e
      · exact S.pr j h3 h4 h
  · rcases (put_L L).1 h with h | h
    · exact absurd h (by decide)
    · obtain ⟨b, h1, h2, h3⟩ := S.s7 h
      exact ⟨b, h1, h2, (far b (heap_lt h3) (fun e => by have := (hW.lt b e).2; omega)).trans h3⟩
  · rcases (put_L L).1 h with h | h
    · exact absurd h (by decide)
    · obtain ⟨b, h1, h2, h3⟩ := S.s14 h
      exact ⟨b, h1, h2, (far b (heap_lt h3) (fun e => by have := (hW.lt b e).2; omega)).trans h3⟩
  · refine ⟨ho, fun i hi => ?_⟩
    rcases hn with h | h
    · exact .inl (h.symm.trans hi)
    · right
      have hi' : v.ownBlock = some i := hi
      rw [h] at hi'
      injection hi' with hi'
      omega
  · rcases (put_L L).1 h with h | h
    · exact absurd h (by decide)
    · obtain ⟨h1, h2⟩ := S.r15 h
      refine ⟨own_kept h1 fun g hg' => far g (h1.lt g hg').2 (fun e => ?_), h2⟩
      rcases h2 g hg' with h3 | h3
      · exact hk g h3 e
      · have := (hW.lt g e).2; omega
/-- The second append. -/
theorem StB.app15 (S : StB W B bv kv cb ck m1 m2 xs ys pf L vs u) (hB : B ≤ W.heap.size) (hv : ∀ v, pf 15 v) {n1 : Nat} {zs : List Value} (hW : W.ownsRow B 74 4 kv n1 zs) (hk : ∀ g, bv.ownBlock = some g → kv.ownBlock ≠ some g) {v : Value} {u' : World} (ho : u'.ownsRow B 74 4 v m2 ys) (hg : u.grownBy u' kv.ownBlock) (hn : v.ownBlock = kv.ownBlock ∨ v.ownBlock = some u.heap.size) :
    StB W B bv kv cb ck m1 m2 xs ys pf (fun j => L j || j == 15) (fun j => if j = 15 then v else vs j) u' := by
  have hs := S.bel.size
  have far : ∀ i, i < u.heap.size → kv.ownBlock ≠ some i → u'.heap[i]? = u.heap[i]? := fun i hi h => hg.block i hi (fun e => h e.symm)
  refine ⟨S.bel.grown hg (Nat.le_trans hB hs) (fun k hk => (hW.lt k hk).1), fun i hi h1 h2 => (far i (by omega) h2).trans (S.frame i hi h1 h2), fun h g hg' h1 => (far g (by omega) (hk g h1)).trans (S.b0 (put_Lf L h).2 g hg' h1), fun h => absurd rfl (put_Lf L h).1, fun j h3 h4 h5 => ?_, fun h => ?_, fun h => ?_, fun h => ?_, fun h => ?_⟩
  · by_cases e : j = 15
    · subst e
      exact hv _
    · simp only [if_neg e]
      rcases (put_L L).1 h5 with h | h
      · exact absurd h e
      · exact S.pr j h3 h4 h
  · rcases (put_L L).1 h with h | h
    · exact absurd h (by decide)
    · obtain ⟨b, h1, h2, h3⟩ := S.s7 h
      exact ⟨b, h1, h2, (far b (heap_lt h3) (fun e => by have := (hW.lt b e).2; omega)).trans h3⟩
  · rcases (put_L L).1 h with h | h
    · exact absurd h (by decide)
    · obtain ⟨b, h1, h2, h3⟩ := S.s14 h
      exact ⟨b, h1, h2, (far b (heap_lt h3) (fun e => by have := (hW.lt b e).2; omega)).trans h3⟩
  · rcases (put_L L).1 h with h | h
    · exact absurd h (by decide)
    · obtain ⟨h1, h2⟩ := S.r8 h
      refine ⟨own_kept h1 fun g hg' => far g (h1.lt g hg').2 (fun e => ?_), h2⟩
      rcases h2 g hg' with h3 | h3
      · exact hk g h3 e
      · have := (hW.lt g e).2; omega
  · refine ⟨ho, fun i hi => ?_⟩
    rcases hn with h | h
    · exact .inl (h.symm.trans hi)
    · right
      have hi' : v.ownBlock = some i := hi
      rw [h] at hi'
      injection hi' with hi'
      omega
end
end Go.Proofs.YtgflfdnajchjaaaGreatDoor
/- Layer 45: a line behind the first ones is put to the document: a bearer. -/
namespace Go.Proofs.YtgflfdnajchjaaaGreatDoor
set_option linter.unusedVariables false
set_option linter.unusedSimpArgs false
open Go.RowKit Go.Sort
open Tm
attribute [local go_sem] gcell bs_tl
set_option maxRecDepth 100000 in
set_option maxHeartbeats 4000000 in
theorem last58 (w : World) (B z g : Nat) (c : Cf) (X : Nat → Ch.Fd) (T : Nat → Te) (lv : Value) (n : Nat) (Q : Nat → Tr) (D : DocW w B z c X T lv n Q) (k0 : Nat) (hk : k0 + 1 = c.tn) (hta : c.ta = some ⟨g, 0, none⟩) (hm : c.tn ≤ 1000000) :
    Calls Tryz.prog 58 #[.pointer (some ⟨z, 0, none⟩)] w fun e w' => e = .returned (.pointer (some ⟨g, k0 * 14, none⟩)) ∧ Below w.heap.size w w' := by
  have hc := cell_box D.hz (k := 19) (v := .slice c.ta c.tn c.tc) rfl
  rw [hta] at hc
  have e1 : IntKind.i64.wrap ((c.tn : Int) - 1) = (c.tn : Int) - 1 := IntWalk.i64_in _ (by omega)
  have e2 : (0 : Int) ≤ (c.tn : Int) - 1 := by omega
  have e3 : ((c.tn : Int) - 1).toNat = k0 := by omega
  have e4 : (c.tn : Int) - 1 < (c.tn : Int) := by omega
  clear hta D
  go_enter Tryz.func58, Tryz.ntmps58
  go_wp2
  go_quiet (fail)
  go_wp2
  go_ret
  exact ⟨rfl, rfl, rfl, rfl, Nat.le_refl _, fun _ _ => rfl⟩
theorem cells11 {vs : List Int} (h : vs.length = 15) : setC #[.int .i64 0, .int .i64 0, .int .i64 0, .int .i64 0, .int .i64 0, .int .i64 0, .int .i64 0, .int .i64 0, .int .i64 0, .int .i64 0, .int .i64 0] [0, 1, 2, 3, 4, 5, 6, 7, 8, 9, 10] (vs.take 11) = #[.int .i64 (vs.getD 0 0), .int .i64 (vs.getD 1 0), .int .i64 (vs.getD 2 0), .int .i64 (vs.getD 3 0), .int .i64 (vs.getD 4 0), .int .i64 (vs.getD 5 0), .int .i64 (vs.getD 6 0), .int .i64 (vs.getD 7 0), .int .i64 (vs.getD 8 0), .int .i64 (vs.getD 9 0), .int .i64 (vs.getD 10 0)] := by
  match vs, h with
  | [a0, a1, a2, a3, a4, a5, a6, a7, a8, a9, a10, a11, a12, a13, a14], _ => simp [setC]
theorem cells4b {vs : List Int} (h : vs.length = 15) : setC #[.int .i64 0, .int .i64 0, .int .i64 0, .int .i64 0] [0, 1, 2, 3] (vs.drop 11) = #[.int .i64 (vs.getD 11 0), .int .i64 (vs.getD 12 0), .int .i64 (vs.getD 13 0), .int .i64 (vs.getD 14 0)] := by
  match vs, h with
  | [a0, a1, a2, a3, a4, a5, a6, a7, a8, a9, a10, a11, a12, a13, a14], _ => simp [setC]
theorem pz71 : (Tryz.prog.info? 71).map (fun i => (i.zero, i.size, i.bytes)) = some (some (.agg #[.int .i64 0, .int .i64 0, .int .i64 0, .int .i64 0, .int .i64 0, .int .i64 0, .int .i64 0, .int .i64 0, .int .i64 0, .int .i64 0, .int .i64 0]), 11, 88) := by kernel_rfl
theorem pz74 : (Tryz.prog.info? 74).map (fun i => (i.zero, i.size, i.bytes)) = some (some (.agg #[.int .i64 0, .int .i64 0, .int .i64 0, .int .i64 0]), 4, 32) := by kernel_rfl
set_option maxRecDepth 100000 in
set_option maxHeartbeats 8000000 in
theorem addB (s : ByteArray) (hs : s.size ≤ 1000000) (w : World) (G : Gl w) (B z : Nat) (c : Cf) (X : Nat → Ch.Fd) (T : Nat → Te) (lv : Value) (n : Nat) (Q : Nat → Tr) (D : DocW w B z c X T lv n Q) (hB : 8 ≤ B) (hBw : B ≤ w.heap.size) (m : Nat) (hC : Cnt c T n m) (hm : m + 1 ≤ 1000000)
    (st : Nat) (h67 : st = 6 ∨ st = 7) (ht0 : 0 < c.tn) (hw : (spl 32 s.data.toList).headD [] = wBearer) :
    Calls Tryz.prog 37 #[.pointer (some ⟨z, 0, none⟩), .string s, .int .i64 ((st : Int) - 1)] w (AddPost w B z m (stepP st (docOf c X T n Q) s.data.toList)) := by
  have hstep : stepP st (docOf c X T n Q) s.data.toList = (okW (readS wBearer 15 s.data.toList)).map fun ns => (7, putB (docOf c X T n Q) ns) := by
    unfold stepP
    rw [if_neg (by omega), if_neg (by omega), if_neg (by omega), if_neg (by omega), hw, if_neg (fun h => words_ne.2.2.2.2.2.2.2.2.1 h.1.symm), if_neg (fun h => words_ne.2.2.2.2.2.2.2.2.2 h.1.symm), if_pos ⟨rfl, h67⟩]
  rw [hstep]
  clear hstep
  obtain ⟨k0, hk0⟩ : ∃ k, k + 1 = c.tn := ⟨c.tn - 1, by omega⟩
  obtain ⟨g, hta⟩ : ∃ g, c.ta = some ⟨g, 0, none⟩ := by
    obtain ⟨a, cc, e, -, -, h⟩ := own_slice D.t
    injection e with e1
    obtain ⟨g, hg, -⟩ := h ht0
    exact ⟨g, e1.trans hg⟩
  have hkt : k0 < c.tn := by omega
  have hbn : (T k0).bn + 1 ≤ 1000000 := by have := hC.2.2.2 k0 hkt; omega
  have htn : c.tn ≤ 1000000 := by have := hC.2.1; omega
  have HLast := Lib.hid (fun (W : World) (DW : DocW W B z c X T lv n Q) => last58 W B z g c X T lv n Q DW k0 hk0 hta htn)
  have HTA := Lib.hid hta
  have HK0 := Lib.hid hk0
  have HD := Lib.hid D
  have HG := Lib.hid G
  have HC := Lib.hid hC
  have KC := Lib.hid (cut57 s hs 32 w G)
  rw [hw] at KC
  have heq : (wBearer == wBearer) = true := beq_self_eq_true _
  have hne1 : (wBearer == wFade) = false := by decide
  have hne2 : (wBearer == wTerminal) = false := by decide
  have KW := Lib.hid (fun (W : World) (GW : Gl W) (b zb zk : Nat) HP hbw hzb hzk hne hne2 hlt h16 => whole_box2 6 (by omega) s hs b zb zk [0, 1, 2, 3, 4, 5, 6, 7, 8, 9, 10] [0, 1, 2, 3] #[.int .i64 0, .int .i64 0, .int .i64 0, .int .i64 0, .int .i64 0, .int .i64 0, .int .i64 0, .int .i64 0, .int .i64 0, .int .i64 0, .int .i64 0] #[.int .i64 0, .int .i64 0, .int .i64 0, .int .i64 0] 71 74 W GW HP hbw hzb hzk hne hne2 hlt h16 (by intro k hk; simp at hk; rcases hk with rfl | rfl | rfl | rfl | rfl | rfl | rfl | rfl | rfl | rfl | rfl <;> rfl) (by decide) (by intro k hk; simp at hk; rcases hk with rfl | rfl | rfl | rfl <;> rfl) (by decide) (by simp))
  have hlen15 : ([0, 1, 2, 3, 4, 5, 6, 7, 8, 9, 10] : List Nat).length + ([0, 1, 2, 3] : List Nat).length = 15 := rfl
  have hlen11 : ([0, 1, 2, 3, 4, 5, 6, 7, 8, 9, 10] : List Nat).length = 11 := rfl
  rw [hlen15, hlen11] at KW
  have eW : wordAt 6 = wBearer := rfl
  rw [eW] at KW
  clear D G hC hlen15 hlen11 eW hw hta hk0 ht0
  generalize okW (readS wBearer 15 s.data.toList) = o at *
  have hbf : ((st : Int) - 1 == 5) = true ∧ (st = 6) ∨ ((st : Int) - 1 == 5) = false ∧ ((st : Int) - 1 == 6) = true := by
    rcases h67 with rfl | rfl
    · exact .inl ⟨rfl, rfl⟩
    · exact .inr ⟨rfl, rfl⟩
  generalize hbfe : (st : Int) - 1 = bf at *
  clear hbfe h67
  rcases hbf with ⟨q1, -⟩ | ⟨q1, q2⟩
  all_goals
    go_enter Tryz.func37, Tryz.ntmps37
    go_wp2_with (first | (go_at_call 57; refine KC.out.mono ?_; rintro e w1 ⟨x1, y1, rfl, hb1⟩; have HB1 := Lib.hid hb1; clear hb1 KC) | (go_at_call 51; refine (words51' _).mono ?_; rintro e w2 ⟨rfl, hb2⟩; have HB2 := Lib.hid (bthen' HB1.out hb2); clear hb2) | (go_at_call 31; refine (bearer31 _ _ _ _ _).mono ?_; rintro e w3 ⟨rfl, hp3, hb3, hs3⟩; refine Hid.out ?_))
    refine Lib.hid ?_
    have hs2 := HB2.out.size
    have hz3 : w3.heap[w2.heap.size + 1]? = some (.cells #[.int .i64 0, .int .i64 0, .int .i64 0, .int .i64 0, .int .i64 0, .int .i64 0, .int .i64 0, .int .i64 0, .int .i64 0, .int .i64 0, .int .i64 0] 71 (0, 0)) := (hb3.block _ (by simp <;> omega)).trans (by
      have := (MapKept.heap_alloc (w2.alloc (.cells #[.string (bs wNetwork), .string (bs wPatience), .string (bs wRule), .string (bs wOuter), .string (bs wFade), .string (bs wTerminal), .string (bs wBearer), .string (bs wPacket)] 126)) (.cells #[.int .i64 0, .int .i64 0, .int .i64 0, .int .i64 0, .int .i64 0, .int .i64 0, .int .i64 0, .int .i64 0, .int .i64 0, .int .i64 0, .int .i64 0] 71)).1
      rw [Below.heap_alloc _ _ _ (by simp)]
      simpa using this)
    have hk3 : w3.heap[w2.heap.size + 1 + 1]? = some (.cells #[.int .i64 0, .int .i64 0, .int .i64 0, .int .i64 0] 74 (0, 0)) := (hb3.block _ (by simp)).trans (by
      have := (MapKept.heap_alloc ((w2.alloc (.cells #[.string (bs wNetwork), .string (bs wPatience), .string (bs wRule), .string (bs wOuter), .string (bs wFade), .string (bs wTerminal), .string (bs wBearer), .string (bs wPacket)] 126)).alloc (.cells #[.int .i64 0, .int .i64 0, .int .i64 0, .int .i64 0, .int .i64 0, .int .i64 0, .int .i64 0, .int .i64 0, .int .i64 0, .int .i64 0, .int .i64 0] 71)) (.cells #[.int .i64 0, .int .i64 0, .int .i64 0, .int .i64 0] 74)).1
      simpa using this)
    have HB3 := Lib.hid (bthen ((((HB2.out).alloc hs2 _).alloc (by simp <;> omega) _).alloc (by simp <;> omega) _) hb3 (by simp <;> omega))
    have hsz3 : w3.heap.size = w2.heap.size + 1 + 1 + 1 + 1 := by simpa using hs3
    have KW3 := Lib.hid (KW.out w3 (HG.out.mono HB3.out) (w2.heap.size + 1 + 1 + 1) (w2.heap.size + 1) (w2.heap.size + 1 + 1) (by simpa using hp3) (by omega) hz3 hk3 (by omega) (by omega) (by omega) (by have := HG.out.sz; omega))
    clear hp3 hb3 hs3 hz3 hk3 KW
    have HS3 := Lib.hid hsz3
    clear hsz3
    go_wp2_with (go_at_call 36; refine KW3.out.mono ?_; rintro e w4 ⟨ok, vs, rfl, hvl, hz4, hk4, hot4, hb4, hres⟩; refine Hid.out ?_)
    refine Lib.hid ?_
    have HB4 := Lib.hid (HB3.out.trans (hb4.mono (by omega)))
    have HD4 := Lib.hid (HD.out.mono HB4.out)
    rw [cells11 hvl] at hz4
    rw [cells4b hvl] at hk4
    have HRes := Lib.hid hres
    have HVL := Lib.hid hvl
    have HZ4 := Lib.hid hz4
    have HK4 := Lib.hid hk4
    clear hres hvl hz4 hk4 hot4 hb4 KW3
    go_wp2_with (go_at_call 58; refine (HLast.out _ HD4.out).mono ?_; rintro e w5 ⟨rfl, hb5⟩; refine Hid.out ?_)
    refine Lib.hid ?_
    have HB5 := Lib.hid (bthen' HB4.out hb5)
    have HD5 := Lib.hid (HD4.out.mono hb5)
    have HZ5 := Lib.hid ((hb5.block _ (heap_lt HZ4.out)).trans HZ4.out)
    have HK5 := Lib.hid ((hb5.block _ (heap_lt HK4.out)).trans HK4.out)
    clear hb5 HD4 HZ4 HK4
    have HBb := Lib.hid (HD5.out.b k0 hkt)
    have HBk := Lib.hid (HD5.out.u k0 hkt)
    have HEq := Lib.hid (HD5.out.eq k0 hkt)
    have HWs := Lib.hid (Nat.le_trans hBw HB5.out.size)
    have HbLt := Lib.hid (fun i (h : (bV (T k0)).ownBlock = some i) => ((HD.out.b k0 hkt).lt i h).2)
    have HkLt := Lib.hid (fun i (h : (kV (T k0)).ownBlock = some i) => ((HD.out.u k0 hkt).lt i h).2)
    have HApart := Lib.hid (fun i (h : (bV (T k0)).ownBlock = some i) => own_apart HBb.out HBk.out (by decide) h)
    have HApart2 := Lib.hid (fun i (h : (kV (T k0)).ownBlock = some i) => own_apart HBk.out HBb.out (by decide) h)
    have HT := Lib.hid (fun a1 c1 a2 c2 => show teB (T k0) a1 c1 a2 c2 ((T k0).bn + 1) (addBe (T k0).be (T k0).bn vs) (addI (T k0).P (T k0).bn (vs.getD 11 0)) (addI (T k0).R (T k0).bn (vs.getD 12 0)) (addI (T k0).M (T k0).bn (vs.getD 13 0)) (addI (T k0).T (T k0).bn (vs.getD 14 0)) = teP (T k0) a1 c1 a2 c2 vs from rfl)
    have HV1 := Lib.hid (show be11 (beD vs) = [vs.getD 0 0, vs.getD 1 0, vs.getD 2 0, vs.getD 3 0, vs.getD 4 0, vs.getD 5 0, vs.getD 6 0, vs.getD 7 0, vs.getD 8 0, vs.getD 9 0, vs.getD 10 0] from rfl)
    generalize vs.getD 0 0 = v0 at *
    generalize vs.getD 1 0 = v1 at *
    generalize vs.getD 2 0 = v2 at *
    generalize vs.getD 3 0 = v3 at *
    generalize vs.getD 4 0 = v4 at *
    generalize vs.getD 5 0 = v5 at *
    generalize vs.getD 6 0 = v6 at *
    generalize vs.getD 7 0 = v7 at *
    generalize vs.getD 8 0 = v8 at *
    generalize vs.getD 9 0 = v9 at *
    generalize vs.getD 10 0 = v10 at *
    generalize vs.getD 11 0 = v11 at *
    generalize vs.getD 12 0 = v12 at *
    generalize vs.getD 13 0 = v13 at *
    generalize vs.getD 14 0 = v14 at *
    have hgt : (Value.slice c.ta c.tn c.tc).ownBlock = some g := by rw [HTA.out]; rfl
    have hgb : (bV (T k0)).ownBlock ≠ some g := fun e => own_apart HBb.out HD5.out.t (by decide) e hgt
    have hgk : (kV (T k0)).ownBlock ≠ some g := fun e => own_apart HBk.out HD5.out.t (by decide) e hgt
    have HGlt := Lib.hid (HD5.out.t.lt g hgt).2
    have HGrow := Lib.hid (show ∃ gcs, w5.heap[g]? = some (.cells gcs 57 (0, 0)) from (own_tag HD5.out.t hgt).2.2)
    have hcg2 : w5.cell? ⟨g, k0 * 14 + 2, none⟩ = some (bV (T k0)) := by
      have h1 := HD5.out.t
      rw [HTA.out] at h1
      rw [h1.cellAt (k0 * 14 + 2) (by omega), List.getElem?_map, List.getElem?_range (by omega), Option.map_some, tev_at _ _ _ (by omega)]
      rfl
    have hcg3 : w5.cell? ⟨g, k0 * 14 + 3, none⟩ = some (kV (T k0)) := by
      have h1 := HD5.out.t
      rw [HTA.out] at h1
      rw [h1.cellAt (k0 * 14 + 3) (by omega), List.getElem?_map, List.getElem?_range (by omega), Option.map_some, tev_at _ _ _ (by omega)]
      rfl
    have HX1 := Lib.hid (show ∀ j, j < 11 → (#[Value.int .i64 v0, .int .i64 v1, .int .i64 v2, .int .i64 v3, .int .i64 v4, .int .i64 v5, .int .i64 v6, .int .i64 v7, .int .i64 v8, .int .i64 v9, .int .i64 v10] : Array Value)[j]? = some (bev' (addBe (T k0).be (T k0).bn vs) ((T k0).bn * 11 + j)) from fun j hj => by
      rw [bev_at _ _ _ hj]
      unfold addBe
      rw [if_pos rfl, HV1.out]
      have : j = 0 ∨ j = 1 ∨ j = 2 ∨ j = 3 ∨ j = 4 ∨ j = 5 ∨ j = 6 ∨ j = 7 ∨ j = 8 ∨ j = 9 ∨ j = 10 := by omega
      rcases this with rfl | rfl | rfl | rfl | rfl | rfl | rfl | rfl | rfl | rfl | rfl <;> rfl)
    have HX2 := Lib.hid (show ∀ j, j < (T k0).bn * 11 → bev' (addBe (T k0).be (T k0).bn vs) j = bev' (T k0).be j from fun j hj => by
      unfold bev' addBe
      rw [if_neg (by omega)])
    have HX3 := Lib.hid (show ∀ j, j < 4 → (#[Value.int .i64 v11, .int .i64 v12, .int .i64 v13, .int .i64 v14] : Array Value)[j]? = some (buv (addI (T k0).P (T k0).bn v11) (addI (T k0).R (T k0).bn v12) (addI (T k0).M (T k0).bn v13) (addI (T k0).T (T k0).bn v14) ((T k0).bn * 4 + j)) from fun j hj => by
      rw [buv_at _ _ _ _ _ _ hj]
      unfold addI
      rw [if_pos rfl, if_pos rfl, if_pos rfl, if_pos rfl]
      have : j = 0 ∨ j = 1 ∨ j = 2 ∨ j = 3 := by omega
      rcases this with rfl | rfl | rfl | rfl <;> rfl)
    have HX4 := Lib.hid (show ∀ j, j < (T k0).bn * 4 → buv (addI (T k0).P (T k0).bn v11) (addI (T k0).R (T k0).bn v12) (addI (T k0).M (T k0).bn v13) (addI (T k0).T (T k0).bn v14) j = buv (T k0).P (T k0).R (T k0).M (T k0).T j from fun j hj => by
      unfold buv addI
      rw [if_neg (by omega), if_neg (by omega), if_neg (by omega), if_neg (by omega)])
    go_wp2
    refine wp_region_peel 2 16 (StB w5 B (bV (T k0)) (kV (T k0)) #[.int .i64 v0, .int .i64 v1, .int .i64 v2, .int .i64 v3, .int .i64 v4, .int .i64 v5, .int .i64 v6, .int .i64 v7, .int .i64 v8, .int .i64 v9, .int .i64 v10] #[.int .i64 v11, .int .i64 v12, .int .i64 v13, .int .i64 v14] ((T k0).bn + 1) ((T k0).bn + 1) ((List.range (((T k0).bn + 1) * 11)).map (bev' (addBe (T k0).be (T k0).bn vs))) ((List.range (((T k0).bn + 1) * 4)).map (buv (addI (T k0).P (T k0).bn v11) (addI (T k0).R (T k0).bn v12) (addI (T k0).M (T k0).bn v13) (addI (T k0).T (T k0).bn v14))) (fun i v => match i with
      | 2 => v = .pointer (some ⟨g, k0 * 14, none⟩)
      | 3 => v = .pointer (some ⟨g, k0 * 14, none⟩)
      | 4 => v = .pointer (some ⟨g, k0 * 14 + 2, none⟩)
      | 5 => v = bV (T k0)
      | 6 => v = .agg #[.int .i64 v0, .int .i64 v1, .int .i64 v2, .int .i64 v3, .int .i64 v4, .int .i64 v5, .int .i64 v6, .int .i64 v7, .int .i64 v8, .int .i64 v9, .int .i64 v10]
      | 9 => v = .pointer (some ⟨g, k0 * 14, none⟩)
      | 10 => v = .pointer (some ⟨g, k0 * 14, none⟩)
      | 11 => v = .pointer (some ⟨g, k0 * 14 + 3, none⟩)
      | 12 => v = kV (T k0)
      | 13 => v = .agg #[.int .i64 v11, .int .i64 v12, .int .i64 v13, .int .i64 v14]
      | _ => True)) (by kernel_rfl) (by kernel_rfl) ⟨.pointer (some ⟨g, k0 * 14, none⟩), Or.inl ⟨rfl, fun _ => rfl⟩, .pointer (some ⟨g, k0 * 14, none⟩), Or.inl ⟨rfl, fun _ => rfl⟩, rfl⟩ (fun _ _ d _ _ h => by cases d <;> exact h) ?_ ?_ ?_ ?_
    · intro L L' a a' u h1 h2 S
      exact S.congr h1 h2
    · exact ⟨(Below.refl _ _).drew, fun _ _ _ _ => rfl, fun _ _ _ _ => rfl, fun _ _ _ _ => rfl, fun i h1 h2 h3 => by have := of_decide_eq_true h3; omega, fun h => by have := of_decide_eq_true h; omega, fun h => by have := of_decide_eq_true h; omega, fun h => by have := of_decide_eq_true h; omega, fun h => by have := of_decide_eq_true h; omega⟩
    · intro i o hp hi ho L vf u hL hwt S
      have hgu : u.heap[g]? = w5.heap[g]? := S.frame g HGlt.out hgb hgk
      have HZu := Lib.hid ((S.frame (w2.heap.size + 1) (heap_lt HZ5.out) (fun e => by have := HbLt.out _ e; omega) (fun e => by have := HkLt.out _ e; omega)).trans HZ5.out)
      have HKu := Lib.hid ((S.frame (w2.heap.size + 1 + 1) (heap_lt HK5.out) (fun e => by have := HbLt.out _ e; omega) (fun e => by have := HkLt.out _ e; omega)).trans HK5.out)
      have HS := Lib.hid S
      have Hw := Lib.hid hwt
      have HGu := Lib.hid hgu
      have hL' := Lib.hid hL
      clear S hwt hgu hL
      have hi' : i = 2 ∨ i = 3 ∨ i = 4 ∨ i = 5 ∨ i = 6 ∨ i = 7 ∨ i = 8 ∨ i = 9 ∨ i = 10 ∨ i = 11 ∨ i = 12 ∨ i = 13 ∨ i = 14 ∨ i = 15 := by omega
      rcases hi' with rfl | rfl | rfl | rfl | rfl | rfl | rfl | rfl | rfl | rfl | rfl | rfl | rfl | rfl
      · obtain rfl := Option.some.inj ho
        simp only [fillA, List.take_succ_cons, List.take_zero, List.drop_succ_cons, List.drop_zero]
        go_wp2
        exact ⟨rfl, HS.out.pure (by decide) (by decide) (by decide) (by decide) rfl⟩
      · obtain rfl := Option.some.inj ho
        have f2 := HS.out.pr 2 (by omega) (by omega) (Hw.out 2 (by kernel_rfl))
        simp only [fillA, List.take_succ_cons, List.take_zero, List.drop_succ_cons, List.drop_zero]
        go_wp2
        exact ⟨rfl, HS.out.pure (by decide) (by decide) (by decide) (by decide) rfl⟩
      · obtain rfl := Option.some.inj ho
        have f3 := HS.out.pr 3 (by omega) (by omega) (Hw.out 3 (by kernel_rfl))
        simp only [fillA, List.take_succ_cons, List.take_zero, List.drop_succ_cons, List.drop_zero]
        go_wp2
        exact ⟨rfl, HS.out.pure (by decide) (by decide) (by decide) (by decide) rfl⟩
      · obtain rfl := Option.some.inj ho
        have f4 := HS.out.pr 4 (by omega) (by omega) (Hw.out 4 (by kernel_rfl))
        have hcu : u.cell? ⟨g, k0 * 14 + 2, none⟩ = some (bV (T k0)) := by rw [World.cell?_of_block (a := ⟨g, k0 * 14 + 2, none⟩) HGu.out]; exact hcg2
        simp only [fillA, List.take_succ_cons, List.take_zero, List.drop_succ_cons, List.drop_zero]
        go_wp2
        exact ⟨rfl, HS.out.pure (by decide) (by decide) (by decide) (by decide) rfl⟩
      · obtain rfl := Option.some.inj ho
        have hc0 := cell_box HZu.out (k := 0) (v := .int .i64 v0) rfl
        have hc1 := cell_box HZu.out (k := 1) (v := .int .i64 v1) rfl
        have hc2 := cell_box HZu.out (k := 2) (v := .int .i64 v2) rfl
        have hc3 := cell_box HZu.out (k := 3) (v := .int .i64 v3) rfl
        have hc4 := cell_box HZu.out (k := 4) (v := .int .i64 v4) rfl
        have hc5 := cell_box HZu.out (k := 5) (v := .int .i64 v5) rfl
        have hc6 := cell_box HZu.out (k := 6) (v := .int .i64 v6) rfl
        have hc7 := cell_box HZu.out (k := 7) (v := .int .i64 v7) rfl
        have hc8 := cell_box HZu.out (k := 8) (v := .int .i64 v8) rfl
        have hc9 := cell_box HZu.out (k := 9) (v := .int .i64 v9) rfl
        have hc10 := cell_box HZu.out (k := 10) (v := .int .i64 v10) rfl
        simp only [fillA, List.take_succ_cons, List.take_zero, List.drop_succ_cons, List.drop_zero]
        go_wp2
        exact ⟨rfl, HS.out.pure (by decide) (by decide) (by decide) (by decide) rfl⟩
      · obtain rfl := Option.some.inj ho
        have f6 := HS.out.pr 6 (by omega) (by omega) (Hw.out 6 (by kernel_rfl))
        simp only [fillA, List.take_succ_cons, List.take_zero, List.drop_succ_cons, List.drop_zero]
        go_wp2
        exact ⟨rfl, HS.out.new7 HWs.out (fun _ => trivial)⟩
      · obtain rfl := Option.some.inj ho
        have f5 := HS.out.pr 5 (by omega) (by omega) (Hw.out 5 (by kernel_rfl))
        obtain ⟨bb, f7, hbb, hcell⟩ := HS.out.s7 (Hw.out 7 (by kernel_rfl))
        have HOw := Lib.hid (own_kept HBb.out fun i hi => HS.out.b0 hL'.out i (HBb.out.lt i hi).2 hi)
        simp only [fillA, List.take_succ_cons, List.take_zero, List.drop_succ_cons, List.drop_zero]
        go_wp2_with (at_builtin; refine Hid.out ?_)
        refine Lib.hid ?_
        refine wpList_append_at u B rfl (.tmp 104) (.tmp 106) 50 rfl 71 (.agg #[.int .i64 0, .int .i64 0, .int .i64 0, .int .i64 0, .int .i64 0, .int .i64 0, .int .i64 0, .int .i64 0, .int .i64 0, .int .i64 0, .int .i64 0]) 11 88 Tryz.underlying50 pz71 rfl (by decide) (by decide) _ (T k0).bn (bev' (T k0).be) rfl bb #[.int .i64 v0, .int .i64 v1, .int .i64 v2, .int .i64 v3, .int .i64 v4, .int .i64 v5, .int .i64 v6, .int .i64 v7, .int .i64 v8, .int .i64 v9, .int .i64 v10] (0, 0) rfl hcell rfl (by intro y hy; simp at hy; rcases hy with rfl | rfl | rfl | rfl | rfl | rfl | rfl | rfl | rfl | rfl | rfl <;> rfl) (bev' (addBe (T k0).be (T k0).bn vs)) HX2.out HX1.out HOw.out (Nat.le_trans HWs.out HS.out.bel.size) hbn ?_
        intro v' w6 hown hgrow hnew
        exact ⟨rfl, HS.out.app8 HWs.out (fun _ => trivial) hL'.out HBb.out (fun i h => HApart2.out i h) hown hgrow hnew⟩
      · obtain rfl := Option.some.inj ho
        simp only [fillA, List.take_succ_cons, List.take_zero, List.drop_succ_cons, List.drop_zero]
        go_wp2
        exact ⟨rfl, HS.out.pure (by decide) (by decide) (by decide) (by decide) rfl⟩
      · obtain rfl := Option.some.inj ho
        have f9 := HS.out.pr 9 (by omega) (by omega) (Hw.out 9 (by kernel_rfl))
        simp only [fillA, List.take_succ_cons, List.take_zero, List.drop_succ_cons, List.drop_zero]
        go_wp2
        exact ⟨rfl, HS.out.pure (by decide) (by decide) (by decide) (by decide) rfl⟩
      · obtain rfl := Option.some.inj ho
        have f10 := HS.out.pr 10 (by omega) (by omega) (Hw.out 10 (by kernel_rfl))
        simp only [fillA, List.take_succ_cons, List.take_zero, List.drop_succ_cons, List.drop_zero]
        go_wp2
        exact ⟨rfl, HS.out.pure (by decide) (by decide) (by decide) (by decide) rfl⟩
      · obtain rfl := Option.some.inj ho
        have f11 := HS.out.pr 11 (by omega) (by omega) (Hw.out 11 (by kernel_rfl))
        have hcu : u.cell? ⟨g, k0 * 14 + 3, none⟩ = some (kV (T k0)) := by rw [World.cell?_of_block (a := ⟨g, k0 * 14 + 3, none⟩) HGu.out]; exact hcg3
        simp only [fillA, List.take_succ_cons, List.take_zero, List.drop_succ_cons, List.drop_zero]
        go_wp2
        exact ⟨rfl, HS.out.pure (by decide) (by decide) (by decide) (by decide) rfl⟩
      · obtain rfl := Option.some.inj ho
        have hc0 := cell_box HKu.out (k := 0) (v := .int .i64 v11) rfl
        have hc1 := cell_box HKu.out (k := 1) (v := .int .i64 v12) rfl
        have hc2 := cell_box HKu.out (k := 2) (v := .int .i64 v13) rfl
        have hc3 := cell_box HKu.out (k := 3) (v := .int .i64 v14) rfl
        simp only [fillA, List.take_succ_cons, List.take_zero, List.drop_succ_cons, List.drop_zero]
        go_wp2
        exact ⟨rfl, HS.out.pure (by decide) (by decide) (by decide) (by decide) rfl⟩
      · obtain rfl := Option.some.inj ho
        have f13 := HS.out.pr 13 (by omega) (by omega) (Hw.out 13 (by kernel_rfl))
        simp only [fillA, List.take_succ_cons, List.take_zero, List.drop_succ_cons, List.drop_zero]
        go_wp2
        exact ⟨rfl, HS.out.new14 HWs.out (fun _ => trivial)⟩
      · obtain rfl := Option.some.inj ho
        have f12 := HS.out.pr 12 (by omega) (by omega) (Hw.out 12 (by kernel_rfl))
        obtain ⟨bb, f14, hbb, hcell⟩ := HS.out.s14 (Hw.out 14 (by kernel_rfl))
        have HOw := Lib.hid (own_kept HBk.out fun i hi => HS.out.k0 hL'.out i (HBk.out.lt i hi).2 hi)
        rw [HEq.out] at HOw
        simp only [fillA, List.take_succ_cons, List.take_zero, List.drop_succ_cons, List.drop_zero]
        go_wp2_with (at_builtin; refine Hid.out ?_)
        refine Lib.hid ?_
        refine wpList_append_at u B rfl (.tmp 111) (.tmp 113) 51 rfl 74 (.agg #[.int .i64 0, .int .i64 0, .int .i64 0, .int .i64 0]) 4 32 Tryz.underlying51 pz74 rfl (by decide) (by decide) _ (T k0).bn (buv (T k0).P (T k0).R (T k0).M (T k0).T) rfl bb #[.int .i64 v11, .int .i64 v12, .int .i64 v13, .int .i64 v14] (0, 0) rfl hcell rfl (by intro y hy; simp at hy; rcases hy with rfl | rfl | rfl | rfl <;> rfl) (buv (addI (T k0).P (T k0).bn v11) (addI (T k0).R (T k0).bn v12) (addI (T k0).M (T k0).bn v13) (addI (T k0).T (T k0).bn v14)) HX4.out HX3.out HOw.out (Nat.le_trans HWs.out HS.out.bel.size) hbn ?_
        intro v' w6 hown hgrow hnew
        exact ⟨rfl, HS.out.app15 HWs.out (fun _ => trivial) HBk.out (fun i h => HApart.out i h) hown hgrow hnew⟩
    · intro vf u S
      have HS := Lib.hid S
      have f8 := (S.r8 rfl)
      have f15 := (S.r15 rfl)
      obtain ⟨a1, c1, e8, -, -, -⟩ := own_slice f8.1
      obtain ⟨a2, c2, e15, -, -, -⟩ := own_slice f15.1
      have hgu : u.heap[g]? = w5.heap[g]? := S.frame g HGlt.out hgb hgk
      have hc2 : u.cell? ⟨g, k0 * 14 + 2, none⟩ = some (bV (T k0)) := by rw [World.cell?_of_block (a := ⟨g, k0 * 14 + 2, none⟩) hgu]; exact hcg2
      have hc3 : u.cell? ⟨g, k0 * 14 + 3, none⟩ = some (kV (T k0)) := by rw [World.cell?_of_block (a := ⟨g, k0 * 14 + 3, none⟩) hgu]; exact hcg3
      obtain ⟨gcs, hgcs⟩ := HGrow.out
      have hf2 : ∀ o, u.frozen? ⟨g, o, none⟩ = false := fun o => frozen_of_row u g o gcs 57 (hgu.trans hgcs)
      have hfa := hf2 (k0 * 14 + 2)
      have hfb := hf2 (k0 * 14 + 3)
      have HN := Lib.hid (HD5.out.addB (u := u) HK0.out HTA.out S.bel.size S.frame (by rw [← e8]; exact f8.1) (by rw [← e15]; exact f15.1) (by rw [← e8]; exact f8.2) (by rw [← e15]; exact f15.2))
      have HB6 := Lib.hid ((HB5.out.mono hBw).trans S.bel)
      have HP7 := Lib.hid (HD5.out.t.lt g hgt).1
      clear S f8 f15 hgu hgcs hf2
      simp only [fillA, List.take_succ_cons, List.take_zero, List.drop_succ_cons, List.drop_zero]
      go_wp2
      go_ret2
      have HB7 := ((HB6.out.setCell (p := ⟨g, k0 * 14 + 2, none⟩) HP7.out (.slice a1 ((T k0).bn + 1) c1)).setCell (p := ⟨g, k0 * 14 + 3, none⟩) HP7.out (.slice a2 ((T k0).bn + 1) c2))
      have hres := HRes.out
      have hcnt := HC.out
      rcases o with _ | ns
      · obtain rfl := hres
        exact ⟨⟨6, rfl⟩, HB7⟩
      · obtain ⟨rfl, rfl⟩ := hres
        exact ⟨rfl, ⟨_, _, _, _, _, _, HN.out, by rw [show (fun k => if k = k0 then teB (T k0) a1 c1 a2 c2 ((T k0).bn + 1) (addBe (T k0).be (T k0).bn vs) (addI (T k0).P (T k0).bn v11) (addI (T k0).R (T k0).bn v12) (addI (T k0).M (T k0).bn v13) (addI (T k0).T (T k0).bn v14) else T k) = fun k => if k = k0 then teP (T k0) a1 c1 a2 c2 vs else T k from funext fun k => by rw [HT.out]]; exact docOf_addB c X T n Q k0 HK0.out a1 c1 a2 c2 HVL.out, ⟨Nat.le_succ_of_le hcnt.1, Nat.le_succ_of_le hcnt.2.1, Nat.le_succ_of_le hcnt.2.2.1, fun k hk => by
          dsimp only
          by_cases e : k = k0
          · rw [if_pos e]
            exact Nat.succ_le_succ (hcnt.2.2.2 k0 hkt)
          · rw [if_neg e]
            exact Nat.le_succ_of_le (hcnt.2.2.2 k hk)⟩⟩, HB7⟩
end Go.Proofs.YtgflfdnajchjaaaGreatDoor
/- Layer 45: any line behind the first ones is put to the document, or none. -/
namespace Go.Proofs.YtgflfdnajchjaaaGreatDoor
set_option linter.unusedVariables false
set_option linter.unusedSimpArgs false
open Go.RowKit Go.Sort
open Tm
attribute [local go_sem] gcell bs_tl
set_option maxRecDepth 100000 in
set_option maxHeartbeats 4000000 in
theorem addN (s : ByteArray) (hs : s.size ≤ 1000000) (w : World) (G : Gl w) (z : Nat) (bf : Int) (w0 : List UInt8) (hw : (spl 32 s.data.toList).headD [] = w0) (b1 b2 b3 : Bool)
    (e1 : (w0 == wFade) = b1) (e2 : (w0 == wTerminal) = b2) (e3 : (w0 == wBearer) = b3) (e4 : (w0 == wPacket) = false) (h1 : b1 = true → decide (bf ≤ 4) = false) (h2 : b2 = true → decide (bf ≤ 6) = false) (h3 : b3 = true → (bf == 5) = false ∧ (bf == 6) = false) :
    Calls Tryz.prog 37 #[.pointer (some ⟨z, 0, none⟩), .string s, .int .i64 bf] w fun e w' => e = .returned (.tuple #[.int .i64 0, .bool false]) ∧ Below w.heap.size w w' := by
  have KC := Lib.hid (cut57 s hs 32 w G)
  rw [hw] at KC
  clear hw G hs
  cases b1 <;> cases b2 <;> cases b3
  all_goals
    simp only [true_implies, false_implies, Bool.false_eq_true, reduceCtorEq] at h1 h2 h3
    go_enter Tryz.func37, Tryz.ntmps37
    go_wp2_with (first | (go_at_call 57; refine KC.out.mono ?_; rintro e w1 ⟨x1, y1, rfl, hb1⟩; have HB1 := Lib.hid hb1; clear hb1 KC) | (go_at_call 51; refine (words51' _).mono ?_; rintro e w2 ⟨rfl, hb2⟩; have HB2 := Lib.hid (bthen' HB1.out hb2); clear hb2))
    go_ret2
    exact ⟨rfl, HB2.out.alloc HB2.out.size _⟩
theorem beq_of (a b : List UInt8) : (a == b) = decide (a = b) := by
  by_cases h : a = b
  · subst h; simp
  · simp [h]
theorem add37 (s : ByteArray) (hs : s.size ≤ 1000000) (w : World) (G : Gl w) (B z : Nat) (c : Cf) (X : Nat → Ch.Fd) (T : Nat → Te) (lv : Value) (n : Nat) (Q : Nat → Tr) (D : DocW w B z c X T lv n Q) (hB : 8 ≤ B) (hBw : B ≤ w.heap.size) (m : Nat) (hC : Cnt c T n m) (hm : m + 1 ≤ 1000000)
    (st : Nat) (h4 : 4 ≤ st) (hok : StOk st (docOf c X T n Q)) :
    Calls Tryz.prog 37 #[.pointer (some ⟨z, 0, none⟩), .string s, .int .i64 ((st : Int) - 1)] w (AddPost w B z m (stepP st (docOf c X T n Q) s.data.toList)) := by
  have h8 := hok.2.2.2.2
  by_cases hF : (spl 32 s.data.toList).headD [] = wFade ∧ st ≤ 5
  · exact addF s hs w G B z c X T lv n Q D hB hBw m hC hm st h4 hF.2 hF.1
  · by_cases hT : (spl 32 s.data.toList).headD [] = wTerminal ∧ st ≤ 7
    · exact addT s hs w G B z c X T lv n Q D hB hBw m hC hm st h4 hT.2 hT.1
    · by_cases hBe : (spl 32 s.data.toList).headD [] = wBearer ∧ (st = 6 ∨ st = 7)
      · refine addB s hs w G B z c X T lv n Q D hB hBw m hC hm st hBe.2 ?_ hBe.1
        have h1 := hok.2.2.2.1 hBe.2
        have h2 : (docOf c X T n Q).terms.length = c.tn := by show ((List.range c.tn).map _).length = _; simp
        rcases Nat.eq_zero_or_pos c.tn with h | h
        · rw [h] at h2; exact absurd (List.length_eq_zero_iff.1 h2) h1
        · exact h
      · by_cases hP : (spl 32 s.data.toList).headD [] = wPacket
        · exact addP s hs w G B z c X T lv n Q D hB hBw m hC hm st h4 h8 hP
        · have hn : stepP st (docOf c X T n Q) s.data.toList = none := by
            unfold stepP
            rw [if_neg (by omega), if_neg (by omega), if_neg (by omega), if_neg (by omega), if_neg hF, if_neg hT, if_neg hBe, if_neg hP]
          rw [hn]
          refine (addN s hs w G z ((st : Int) - 1) _ rfl _ _ _ rfl rfl rfl (beq_false_of_ne hP) (fun h => ?_) (fun h => ?_) (fun h => ?_)).mono fun e w' ⟨he, hb⟩ => ⟨⟨0, he⟩, hb.mono hBw⟩
          · rw [beq_of] at h
            have h := of_decide_eq_true h
            exact decide_eq_false fun h' => hF ⟨h, by omega⟩
          · rw [beq_of] at h
            have h := of_decide_eq_true h
            exact decide_eq_false fun h' => hT ⟨h, by omega⟩
          · rw [beq_of] at h
            have h := of_decide_eq_true h
            exact ⟨beq_false_of_ne fun h' => hBe ⟨h, by omega⟩, beq_false_of_ne fun h' => hBe ⟨h, by omega⟩⟩
end Go.Proofs.YtgflfdnajchjaaaGreatDoor
