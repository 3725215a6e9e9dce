/- Layer 33: plans as they lie in memory. -/
import Derived.Test.YteokhadpenalaaaG7
import Derived.Maps.AppendAt
namespace Go.Proofs.Yteokhadpenalaaa
set_option linter.unusedVariables false
set_option linter.unusedSimpArgs false
open Go.RowKit Go.Sort
attribute [local go_sem] gcell

theorem winE_wto {n : Nat} {F W B : Nat → Int} (hc : ck n F W B = 0) {t : Int} (ht : t ≤ 1048576) {i : Nat} (hi : i < n) : winE F W B t i = wto F W t i := by
  have hv := (ck_ok hc).2 i hi
  unfold winE win wto
  by_cases h : F i ≤ t
  · rw [if_pos ⟨hv, h, ht⟩, if_neg (by omega)]
  · rw [if_neg (fun c => h c.2.1), if_pos (by omega)]
theorem nxg_nx {F W B g : Nat → Int} {t : Int} {e : Nat → Int} : ∀ k : Nat, (∀ i, i < k → e i = wto F W t i) → nxg e B g k = nx F W B g t k
  | 0, _ => rfl
  | k + 1, h => by
    have ih := nxg_nx (B := B) (g := g) k fun i hi => h i (by omega)
    unfold nxg nx
    rw [ih, h k (by omega)]
theorem nextV_nx {n : Nat} {F W B g : Nat → Int} (hc : ck n F W B = 0) {t : Int} (ht : t ≤ 1048576) : nextV n F W B n g t = ((nx F W B g t n).1, decide (0 < (nx F W B g t n).2)) := by
  unfold nextV
  rw [if_pos ⟨hc, rfl⟩, nxg_nx n fun i hi => winE_wto hc ht hi]
theorem nx_nonneg (F W B g : Nat → Int) (t : Int) (n : Nat) : 0 ≤ (nx F W B g t n).2 := by
  rcases nx_spec F W B g t n with ⟨h, _⟩ | ⟨_, h, _⟩ <;> omega
theorem gs_stop {F W B g : Nat → Int} {n : Nat} {t : Int} {j : Nat} (h : (nx F W B (gs F W B n g t j) t n).2 = 0) : ∀ m : Nat, gs F W B n g t (j + m) = gs F W B n g t j ∧ ls F W B n g t (j + m) = ls F W B n g t j
  | 0 => ⟨rfl, rfl⟩
  | m + 1 => by
    obtain ⟨h1, h2⟩ := gs_stop h m
    refine ⟨?_, ?_⟩
    · show (if (nx F W B (gs F W B n g t (j + m)) t n).2 = 0 then gs F W B n g t (j + m) else bump (gs F W B n g t (j + m)) (nx F W B (gs F W B n g t (j + m)) t n).1) = _
      rw [h1, if_pos h]
    · show (if (nx F W B (gs F W B n g t (j + m)) t n).2 = 0 then ls F W B n g t (j + m) else ls F W B n g t (j + m) ++ [(nx F W B (gs F W B n g t (j + m)) t n).1]) = _
      rw [h1, h2, if_pos h]
theorem gs_go {F W B g : Nat → Int} {n : Nat} {t : Int} {j : Nat} (h : (nx F W B (gs F W B n g t j) t n).2 ≠ 0) : gs F W B n g t (j + 1) = bump (gs F W B n g t j) (nx F W B (gs F W B n g t j) t n).1 ∧ ls F W B n g t (j + 1) = ls F W B n g t j ++ [(nx F W B (gs F W B n g t j) t n).1] :=
  ⟨if_neg h, if_neg h⟩
theorem ls_len {F W B g : Nat → Int} {n : Nat} {t : Int} : ∀ j : Nat, (ls F W B n g t j).length ≤ j
  | 0 => Nat.le_refl _
  | j + 1 => by
    have := ls_len (F := F) (W := W) (B := B) (g := g) (n := n) (t := t) j
    show (if (nx F W B (gs F W B n g t j) t n).2 = 0 then ls F W B n g t j else ls F W B n g t j ++ [(nx F W B (gs F W B n g t j) t n).1]).length ≤ _
    split
    · omega
    · simp; omega
theorem ls_lt {F W B g : Nat → Int} {n : Nat} {t : Int} : ∀ j : Nat, ∀ i ∈ ls F W B n g t j, i < n ∧ F i ≤ t
  | 0, i, hi => by cases hi
  | j + 1, i, hi => by
    have hh : ls F W B n g t (j + 1) = (if (nx F W B (gs F W B n g t j) t n).2 = 0 then ls F W B n g t j else ls F W B n g t j ++ [(nx F W B (gs F W B n g t j) t n).1]) := rfl
    rw [hh] at hi
    split at hi
    · exact ls_lt j i hi
    · rename_i h0
      rcases List.mem_append.1 hi with h | h
      · exact ls_lt j i h
      · rw [List.mem_singleton] at h
        rcases nx_spec F W B (gs F W B n g t j) t n with ⟨h1, _⟩ | ⟨h1, h2, _, h3, _⟩
        · exact absurd h1 h0
        · rw [← h] at h1 h3
          refine ⟨h1, Int.not_lt.1 fun hlt => ?_⟩
          rw [h3] at h2
          unfold wto at h2
          rw [if_pos hlt] at h2
          omega
/-- Who gets blocks in tick t. -/
def who (n : Nat) (F W B : Nat → Int) (r t : Nat) : List Nat := ls F W B n (rst F W (got F W B n r t) t) t r
def missB (n : Nat) (F W B : Nat → Int) (r t : Nat) : Bool := anyB (fun i => decide (F i ≤ t) && decide (rel (F i) (W i) t + W i = t + 1) && decide (got F W B n r (t + 1) i < B i)) n
/-- All windows that end up to h are kept. -/
def keptB (n : Nat) (F W B : Nat → Int) (r h : Nat) : Bool := !anyB (missB n F W B r) h
theorem missB_iff {n : Nat} {F W B : Nat → Int} {r t : Nat} : missB n F W B r t = true ↔ missed F W B n r t := by
  constructor
  · intro h
    refine Classical.byContradiction fun hn => ?_
    have : missB n F W B r t = false := anyB_false.2 fun i hi => by
      cases hb : (decide (F i ≤ t) && decide (rel (F i) (W i) t + W i = t + 1) && decide (got F W B n r (t + 1) i < B i))
      · rfl
      · simp at hb
        exact absurd ⟨i, hi, hb.1.1, hb.1.2, hb.2⟩ hn
    rw [this] at h
    cases h
  · rintro ⟨i, hi, h1, h2, h3⟩
    exact anyB_true hi (by simp [h1, h2, h3])
theorem keptB_iff {n : Nat} {F W B : Nat → Int} {r h : Nat} : keptB n F W B r h = true ↔ ∀ t, t < h → ¬ missed F W B n r t := by
  unfold keptB
  rw [Bool.not_eq_true', anyB_false]
  constructor
  · intro hh t ht hm
    have := hh t ht
    rw [missB_iff.2 hm] at this
    cases this
  · intro hh t ht
    cases hb : missB n F W B r t
    · rfl
    · exact absurd (missB_iff.1 hb) (hh t ht)
/-- The numbers of a list. -/
def nums (l : List Nat) (k : Nat) : Int := ((l.getD k 0 : Nat) : Int)
/-- A list of lists as it lies in memory. -/
def Rows2 (w : World) (v : Value) (h : Nat) (L : Nat → List Nat) : Prop :=
  ∃ (a : Option Addr) (c b o : Nat) (A : Nat → Option Addr) (C : Nat → Nat), v = .slice a h c ∧ (0 < h → a = some ⟨b, o, none⟩) ∧ ∀ t, t < h → w.cell? ⟨b, o + t, none⟩ = some (.slice (A t) (L t).length (C t)) ∧ Row w (A t) (L t).length (nums (L t))
theorem Rows2.mono {u w : World} {v : Value} {h : Nat} {L : Nat → List Nat} (R : Rows2 u v h L) (hb : Below u.heap.size u w) : Rows2 w v h L := by
  obtain ⟨a, c, b, o, A, C, h1, h2, h3⟩ := R
  exact ⟨a, c, b, o, A, C, h1, h2, fun t ht => ⟨up hb (h3 t ht).1, (h3 t ht).2.mono hb⟩⟩
/-- The plan while it is being made, in tick t: rows before t are done, row t has l, those behind are empty; block G: what each one has. From block D on: row t. -/
structure Sv (w wr : World) (O G h t D n : Nat) (L : Nat → List Nat) (l : List Nat) (g : Nat → Int) (v : Value) : Prop where
  bel : Below w.heap.size w wr
  f : ∃ f, VAt wr O h f ∧ (∀ s, s < t → ∃ a c, f s = .slice a (L s).length c ∧ ∃ b o, (0 < (L s).length → a = some ⟨b, o, none⟩ ∧ b < D ∧ b ≠ O ∧ b ≠ G) ∧ ∀ k, k < (L s).length → wr.cell? ⟨b, o + k, none⟩ = some (.int .i64 (nums (L s) k))) ∧ f t = v ∧ ∀ s, t < s → f s = .slice none 0 0
  got : VAt wr G n (iv g)
  own : wr.ownsRow D 3 1 v l.length ((List.range l.length).map fun j => .int .i64 (nums l j))
  lt : w.heap.size ≤ O ∧ w.heap.size ≤ G ∧ O < D ∧ G < D ∧ O ≠ G ∧ D ≤ wr.heap.size
section
variable {w wr w' : World} {O G h t D n : Nat} {L : Nat → List Nat} {l : List Nat} {g : Nat → Int} {v : Value}
theorem kept_below {base e n : Nat} {v : Value} {xs : List Value} (h : wr.ownsRow base e 1 v n xs) (hb : Below wr.heap.size wr w') : w'.ownsRow base e 1 v n xs :=
  h.kept (row := none) ⟨hb.os, hb.tape, hb.output, hb.size, fun i hi _ => hb.block i hi⟩ (by cases h : v.ownBlock <;> simp)
theorem Sv.mono (S : Sv w wr O G h t D n L l g v) (hb : Below wr.heap.size wr w') : Sv w w' O G h t D n L l g v := by
  obtain ⟨f, h1, h2, h3, h4⟩ := S.f
  refine ⟨bthen S.bel hb S.bel.size, ⟨f, h1.mono hb, fun s hs => ?_, h3, h4⟩, S.got.mono hb, kept_below S.own hb, S.lt.1, S.lt.2.1, S.lt.2.2.1, S.lt.2.2.2.1, S.lt.2.2.2.2.1, Nat.le_trans S.lt.2.2.2.2.2 hb.size⟩
  obtain ⟨a, c, e, b, o, g1, g2⟩ := h2 s hs
  exact ⟨a, c, e, b, o, g1, fun k hk => up hb (g2 k hk)⟩
theorem Sv.setG (S : Sv w wr O G h t D n L l g v) (j : Nat) (x : Int) : Sv w (wr.setCell ⟨G, j, none⟩ (.int .i64 x)) O G h t D n L l (putI g j x) v := by
  obtain ⟨f, h1, h2, h3, h4⟩ := S.f
  have lt := S.lt
  refine ⟨S.bel.setCell lt.2.1 _, ⟨f, h1.far (Ne.symm lt.2.2.2.2.1), fun s hs => ?_, h3, h4⟩, S.got.setI j x, ownsRow_setCell_below S.own lt.2.2.2.1 _, lt.1, lt.2.1, lt.2.2.1, lt.2.2.2.1, lt.2.2.2.2.1, by simpa using lt.2.2.2.2.2⟩
  obtain ⟨a, c, e, b, o, g1, g2⟩ := h2 s hs
  refine ⟨a, c, e, b, o, g1, fun k hk => ?_⟩
  have := (g1 (by omega)).2.2.2
  rw [cell_set, if_neg (by simp [Ne.symm this])]
  exact g2 k hk
theorem Sv.congrG (S : Sv w wr O G h t D n L l g v) {g' : Nat → Int} (hg : ∀ j, j < n → g' j = g j) : Sv w wr O G h t D n L l g' v :=
  ⟨S.bel, S.f, S.got.congr fun k hk => congrArg (Value.int .i64) (hg k hk), S.own, S.lt⟩
theorem nums_snoc (l : List Nat) (i : Nat) : nums (l ++ [i]) l.length = i := by unfold nums; simp
theorem nums_keep (l : List Nat) (i k : Nat) (h : k < l.length) : nums (l ++ [i]) k = nums l k := by
  unfold nums
  rw [List.getD_eq_getElem?_getD, List.getD_eq_getElem?_getD, List.getElem?_append_left h]
theorem own_snoc {base e : Nat} {w : World} {v : Value} {l : List Nat} (i : Nat) (h : w.ownsRow base e 1 v l.length ((List.range l.length).map fun j => .int .i64 (nums l j))) :
    w.ownsRow base e 1 v l.length ((List.range l.length).map fun j => .int .i64 (nums (l ++ [i]) j)) := by
  have : ((List.range l.length).map fun j => Value.int .i64 (nums (l ++ [i]) j)) = (List.range l.length).map fun j => .int .i64 (nums l j) :=
    List.map_congr_left fun j hj => by rw [nums_keep l i j (List.mem_range.1 hj)]
  rw [this]
  exact h
theorem Sv.push (S : Sv w wr O G h t D n L l g v) (ht : t < h) {i : Nat} {v' : Value} (hown : w'.ownsRow D 3 1 v' (l.length + 1) ((List.range (l.length + 1)).map fun j => .int .i64 (nums (l ++ [i]) j))) (hb : Below D wr w') (hsz : wr.heap.size ≤ w'.heap.size) :
    Sv w (w'.setCell ⟨O, t, none⟩ v') O G h t D n L (l ++ [i]) g v' := by
  obtain ⟨f, h1, h2, h3, h4⟩ := S.f
  have lt := S.lt
  have keep : ∀ b o u, b < D → b ≠ O → wr.cell? ⟨b, o, none⟩ = some u → (w'.setCell ⟨O, t, none⟩ v').cell? ⟨b, o, none⟩ = some u := fun b o u hbD hne hc => by
    rw [cell_set, if_neg (by simp [Ne.symm hne])]
    exact (hb.cell (p := ⟨b, o, none⟩) hbD).trans hc
  have hO : VAt w' O h f := ⟨fun k hk => (hb.cell (p := ⟨O, k, none⟩) lt.2.2.1).trans (h1.c k hk), fun k => (hb.frozen (p := ⟨O, k, none⟩) lt.2.2.1).trans (h1.fr k), Nat.lt_of_lt_of_le h1.lt hsz⟩
  have hG : VAt w' G n (iv g) := ⟨fun k hk => (hb.cell (p := ⟨G, k, none⟩) lt.2.2.2.1).trans (S.got.c k hk), fun k => (hb.frozen (p := ⟨G, k, none⟩) lt.2.2.2.1).trans (S.got.fr k), Nat.lt_of_lt_of_le S.got.lt hsz⟩
  have hwD : w.heap.size ≤ D := by omega
  refine ⟨(S.bel.trans (hb.mono hwD)).setCell lt.1 _, ⟨putV f t v', hO.set t v', fun s hs => ?_, putV_at _ _ _, fun s hs => ?_⟩, hG.far lt.2.2.2.2.1, ?_, lt.1, lt.2.1, lt.2.2.1, lt.2.2.2.1, lt.2.2.2.2.1, by simp; omega⟩
  · obtain ⟨a, c, e, b, o, g1, g2⟩ := h2 s hs
    rw [putV_ne (by omega)]
    refine ⟨a, c, e, b, o, g1, fun k hk => ?_⟩
    obtain ⟨_, l1, l2, _⟩ := g1 (by omega)
    exact keep _ _ _ l1 l2 (g2 k hk)
  · rw [putV_ne (by omega)]
    exact h4 s hs
  · rw [List.length_append, List.length_singleton]
    exact ownsRow_setCell_below hown lt.2.2.1 _
/-- On to the next tick. -/
theorem Sv.tick (S : Sv w wr O G h t D n L l g v) (hl : L t = l) (ht : t < h) : Sv w wr O G h (t + 1) wr.heap.size n L [] g (.slice none 0 0) := by
  obtain ⟨f, h1, h2, h3, h4⟩ := S.f
  have lt := S.lt
  refine ⟨S.bel, ⟨f, h1, fun s hs => ?_, h4 (t + 1) (by omega), fun s hs => h4 s (by omega)⟩, S.got, World.ownsRow_nil _ _ _ _, lt.1, lt.2.1, by omega, by omega, lt.2.2.2.2.1, Nat.le_refl _⟩
  by_cases e : s = t
  · subst e
    obtain ⟨a, c, b, hv, _, hb, hc⟩ := own_cells S.own
    refine ⟨a, c, by rw [h3, hv, hl], b, 0, fun h0 => ?_, fun k hk => ?_⟩
    · rw [hl] at h0
      obtain ⟨e1, e2, e3⟩ := hb h0
      exact ⟨e1, e3, by omega, by omega⟩
    · rw [hl] at hk ⊢
      rw [Nat.zero_add]
      exact hc k hk
  · obtain ⟨a, c, e1, b, o, g1, g2⟩ := h2 s (by omega)
    refine ⟨a, c, e1, b, o, fun h0 => ?_, g2⟩
    obtain ⟨x1, x2, x3, x4⟩ := g1 h0
    exact ⟨x1, by omega, x3, x4⟩
/-- The counts lie in a new block now. -/
theorem Sv.reG (S : Sv w wr O G h t D n L [] g (.slice none 0 0)) {G' : Nat} {g' : Nat → Int} (hb : Below wr.heap.size wr w') (hG : VAt w' G' n (iv g')) (hn : wr.heap.size ≤ G') : Sv w w' O G' h t w'.heap.size n L [] g' (.slice none 0 0) := by
  have S' := S.mono hb
  obtain ⟨f, h1, h2, h3, h4⟩ := S'.f
  have lt := S.lt
  have hs := hb.size
  have hl := hG.lt
  refine ⟨S'.bel, ⟨f, h1, fun s hs => ?_, h3, h4⟩, hG, World.ownsRow_nil _ _ _ _, lt.1, by have := S.bel.size; omega, by omega, hl, by omega, Nat.le_refl _⟩
  obtain ⟨a, c, e1, b, o, g1, g2⟩ := h2 s hs
  refine ⟨a, c, e1, b, o, fun h0 => ?_, g2⟩
  obtain ⟨x1, x2, x3, x4⟩ := g1 h0
  exact ⟨x1, by omega, x3, by omega⟩
/-- At the beginning. -/
theorem Sv.start {W : World} (hB : Below w.heap.size w W) (hO : VAt W O h (fun _ => .slice none 0 0)) (hG : VAt W G n (iv g)) (h1 : w.heap.size ≤ O) (h2 : w.heap.size ≤ G) (h3 : O ≠ G) : Sv w W O G h 0 W.heap.size n L [] g (.slice none 0 0) :=
  ⟨hB, ⟨_, hO, fun s hs => absurd hs (Nat.not_lt_zero _), rfl, fun _ _ => rfl⟩, hG, World.ownsRow_nil _ _ _ _, h1, h2, hO.lt, hG.lt, h3, Nat.le_refl _⟩
theorem Sv.rows (S : Sv w wr O G h h D n L l g v) : Rows2 wr (.slice (some ⟨O, 0, none⟩) h h) h L := by
  obtain ⟨f, hv, h1, _⟩ := S.f
  have hA : ∀ s, ∃ a c, s < h → f s = .slice a (L s).length c ∧ Row wr a (L s).length (nums (L s)) := fun s => by
    by_cases hs : s < h
    · obtain ⟨a, c, e, b, o, g1, g2⟩ := h1 s hs
      exact ⟨a, c, fun _ => ⟨e, b, o, fun h0 => (g1 h0).1, g2⟩⟩
    · exact ⟨none, 0, fun h => absurd h hs⟩
  obtain ⟨A, hA3⟩ := Classical.axiomOfChoice hA
  obtain ⟨C, hC⟩ := Classical.axiomOfChoice hA3
  refine ⟨_, _, O, 0, A, C, rfl, fun _ => rfl, fun s hs => ?_⟩
  obtain ⟨e, hr⟩ := hC s hs
  rw [Nat.zero_add, hv.c s hs, e]
  exact ⟨rfl, hr⟩
end
end Go.Proofs.Yteokhadpenalaaa
