/- Rows of elements of k cells each: owned, copied, appended to. Nothing of the program is named here. -/
import Derived.Test.YtdcogbokcbpnnaaOwn
namespace Go.Proofs.Ytdcogbokcbpnnaa
set_option linter.unusedVariables false
set_option linter.unusedSimpArgs false
open Go.RowKit Go.Sort

/-- A slice of n elements of s cells each as it lies in memory. -/
def RowK (w : World) (a : Option Addr) (n s : Nat) (f : Nat → Value) : Prop := ∃ b m, (0 < n → a = some ⟨b, m, none⟩) ∧ ∀ j, j < n * s → w.cell? ⟨b, m + j, none⟩ = some (f j)
theorem RowK.mono {u w : World} {a : Option Addr} {n s : Nat} {f : Nat → Value} (R : RowK u a n s f) (hb : Below u.heap.size u w) : RowK w a n s f := by
  obtain ⟨b, m, h1, h2⟩ := R
  exact ⟨b, m, h1, fun k hk => up hb (h2 k hk)⟩
theorem RowK.congr {w : World} {a : Option Addr} {n s : Nat} {f g : Nat → Value} (R : RowK w a n s f) (h : ∀ j, j < n * s → g j = f j) : RowK w a n s g := by
  obtain ⟨b, m, h1, h2⟩ := R
  exact ⟨b, m, h1, fun k hk => by rw [h k hk]; exact h2 k hk⟩
theorem own_cellsK {w : World} {base e s n : Nat} {v : Value} {f : Nat → Value} (h : w.ownsRow base e s v n ((List.range (n * s)).map f)) :
    ∃ a c b, v = .slice a n c ∧ n ≤ c ∧ (0 < n → a = some ⟨b, 0, none⟩ ∧ base ≤ b ∧ b < w.heap.size ∧ ∀ o, w.frozen? ⟨b, o, none⟩ = false) ∧ ∀ j, j < n * s → w.cell? ⟨b, j, none⟩ = some (f j) := by
  have h' := h
  obtain ⟨_, ⟨hv, rfl⟩ | ⟨g, cap, cur, hv, hg, hh, hn, hm, hs, ht⟩⟩ := h
  · exact ⟨none, 0, 0, hv, Nat.le_refl _, fun h => absurd h (Nat.lt_irrefl _), fun i hi => absurd hi (by simp)⟩
  · subst hv
    refine ⟨_, cap, g, rfl, hn, fun _ => ⟨rfl, hg, (Array.getElem?_eq_some_iff.1 hh).1, fun o => h'.frozenAt o⟩, fun j hj => ?_⟩
    have h2 := congrArg (fun l => l[j]?) ht
    simp only [List.getElem?_take, List.getElem?_map, List.getElem?_range hj, Option.map_some, if_pos hj] at h2
    rw [cell_of_row w g j cur e (0, 0) hh]
    simpa using h2
theorem own_nilK (w : World) (base e s : Nat) (f : Nat → Value) : w.ownsRow base e s (.slice none 0 0) 0 ((List.range (0 * s)).map f) := by
  simp only [Nat.zero_mul]
  exact World.ownsRow_nil _ _ _ _
/-- An empty literal: a new block without cells. -/
theorem own_lit (w : World) (e s : Nat) : (w.alloc (.cells #[] e)).ownsRow w.heap.size e s (.slice (some ⟨w.heap.size, 0, none⟩) 0 0) 0 [] :=
  ⟨by simp, .inr ⟨w.heap.size, 0, #[], rfl, Nat.le_refl _, (MapKept.heap_alloc w _).1, Nat.le_refl _, by decide, by simp, by simp⟩⟩

variable {P : Program}
/-- 'append([]T{}, l...)': what lies behind holds the same cells in a new block. -/
theorem wpList_append_copy {ops : Array Oper} {rest : List Oper} {o : Oper} {a : Act} {Q : Exit → Act → World → Prop} (w : World) (hgd : o.guard = none) (sl x : Operand) (t : TypeId)
    (ho : o.op = .call { callee := .builtin .append, args := #[sl, x], argTypes := #[t, t] })
    (e : TypeId) (z : Value) (s bytes : Nat) (ht : P.underlying t = some (.slice e)) (hi : (P.info? e).map (fun i => (i.zero, i.size, i.bytes)) = some (some z, s, bytes)) (hzs : z.cells.size = s) (hs0 : 0 < s) (hbt : bytes ≤ 1000)
    (n c : Nat) (A : Addr) (f : Nat → Value) (hs : a.eval sl = .slice (some ⟨w.heap.size, 0, none⟩) 0 0) (hx : a.eval x = .slice (some A) n c)
    (hR : RowK w (some A) n s f) (h1 : ∀ j, (f j).oneCell' = true) (hn : n ≤ 1000000)
    (h : ∀ v' w', w'.ownsRow w.heap.size e s v' n ((List.range (n * s)).map f) → Below w.heap.size w w' → w.heap.size < w'.heap.size → wpList P ops Q rest (a.put o.dst v') w') :
    wpList P ops Q (o :: rest) a (w.alloc (.cells #[] e)) := by
  obtain ⟨i, hi1, hz, hsz, hby⟩ := info_split hi
  obtain ⟨b, m, hA, hc⟩ := hR
  have hnews : ∀ j u, ((List.range (n * s)).map f)[j]? = some u → (w.alloc (.cells #[] e)).cell? (A.add j) = some u := fun j u hu => by
    have hj : j < n * s := by have := (List.getElem?_eq_some_iff.1 hu).1; simpa using this
    rw [List.getElem?_map, List.getElem?_range hj] at hu
    have h0 : 0 < n := by
      rcases Nat.eq_zero_or_pos n with h | h
      · subst h; simp at hj
      · exact h
    rw [Option.some.inj (hA h0), Addr.add_mid, ← hu]
    exact up ((Below.refl _ _).alloc (Nat.le_refl _) _) (hc j hj)
  refine wpList_append_own _ hgd sl x t ho w.heap.size e i z s bytes ht hi1 hz hsz hby hzs hs0 _ 0 [] hs (own_lit w e s) A n c ((List.range (n * s)).map f) hx (by simp) hnews (fun u hu => ?_) (by unfold maxLen; omega) ?_ (by simp) ?_
  · obtain ⟨j, _, rfl⟩ := List.mem_map.1 hu
    exact h1 j
  · have : (0 + n) * bytes ≤ 1000000 * 1000 := Nat.mul_le_mul (by omega) hbt
    omega
  · intro v' w' hown hgrow _
    have hB : Below w.heap.size w w' := ((Below.refl w.heap.size w).alloc (Nat.le_refl _) (.cells #[] e)).grown hgrow (by simp) (fun k hk => by simp [Value.ownBlock] at hk; omega)
    refine h v' w' (by simpa using hown) hB ?_
    have := hgrow.size
    simp at this
    omega
/-- One element of s cells is appended to a row of one's own: it lies in a new block. -/
theorem wpList_append_elem {ops : Array Oper} {rest : List Oper} {o : Oper} {a : Act} {Q : Exit → Act → World → Prop} (w W0 : World) (base : Nat) (hgd : o.guard = none) (sl x : Operand) (t : TypeId)
    (ho : o.op = .call { callee := .builtin .append, args := #[sl, x], argTypes := #[t, t] })
    (e : TypeId) (z : Value) (s bytes : Nat) (ht : P.underlying t = some (.slice e)) (hi : (P.info? e).map (fun i => (i.zero, i.size, i.bytes)) = some (some z, s, bytes)) (hzs : z.cells.size = s) (hs0 : 0 < s) (hbt : bytes ≤ 1000)
    (v : Value) (n : Nat) (f : Nat → Value) (hs : a.eval sl = v) (u : Array Value) (hx : a.eval x = .slice (some ⟨w.heap.size, 0, none⟩) 1 1) (hus : u.size = s) (hu1 : ∀ y ∈ u.toList, y.oneCell' = true)
    (g : Nat → Value) (hg : ∀ j, j < n * s → g j = f j) (hgu : ∀ j, j < s → u[j]? = some (g (n * s + j)))
    (hown : w.ownsRow base e s v n ((List.range (n * s)).map f)) (hB : Below base W0 w) (hbase : base ≤ w.heap.size) (hn : n + 1 ≤ 1000000)
    (h : ∀ v' w', w'.ownsRow base e s v' (n + 1) ((List.range ((n + 1) * s)).map g) → Below base W0 w' → w.heap.size ≤ w'.heap.size → w.grownBy w' v.ownBlock → (v'.ownBlock = v.ownBlock ∨ v'.ownBlock = some (w.heap.size + 1)) → wpList P ops Q rest (a.put o.dst v') w') :
    wpList P ops Q (o :: rest) a (w.alloc (.cells u e)) := by
  obtain ⟨i, hi1, hz, hsz, hby⟩ := info_split hi
  refine wpList_append_own_at _ hgd sl x t ho base e i z s bytes ht hi1 hz hsz hby hzs hs0 v n _ hs (hown.alloc _) ⟨w.heap.size, 0, none⟩ 1 1 u.toList hx (by simp [hus]) (fun j v' hj => ?_) hu1 (by unfold maxLen; omega) ?_ (by simp; omega) ?_
  · rw [Addr.add_mid, Nat.zero_add]
    rw [cell_of_row _ w.heap.size j u e (0, 0) (MapKept.heap_alloc w _).1]
    simpa using hj
  · have : (n + 1) * bytes ≤ 1000000 * 1000 := Nat.mul_le_mul hn hbt
    omega
  · intro v' w' h2 h3 _ h5
    have h4 : w.heap.size ≤ w'.heap.size := by have := h3.size; simp at this; omega
    have e1 : (List.range (n * s)).map f ++ u.toList = (List.range ((n + 1) * s)).map g := by
      rw [show (n + 1) * s = n * s + s by rw [Nat.add_mul, Nat.one_mul]]
      refine List.ext_getElem? fun j => ?_
      by_cases hj : j < n * s
      · rw [List.getElem?_append_left (by simpa using hj), List.getElem?_map, List.getElem?_map, List.getElem?_range hj, List.getElem?_range (by omega)]
        simp [hg j hj]
      · rw [List.getElem?_append_right (by simp; omega)]
        simp only [List.length_map, List.length_range]
        by_cases hj2 : j < n * s + s
        · rw [List.getElem?_map, List.getElem?_range hj2]
          have := hgu (j - n * s) (by omega)
          rw [show n * s + (j - n * s) = j by omega] at this
          simpa using this
        · rw [List.getElem?_eq_none (by simp; omega), List.getElem?_eq_none (by simp [hus]; omega)]
    rw [e1] at h2
    refine h v' w' h2 ?_ h4 ⟨h3.os, h3.tape, h3.output, h4, fun i hi hne => ?_⟩ (by simpa using h5)
    · exact (hB.alloc hbase _).grown h3 (by simp; omega) (fun k hk => (hown.lt k hk).1)
    · exact (h3.block i (by simp; omega) hne).trans (Below.heap_alloc _ _ _ hi)
end Go.Proofs.Ytdcogbokcbpnnaa
