/- Many elements of s cells are appended to a row of one's own. Nothing of the program is named here. -/
import Derived.Test.YtgflfdnajchjaaaGreatDoorJB
namespace Go.Proofs.YtgflfdnajchjaaaGreatDoor
set_option linter.unusedVariables false
set_option linter.unusedSimpArgs false
open Go.RowKit Go.Sort
variable {P : Program}
theorem rows_join (n m s : Nat) (f h g : Nat → Value) (hg : ∀ j, j < n * s → g j = f j) (hh : ∀ j, j < m * s → g (n * s + j) = h j) : (List.range (n * s)).map f ++ (List.range (m * s)).map h = (List.range ((n + m) * s)).map g := by
  rw [show (n + m) * s = n * s + m * s by rw [Nat.add_mul]]
  refine List.ext_getElem? fun j => ?_
  by_cases hj : j < n * s
  · rw [List.getElem?_append_left (by simpa using hj), List.getElem?_map, List.getElem?_map, List.getElem?_range hj, List.getElem?_range (by omega)]
    simp [hg j hj]
  · rw [List.getElem?_append_right (by simp; omega)]
    simp only [List.length_map, List.length_range]
    by_cases hj2 : j < n * s + m * s
    · rw [List.getElem?_map, List.getElem?_map, List.getElem?_range hj2, List.getElem?_range (by omega)]
      have := hh (j - n * s) (by omega)
      rw [show n * s + (j - n * s) = j by omega] at this
      simp [this]
    · rw [List.getElem?_eq_none (by simp; omega), List.getElem?_eq_none (by simp; omega)]
/-- 'append(v, l...)', l a slice of m elements. -/
theorem wpList_append_rows {ops : Array Oper} {rest : List Oper} {o : Oper} {a : Act} {Q : Exit → Act → World → Prop} (w : World) (base : Nat) (hgd : o.guard = none) (sl x : Operand) (t : TypeId)
    (ho : o.op = .call { callee := .builtin .append, args := #[sl, x], argTypes := #[t, t] })
    (e : TypeId) (z : Value) (s bytes : Nat) (ht : P.underlying t = some (.slice e)) (hi : (P.info? e).map (fun i => (i.zero, i.size, i.bytes)) = some (some z, s, bytes)) (hzs : z.cells.size = s) (hs0 : 0 < s) (hbt : bytes ≤ 1000)
    (v : Value) (n : Nat) (f : Nat → Value) (hs : a.eval sl = v) (b q m c : Nat) (hx : a.eval x = .slice (some ⟨b, q, none⟩) m c) (h : Nat → Value) (hcs : ∀ j, j < m * s → w.cell? ⟨b, q + j, none⟩ = some (h j)) (hu1 : ∀ j, j < m * s → (h j).oneCell' = true)
    (g : Nat → Value) (hg : ∀ j, j < n * s → g j = f j) (hgu : ∀ j, j < m * s → g (n * s + j) = h j)
    (hown : w.ownsRow base e s v n ((List.range (n * s)).map f)) (hbase : base ≤ w.heap.size) (hn : n + m ≤ 1000000)
    (hk : ∀ v' w', w'.ownsRow base e s v' (n + m) ((List.range ((n + m) * s)).map g) → w.grownBy w' v.ownBlock → (v'.ownBlock = v.ownBlock ∨ v'.ownBlock = some w.heap.size) → wpList P ops Q rest (a.put o.dst v') w') :
    wpList P ops Q (o :: rest) a w := by
  obtain ⟨i, hi1, hz, hsz, hby⟩ := info_split hi
  refine wpList_append_own_at _ hgd sl x t ho base e i z s bytes ht hi1 hz hsz hby hzs hs0 v n _ hs hown ⟨b, q, none⟩ m c ((List.range (m * s)).map h) hx (by simp) (fun j v' hj => ?_) (fun u hu => ?_) (by unfold maxLen; omega) ?_ hbase ?_
  · have hj' : j < m * s := by have := (List.getElem?_eq_some_iff.1 hj).1; simpa using this
    rw [List.getElem?_map, List.getElem?_range hj'] at hj
    rw [Addr.add_mid, hcs j hj', ← hj]
    rfl
  · obtain ⟨j, hj, rfl⟩ := List.mem_map.1 hu
    exact hu1 j (List.mem_range.1 hj)
  · have : (n + m) * bytes ≤ 1000000 * 1000 := Nat.mul_le_mul hn hbt
    omega
  · intro v' w' h2 h3 _ h5
    rw [rows_join n m s f h g hg hgu] at h2
    exact hk v' w' h2 h3 h5
end Go.Proofs.YtgflfdnajchjaaaGreatDoor
