/- 'append(append([]T{}, l...), x)' at the steps of a region that draws its order. Nothing of the program is named here. -/
import Derived.Test.YtfkbcjpiijcbfaaCopyA
import Derived.Deep.AppendLies
namespace Go.Proofs.Ytfkbcjpiijcbfaa
set_option linter.unusedVariables false
set_option linter.unusedSimpArgs false
open Go.RowKit Go.Sort
variable {P : Program}
theorem own_litAt (w : World) (e s base : Nat) (hb : base ≤ w.heap.size) : (w.alloc (.cells #[] e)).ownsRow base e s (.slice (some ⟨w.heap.size, 0, none⟩) 0 0) 0 [] :=
  ⟨by simp, .inr ⟨w.heap.size, 0, #[], rfl, hb, (MapKept.heap_alloc w _).1, Nat.le_refl _, by decide, by simp, by simp⟩⟩
/-- A row is copied to an empty row of one's own. -/
theorem step_copyA {ops : Array Oper} {o : Oper} {a : Act} {w : World} {K : Act → World → Prop} {Q : Exit → Act → World → Prop} {E : Prop} (hgd : o.guard = none) (sl x : Operand) (t : TypeId)
    (ho : o.op = .call { callee := .builtin .append, args := #[sl, x], argTypes := #[t, t] })
    (base : Nat) (e : TypeId) (z : Value) (s bytes : Nat) (ht : P.underlying t = some (.slice e)) (hi : (P.info? e).map (fun i => (i.zero, i.size, i.bytes)) = some (some z, s, bytes)) (hzs : z.cells.size = s) (hs0 : 0 < s) (hbt : bytes ≤ 1000)
    (Z : Nat) (hs : a.eval sl = .slice (some ⟨Z, 0, none⟩) 0 0) (hown : w.ownsRow base e s (.slice (some ⟨Z, 0, none⟩) 0 0) 0 []) (hbase : base ≤ w.heap.size)
    (n c : Nat) (A : Option Addr) (h0 : A = none → n = 0) (f : Nat → Value) (hx : a.eval x = .slice A n c)
    (hR : RowK w A n s f) (h1 : ∀ j, (f j).oneCell' = true) (hn : n ≤ 1000000)
    (h : ∀ v' w', w'.ownsRow base e s v' n ((List.range (n * s)).map f) → w.grownBy w' (some Z) → (v'.ownBlock = some Z ∨ v'.ownBlock = some w.heap.size) → K (a.put o.dst v') w') :
    if Region.wanted o (yielded ops a.tmps) = true then Oper.wp P o a w K Q else E := by
  have hw : Region.wanted o (yielded ops a.tmps) = true := by simp [Region.wanted, hgd]
  rw [if_pos hw]
  obtain ⟨i, hi1, hz, hsz, hby⟩ := info_split hi
  cases A with
  | none =>
    obtain rfl := h0 rfl
    have hrun := run_append_nil_any (P := P) base t o.type e i s c ht hi1 _ 0 [] hown
    unfold Oper.wp
    simp [execOp, ho, resolve, invoke, builtin, hs, hx, hrun, Result.andThen]
    exact h _ _ (by simpa using hown) ⟨rfl, rfl, rfl, Nat.le_refl _, fun _ _ _ => rfl⟩ (.inl rfl)
  | some A =>
    obtain ⟨b, m, hA, hc⟩ := hR
    have hnews : ∀ j u, ((List.range (n * s)).map f)[j]? = some u → w.cell? (A.add j) = some u := fun j u hu => by
      have hj : j < n * s := by have := (List.getElem?_eq_some_iff.1 hu).1; simpa using this
      rw [List.getElem?_map, List.getElem?_range hj] at hu
      have h0 : 0 < n := by
        rcases Nat.eq_zero_or_pos n with h | h
        · subst h; simp at hj
        · exact h
      rw [Option.some.inj (hA h0), Addr.add_mid, ← hu]
      exact hc j hj
    have hb0 : (0 + n) * bytes ≤ 1000000 * 1000 := Nat.mul_le_mul (by omega) hbt
    obtain ⟨v', w', hr, h2, h3, h4, h5⟩ := run_append_own_at (P := P) w base t o.type e i z s bytes ht hi1 hz hsz hby hzs hs0 _ 0 [] hown A n c ((List.range (n * s)).map f) (by simp) hnews (fun u hu => by obtain ⟨j, _, rfl⟩ := List.mem_map.1 hu; exact h1 j) (by unfold maxLen; omega) (by omega) hbase
    unfold Oper.wp execOp
    simp only [ho, resolve, invoke, builtin, Sem.run_bind, Sem.run_pure, Result.andThen_ok, List.map_toArray, List.map_cons, List.map_nil, hs, hx, hr]
    exact h v' w' (by simpa using h2) h3 h5
/-- One element is appended to a row of one's own: it lies in the block B. -/
theorem step_elem {ops : Array Oper} {o : Oper} {a : Act} {w : World} {K : Act → World → Prop} {Q : Exit → Act → World → Prop} {E : Prop} (hgd : o.guard = none) (sl x : Operand) (t : TypeId)
    (ho : o.op = .call { callee := .builtin .append, args := #[sl, x], argTypes := #[t, t] })
    (base : Nat) (e : TypeId) (z : Value) (s bytes : Nat) (ht : P.underlying t = some (.slice e)) (hi : (P.info? e).map (fun i => (i.zero, i.size, i.bytes)) = some (some z, s, bytes)) (hzs : z.cells.size = s) (hs0 : 0 < s) (hbt : bytes ≤ 1000)
    (v : Value) (n : Nat) (f g : Nat → Value) (hs : a.eval sl = v) (hown : w.ownsRow base e s v n ((List.range (n * s)).map f)) (hbase : base ≤ w.heap.size)
    (B : Nat) (hx : a.eval x = .slice (some ⟨B, 0, none⟩) 1 1) (u : Array Value) (hus : u.size = s) (hu1 : ∀ y ∈ u.toList, y.oneCell' = true) (hB : w.heap[B]? = some (.cells u e))
    (hg : ∀ j, j < n * s → g j = f j) (hgu : ∀ j, j < s → u[j]? = some (g (n * s + j))) (hn : n + 1 ≤ 1000000)
    (h : ∀ v' w', w'.ownsRow base e s v' (n + 1) ((List.range ((n + 1) * s)).map g) → w.grownBy w' v.ownBlock → K (a.put o.dst v') w') :
    if Region.wanted o (yielded ops a.tmps) = true then Oper.wp P o a w K Q else E := by
  have hw : Region.wanted o (yielded ops a.tmps) = true := by simp [Region.wanted, hgd]
  rw [if_pos hw]
  obtain ⟨i, hi1, hz, hsz, hby⟩ := info_split hi
  have hb0 : (n + 1) * bytes ≤ 1000000 * 1000 := Nat.mul_le_mul hn hbt
  obtain ⟨v', w', hr, h2, h3, h4, h5⟩ := run_append_own_at (P := P) w base t o.type e i z s bytes ht hi1 hz hsz hby hzs hs0 _ n _ hown ⟨B, 0, none⟩ 1 1 u.toList (by simp [hus]) (World.news_of_block hB) hu1 (by unfold maxLen; omega) (by omega) hbase
  unfold Oper.wp execOp
  simp only [ho, resolve, invoke, builtin, Sem.run_bind, Sem.run_pure, Result.andThen_ok, List.map_toArray, List.map_cons, List.map_nil, hs, hx, hr]
  have e1 : (List.range (n * s)).map f ++ u.toList = (List.range ((n + 1) * s)).map g := by
    rw [show (n + 1) * s = n * s + s by rw [Nat.add_mul, Nat.one_mul]]
    refine List.ext_getElem? fun j => ?_
    by_cases hj : j < n * s
    · rw [List.getElem?_append_left (by simpa using hj), List.getElem?_map, List.getElem?_map, List.getElem?_range hj, List.getElem?_range (by omega)]
      simp [hg j hj]
    · rw [List.getElem?_append_right (by simp; omega)]
      simp only [List.length_map, List.length_range]
      by_cases hj2 : j < n * s + s
      · rw [List.getElem?_map, List.getElem?_range hj2]
        have := hgu (j - n * s) (by omega)
        rw [show n * s + (j - n * s) = j by omega] at this
        simpa using this
      · rw [List.getElem?_eq_none (by simp; omega), List.getElem?_eq_none (by simp [hus]; omega)]
  rw [e1] at h2
  exact h v' w' h2 h3
theorem two_lo (w : World) (o1 o2 : Obj) : ((w.alloc o1).alloc o2).drew.heap[w.heap.size]? = some o1 :=
  (Below.heap_alloc (w.alloc o1) o2 w.heap.size (by simp)).trans (heap_alloc_new w o1)
theorem two_hi (w : World) (o1 o2 : Obj) : ((w.alloc o1).alloc o2).drew.heap[w.heap.size + 1]? = some o2 := by
  show ((w.alloc o1).alloc o2).heap[w.heap.size + 1]? = some o2
  simpa using heap_alloc_new (w.alloc o1) o2
theorem blk2 (w : World) (o1 o2 : Obj) : Below w.heap.size w ((w.alloc o1).alloc o2) := ((Below.refl _ _).alloc (Nat.le_refl _) _).alloc (by simp) _
theorem own_lit2 (w : World) (o : Obj) (e s base : Nat) (hb : base ≤ w.heap.size) : ((w.alloc o).alloc (.cells #[] e)).drew.ownsRow base e s (.slice (some ⟨w.heap.size + 1, 0, none⟩) 0 0) 0 [] := by
  have h := (own_litAt (w.alloc o) e s base (by simp; omega)).drew
  simpa using h
end Go.Proofs.Ytfkbcjpiijcbfaa
