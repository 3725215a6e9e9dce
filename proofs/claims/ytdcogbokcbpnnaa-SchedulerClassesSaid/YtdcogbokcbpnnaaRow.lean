/- Rows of whole numbers as they lie in memory, and rows that grow by append. Nothing of the program is named here. -/
import Derived.Test.YtdcogbokcbpnnaaKit
import Derived.OwnWalk
import Derived.Maps.AppendAt
import Derived.Laws.AppendOwn
namespace Go.Proofs.Ytdcogbokcbpnnaa
set_option linter.unusedVariables false
set_option linter.unusedSimpArgs false
open Go.RowKit Go.Sort

/-- A slice of whole numbers as it lies in memory. -/
def Row (w : World) (a : Option Addr) (n : Nat) (xs : Nat → Int) : Prop := ∃ b m, (0 < n → a = some ⟨b, m, none⟩) ∧ ∀ k, k < n → w.cell? ⟨b, m + k, none⟩ = some (.int .i64 (xs k))

theorem Row.mono {W w : World} {a : Option Addr} {n : Nat} {xs : Nat → Int} (R : Row W a n xs) (hb : Below W.heap.size W w) : Row w a n xs := by
  obtain ⟨b, m, h1, h2⟩ := R
  exact ⟨b, m, h1, fun k hk => up hb (h2 k hk)⟩
theorem Row.congr {w : World} {a : Option Addr} {n m : Nat} {xs ys : Nat → Int} (R : Row w a n xs) (hn : n = m) (h : ∀ k, k < n → xs k = ys k) : Row w a m ys := by
  subst hn
  obtain ⟨b, m, h1, h2⟩ := R
  exact ⟨b, m, h1, fun k hk => by rw [← h k hk]; exact h2 k hk⟩
theorem Row.zero (w : World) (a : Option Addr) (xs : Nat → Int) : Row w a 0 xs := ⟨0, 0, fun h => absurd h (Nat.lt_irrefl _), fun k hk => absurd hk (Nat.not_lt_zero _)⟩

theorem info_split {P : Program} {e : TypeId} {z : Value} {n b : Nat} (h : (P.info? e).map (fun i => (i.zero, i.size, i.bytes)) = some (some z, n, b)) : ∃ i, P.info? e = some i ∧ i.zero = some z ∧ i.size = n ∧ i.bytes = b := by
  cases hi : P.info? e with
  | none => rw [hi] at h; simp at h
  | some i => rw [hi] at h; simp at h; exact ⟨i, rfl, h.1, h.2.1, h.2.2⟩

theorem vals_succ (f : Nat → Value) (n : Nat) : (List.range n).map f ++ [f n] = (List.range (n + 1)).map f := by
  rw [List.range_succ, List.map_append]; rfl

theorem own_cells {w : World} {base e : Nat} {v : Value} {n : Nat} {f : Nat → Value} (h : w.ownsRow base e 1 v n ((List.range n).map f)) :
    ∃ a c b, v = .slice a n c ∧ n ≤ c ∧ (0 < n → a = some ⟨b, 0, none⟩ ∧ base ≤ b ∧ b < w.heap.size) ∧ ∀ i, i < n → w.cell? ⟨b, i, none⟩ = some (f i) := by
  obtain ⟨_, ⟨hv, rfl⟩ | ⟨g, cap, cur, hv, hg, hh, hn, hm, hs, ht⟩⟩ := h
  · exact ⟨none, 0, 0, hv, Nat.le_refl _, fun h => absurd h (Nat.lt_irrefl _), fun i hi => absurd hi (Nat.not_lt_zero _)⟩
  · refine ⟨_, cap, g, hv, hn, fun _ => ⟨rfl, hg, (Array.getElem?_eq_some_iff.1 hh).1⟩, fun i hi => ?_⟩
    have h2 := congrArg (fun l => l[i]?) ht
    simp only [Nat.mul_one, List.getElem?_take, List.getElem?_map, List.getElem?_range hi, Option.map_some, if_pos hi] at h2
    rw [cell_of_row w g i cur e (0, 0) hh]
    simpa using h2

theorem own_row {w : World} {base e : Nat} {v : Value} {n : Nat} {xs : Nat → Int} (h : w.ownsRow base e 1 v n ((List.range n).map fun i => .int .i64 (xs i))) : ∃ a c, v = .slice a n c ∧ n ≤ c ∧ Row w a n xs := by
  obtain ⟨a, c, b, h1, h2, h3, h4⟩ := own_cells h
  exact ⟨a, c, h1, h2, b, 0, fun h0 => (h3 h0).1, fun k hk => by simpa using h4 k hk⟩

variable {P : Program}

/-- One value is appended to a row of one's own: it lies in a new block of one cell. -/
theorem wpList_append1 {ops : Array Oper} {rest : List Oper} {o : Oper} {a : Act} {Q : Exit → Act → World → Prop} (w W0 : World) (base : Nat) (hgd : o.guard = none) (s x : Operand) (t : TypeId)
    (ho : o.op = .call { callee := .builtin .append, args := #[s, x], argTypes := #[t, t] })
    (e : TypeId) (z : Value) (bytes : Nat) (ht : P.underlying t = some (.slice e)) (hi : (P.info? e).map (fun i => (i.zero, i.size, i.bytes)) = some (some z, 1, bytes)) (hzs : z.cells.size = 1) (hbt : bytes ≤ 1000)
    (v : Value) (n : Nat) (f : Nat → Value) (hs : a.eval s = v) (u : Value) (hx : a.eval x = .slice (some ⟨w.heap.size, 0, none⟩) 1 1)
    (hown : w.ownsRow base e 1 v n ((List.range n).map f)) (hB : Below base W0 w) (hbase : base ≤ w.heap.size) (hu : u = f n) (h1 : u.oneCell' = true) (hn : n + 1 ≤ 1000000)
    (h : ∀ v' w', w'.ownsRow base e 1 v' (n + 1) ((List.range (n + 1)).map f) → Below base W0 w' → base ≤ w'.heap.size → w.heap.size ≤ w'.heap.size → w.grownBy w' v.ownBlock → wpList P ops Q rest (a.put o.dst v') w') :
    wpList P ops Q (o :: rest) a (w.alloc (.cells #[u] e)) := by
  obtain ⟨i, hi1, hz, hsz, hby⟩ := info_split hi
  have hgr : w.grownBy (w.alloc (.cells #[u] e)) none := ⟨rfl, rfl, rfl, by simp, fun i hi _ => Below.heap_alloc _ _ _ hi⟩
  refine wpList_append_own _ hgd s x t ho base e i z 1 bytes ht hi1 hz hsz hby hzs (by omega) v n _ hs (hown.alloc _) ⟨w.heap.size, 0, none⟩ 1 1 [u] hx (by simp) (fun j v' hj => ?_) (fun v' hv => by simp at hv; rw [hv]; exact h1) (by unfold maxLen; omega) ?_ (by simp; omega) ?_
  · match j with
    | 0 => simp at hj; subst hj; simp [go_sem, Addr.add_mid]
    | j + 1 => simp at hj
  · have : (n + 1) * bytes ≤ 1000000 * 1000 := Nat.mul_le_mul hn hbt
    omega
  · intro v' w' h2 h3 _
    have h4 : w.heap.size ≤ w'.heap.size := by have := h3.size; simp at this; omega
    rw [hu, vals_succ] at h2
    refine h v' w' h2 ?_ (Nat.le_trans hbase h4) h4 ⟨h3.os, h3.tape, h3.output, h4, fun i hi hne => ?_⟩
    · exact (hB.alloc hbase _).grown h3 (by simp; omega) (fun k hk => (hown.lt k hk).1)
    · exact (h3.block i (by simp; omega) hne).trans (Below.heap_alloc _ _ _ hi)

/-- .. with the word on where the row lies afterwards: where it lay, or in a new block. -/
theorem wpList_append1_at {ops : Array Oper} {rest : List Oper} {o : Oper} {a : Act} {Q : Exit → Act → World → Prop} (w W0 : World) (base : Nat) (hgd : o.guard = none) (s x : Operand) (t : TypeId)
    (ho : o.op = .call { callee := .builtin .append, args := #[s, x], argTypes := #[t, t] })
    (e : TypeId) (z : Value) (bytes : Nat) (ht : P.underlying t = some (.slice e)) (hi : (P.info? e).map (fun i => (i.zero, i.size, i.bytes)) = some (some z, 1, bytes)) (hzs : z.cells.size = 1) (hbt : bytes ≤ 1000)
    (v : Value) (n : Nat) (f : Nat → Value) (hs : a.eval s = v) (u : Value) (hx : a.eval x = .slice (some ⟨w.heap.size, 0, none⟩) 1 1)
    (hown : w.ownsRow base e 1 v n ((List.range n).map f)) (hB : Below base W0 w) (hbase : base ≤ w.heap.size) (hu : u = f n) (h1 : u.oneCell' = true) (hn : n + 1 ≤ 1000000)
    (h : ∀ v' w', w'.ownsRow base e 1 v' (n + 1) ((List.range (n + 1)).map f) → Below base W0 w' → w.heap.size ≤ w'.heap.size → w.grownBy w' v.ownBlock → (v'.ownBlock = v.ownBlock ∨ v'.ownBlock = some (w.heap.size + 1)) → wpList P ops Q rest (a.put o.dst v') w') :
    wpList P ops Q (o :: rest) a (w.alloc (.cells #[u] e)) := by
  obtain ⟨i, hi1, hz, hsz, hby⟩ := info_split hi
  refine wpList_append_own_at _ hgd s x t ho base e i z 1 bytes ht hi1 hz hsz hby hzs (by omega) v n _ hs (hown.alloc _) ⟨w.heap.size, 0, none⟩ 1 1 [u] hx (by simp) (fun j v' hj => ?_) (fun v' hv => by simp at hv; rw [hv]; exact h1) (by unfold maxLen; omega) ?_ (by simp; omega) ?_
  · match j with
    | 0 => simp at hj; subst hj; simp [go_sem, Addr.add_mid]
    | j + 1 => simp at hj
  · have : (n + 1) * bytes ≤ 1000000 * 1000 := Nat.mul_le_mul hn hbt
    omega
  · intro v' w' h2 h3 _ h5
    have h4 : w.heap.size ≤ w'.heap.size := by have := h3.size; simp at this; omega
    rw [hu, vals_succ] at h2
    refine h v' w' h2 ?_ h4 ⟨h3.os, h3.tape, h3.output, h4, fun i hi hne => ?_⟩ (by simpa using h5)
    · exact (hB.alloc hbase _).grown h3 (by simp; omega) (fun k hk => (hown.lt k hk).1)
    · exact (h3.block i (by simp; omega) hne).trans (Below.heap_alloc _ _ _ hi)

/-- Two rows that lie in different blocks. -/
def Apart (u v : Value) : Prop := ∀ b, u.ownBlock = some b → v.ownBlock ≠ some b
theorem Apart.symm {u v : Value} (h : Apart u v) : Apart v u := fun b h1 h2 => h b h2 h1
theorem Apart.grown {w : World} {base e n k : Nat} {u v v' : Value} {xs : List Value} (h : Apart u v) (hu : w.ownsRow base e k u n xs) (hv : v'.ownBlock = v.ownBlock ∨ v'.ownBlock = some (w.heap.size + 1)) : Apart u v' := fun b h1 h2 => by
  rcases hv with hv | hv
  · exact h b h1 (hv ▸ h2)
  · have h3 := (hu.lt b h1).2
    rw [h2] at hv
    have := Option.some.inj hv
    omega
theorem Apart.keep {w w' : World} {base e n k : Nat} {u v : Value} {xs : List Value} (h : Apart u v) (hu : w.ownsRow base e k u n xs) (hg : w.grownBy w' v.ownBlock) : w'.ownsRow base e k u n xs := by
  refine hu.kept hg ?_
  cases hb : u.ownBlock with
  | none => exact .inl rfl
  | some b => exact .inr fun h2 => h b hb h2.symm
theorem Apart.nil (v : Value) : Apart (.slice none 0 0) v := fun b h => by cases h

end Go.Proofs.Ytdcogbokcbpnnaa
