/- 'append([]T{}, l...)' with l nil let in. Nothing of the program is named here. -/
import Derived.Test.YtfkbcjpiijcbfaaRowK
import Derived.Laws.OwnMore
namespace Go.Proofs.Ytfkbcjpiijcbfaa
set_option linter.unusedVariables false
set_option linter.unusedSimpArgs false
open Go.RowKit Go.Sort
variable {P : Program}
theorem run_append_nil_any {w : World} (base : Nat) (t ty e : TypeId) (i : TypeInfo) (size c : Nat) (ht : P.underlying t = some (.slice e)) (hi : P.info? e = some i)
    (v : Value) (n : Nat) (xs : List Value) (hown : w.ownsRow base e size v n xs) :
    (Builtin.append_ #[t, t] ty #[v, .slice none 0 c]).run P w = .ok v w := by
  rcases hown.2 with ⟨rfl, rfl⟩ | ⟨g, cap, cur, rfl, _, _, hnc, _⟩
  · simp [Builtin.append_, run_underlying ht, sizeOf, typeInfo, hi, Builtin.lenOf, Builtin.firstCells]
  · simp [Builtin.append_, run_underlying ht, sizeOf, typeInfo, hi, Builtin.lenOf, Builtin.firstCells, hnc, storeCells]
/-- 'append([]T{}, l...)': what lies behind holds the same cells in a new block. -/
theorem wpList_append_copyA {ops : Array Oper} {rest : List Oper} {o : Oper} {a : Act} {Q : Exit → Act → World → Prop} (w : World) (hgd : o.guard = none) (sl x : Operand) (t : TypeId)
    (ho : o.op = .call { callee := .builtin .append, args := #[sl, x], argTypes := #[t, t] })
    (e : TypeId) (z : Value) (s bytes : Nat) (ht : P.underlying t = some (.slice e)) (hi : (P.info? e).map (fun i => (i.zero, i.size, i.bytes)) = some (some z, s, bytes)) (hzs : z.cells.size = s) (hs0 : 0 < s) (hbt : bytes ≤ 1000)
    (n c : Nat) (A : Option Addr) (h0 : A = none → n = 0) (f : Nat → Value) (hs : a.eval sl = .slice (some ⟨w.heap.size, 0, none⟩) 0 0) (hx : a.eval x = .slice A n c)
    (hR : RowK w A n s f) (h1 : ∀ j, (f j).oneCell' = true) (hn : n ≤ 1000000)
    (h : ∀ v' w', w'.ownsRow w.heap.size e s v' n ((List.range (n * s)).map f) → Below w.heap.size w w' → w.heap.size < w'.heap.size → wpList P ops Q rest (a.put o.dst v') w') :
    wpList P ops Q (o :: rest) a (w.alloc (.cells #[] e)) := by
  cases A with
  | some A => exact wpList_append_copy w hgd sl x t ho e z s bytes ht hi hzs hs0 hbt n c A f hs hx hR h1 hn h
  | none =>
    obtain rfl := h0 rfl
    obtain ⟨i, hi1, hz, hsz, hby⟩ := info_split hi
    have hown := own_lit w e s
    refine wpList_plain hgd fun K hK => ?_
    have hrun := run_append_nil_any (P := P) w.heap.size t o.type e i s c ht hi1 _ 0 [] hown
    unfold Oper.wp
    simp [execOp, ho, resolve, invoke, builtin, hs, hx, hrun, Result.andThen]
    exact hK _ _ (h _ _ (by simpa using hown) ((Below.refl _ _).alloc (Nat.le_refl _) _) (by simp))
end Go.Proofs.Ytfkbcjpiijcbfaa
