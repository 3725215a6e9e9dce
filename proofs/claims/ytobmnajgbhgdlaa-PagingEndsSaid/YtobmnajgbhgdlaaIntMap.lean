/- A map with whole numbers as keys, as a function: made, kept, read, written. Nothing of the program is named here. -/
import Derived.Maps.Own
import Derived.Maps.OwnOps
import Derived.Test.YtobmnajgbhgdlaaRow
namespace Go.Proofs.Ytobmnajgbhgdlaa
set_option linter.unusedVariables false
set_option linter.unusedSimpArgs false
open Go.RowKit Go.Maps Go.ChangeMaps Go.MapKept

/-- Block b holds a map of at most n entries that answers as M does. -/
def MapAt (w : World) (b n : Nat) (M : Int → Option Value) : Prop :=
  ∃ (es : Array MapEntry) (clock : Nat), w.heap[b]? = some (.map es clock) ∧ es.size ≤ n ∧ (∀ e ∈ es.toList, ∃ x, e.key = .int .i64 x ∧ (Lit.int .i64 x).wf = true ∧ M x = some e.val) ∧
    (∀ x v, M x = some v → ∃ e ∈ es.toList, e.key = .int .i64 x) ∧ ∀ (i j : Nat) (e e' : MapEntry), es[i]? = some e → es[j]? = some e' → e.key = e'.key → i = j
def putM (M : Int → Option Value) (x : Int) (v : Value) (y : Int) : Option Value := if y = x then some v else M y
theorem MapAt.made (w : World) : MapAt (w.alloc (.map #[] 0)) w.heap.size 0 (fun _ => none) :=
  ⟨#[], 0, (MapKept.heap_alloc w _).1, Nat.le_refl _, (fun e he => absurd he (by simp)), (fun x v h => by cases h), fun i j e e' h => by simp at h⟩
theorem MapAt.lt {w : World} {b n : Nat} {M : Int → Option Value} (h : MapAt w b n M) : b < w.heap.size := by
  obtain ⟨es, clock, hb, _⟩ := h
  exact (Array.getElem?_eq_some_iff.1 hb).1
theorem MapAt.of_block {w w' : World} {b n : Nat} {M : Int → Option Value} (h : MapAt w b n M) (hb : w'.heap[b]? = w.heap[b]?) : MapAt w' b n M := by
  obtain ⟨es, clock, h1, h2⟩ := h
  exact ⟨es, clock, hb.trans h1, h2⟩
theorem MapAt.kept {w w' : World} {b n : Nat} {M : Int → Option Value} {row : Option Nat} (h : MapAt w b n M) (hg : w.grownBy w' row) (hne : some b ≠ row) : MapAt w' b n M := h.of_block (hg.block b h.lt hne)
theorem MapAt.mono {w w' : World} {b n : Nat} {M : Int → Option Value} (h : MapAt w b n M) (hb : Below w.heap.size w w') : MapAt w' b n M := h.of_block (hb.block b h.lt)
theorem MapAt.setCell {w : World} {b n z o : Nat} {v : Value} {M : Int → Option Value} (h : MapAt w b n M) (hz : z ≠ b) : MapAt (w.setCell ⟨z, o, none⟩ v) b n M :=
  h.of_block (by simp [World.setCell, Array.getElem?_modify, hz])
theorem MapAt.le {w : World} {b n m : Nat} {M : Int → Option Value} (h : MapAt w b n M) (hm : n ≤ m) : MapAt w b m M := by
  obtain ⟨es, clock, h1, h2, h3⟩ := h
  exact ⟨es, clock, h1, Nat.le_trans h2 hm, h3⟩
theorem MapAt.congr {w : World} {b n : Nat} {M N : Int → Option Value} (h : MapAt w b n M) (e : ∀ x, N x = M x) : MapAt w b n N := by
  have : N = M := funext e
  rw [this]; exact h
/-- A cell that holds a value lies in no map's block. -/
theorem MapAt.no_cell {w : World} {b n o : Nat} {v : Value} {M : Int → Option Value} (h : MapAt w b n M) : w.cell? ⟨b, o, none⟩ ≠ some v := by
  obtain ⟨es, clock, h1, _⟩ := h
  simp [World.cell?, h1]

section
variable {P : Program} {w : World} {T K E : TypeId} {b n : Nat} {M : Int → Option Value}
theorem MapAt.look (h : MapAt w b n M) (hK : P.underlying K = some (.int .i64)) (hT : P.underlying T = some (.map K E)) {z : Value} (hz : (zeroValue E).run P w = .ok z w) {x : Int} (hx : (Lit.int .i64 x).wf = true) :
    (Instr.lookup T (.map (some b)) (.int .i64 x) false).run P w = .ok ((M x).getD z) w ∧ (Instr.lookup T (.map (some b)) (.int .i64 x) true).run P w = .ok (.tuple #[(M x).getD z, .bool (M x).isSome]) w := by
  obtain ⟨es, clock, hb, _, h1, h2, h3⟩ := h
  have law := int_keyed (P := P) hK
  have hkx := keyOf_int_mk hK hx
  have hkeys : ∀ e ∈ es.toList, ∃ l, keyOf P K e.key = some l := fun e he => by
    obtain ⟨y, hy, hw, _⟩ := h1 e he
    exact ⟨_, by rw [hy]; exact keyOf_int_mk hK hw⟩
  rcases law.find w hkx es.toList hkeys with ⟨hf, hne⟩ | ⟨j, e, hf, hj, hk⟩
  · have hM : M x = none := by
      cases hm : M x with
      | none => rfl
      | some v =>
        obtain ⟨e, he, hk⟩ := h2 x v hm
        exact absurd hk (hne e he)
    rw [hM]
    constructor <;> simp [Instr.lookup, run_underlying hT, MapKept.run_getObj_map hb, law.check w es.isEmpty hkx, hf, hz, Result.andThen]
  · have he : e ∈ es.toList := List.mem_of_getElem? hj
    obtain ⟨y, hy, _, hM⟩ := h1 e he
    have hxy : x = y := by rw [hk] at hy; injection hy
    subst hxy
    rw [hM]
    constructor <;> simp [Instr.lookup, run_underlying hT, MapKept.run_getObj_map hb, law.check w es.isEmpty hkx, hf, Result.andThen]
theorem MapAt.put (h : MapAt w b n M) (hK : P.underlying K = some (.int .i64)) (hT : P.underlying T = some (.map K E)) {x : Int} (hx : (Lit.int .i64 x).wf = true) (v : Value) :
    ∃ w', (Instr.mapUpdate T (.map (some b)) (.int .i64 x) v).run P w = .ok () w' ∧ MapAt w' b (n + 1) (putM M x v) ∧ w.grownBy w' (some b) ∧ w'.heap.size = w.heap.size := by
  obtain ⟨es, clock, hb, hs, h1, h2, h3⟩ := h
  have law := int_keyed (P := P) hK
  have hkx := keyOf_int_mk hK hx
  have hlt : b < w.heap.size := (Array.getElem?_eq_some_iff.1 hb).1
  have hkeys : ∀ e ∈ es.toList, ∃ l, keyOf P K e.key = some l := fun e he => by
    obtain ⟨y, hy, hw, _⟩ := h1 e he
    exact ⟨_, by rw [hy]; exact keyOf_int_mk hK hw⟩
  rcases law.find w hkx es.toList hkeys with ⟨hf, hne⟩ | ⟨j, e0, hf, hj0, hk⟩
  · refine ⟨setBlock w b (.map (es.push ⟨.int .i64 x, v, clock⟩) (clock + 1)), ?_, ⟨es.push ⟨.int .i64 x, v, clock⟩, clock + 1, heap_setBlock_same hb _, by simp; omega, fun e he => ?_, fun y u hu => ?_, fun i j e e' hi hj hee => ?_⟩, ⟨rfl, rfl, rfl, by simp [setBlock], fun i _ hi => heap_setBlock_other hb _ (fun e => hi (by rw [e]))⟩, by simp [setBlock]⟩
    · simp [Instr.mapUpdate, run_underlying hT, MapKept.run_getObj_map hb, law.check w false hkx, hf, MapKept.run_setObj_map _ hb, Result.andThen, setBlock]
    · simp only [Array.toList_push, List.mem_append, List.mem_singleton] at he
      rcases he with he | rfl
      · obtain ⟨y, hy, hw, hM⟩ := h1 e he
        refine ⟨y, hy, hw, ?_⟩
        unfold putM
        rw [if_neg (fun e2 => hne e he (by rw [hy, e2]))]
        exact hM
      · exact ⟨x, rfl, hx, by unfold putM; rw [if_pos rfl]⟩
    · unfold putM at hu
      simp only [Array.toList_push, List.mem_append, List.mem_singleton]
      split at hu
      · rename_i hyx
        subst hyx
        exact ⟨_, .inr rfl, rfl⟩
      · obtain ⟨e, he, hk⟩ := h2 y u hu
        exact ⟨e, .inl he, hk⟩
    · rw [Array.getElem?_push] at hi hj
      by_cases hi2 : i = es.size
      · rw [if_pos hi2] at hi
        cases hi
        by_cases hj2 : j = es.size
        · omega
        · rw [if_neg hj2] at hj
          exact absurd hee.symm (hne e' (List.mem_of_getElem? (by simpa using hj)))
      · rw [if_neg hi2] at hi
        by_cases hj2 : j = es.size
        · rw [if_pos hj2] at hj
          cases hj
          exact absurd hee (hne e (List.mem_of_getElem? (by simpa using hi)))
        · rw [if_neg hj2] at hj
          exact h3 i j e e' hi hj hee
  · have hj : es[j]? = some e0 := by simpa using hj0
    have hget : ∀ i, (es.modify j (fun e' => { e' with key := .int .i64 x, val := v }))[i]? = if i = j then some { e0 with key := .int .i64 x, val := v } else es[i]? := fun i => by
      rw [Array.getElem?_modify]
      by_cases hij : j = i
      · subst hij
        rw [if_pos rfl, if_pos rfl, hj]; rfl
      · rw [if_neg hij, if_neg (Ne.symm hij)]
    refine ⟨setBlock w b (.map (es.modify j (fun e' => { e' with key := .int .i64 x, val := v })) clock), ?_, ⟨es.modify j (fun e' => { e' with key := .int .i64 x, val := v }), clock, heap_setBlock_same hb _, by simp; omega, fun e he => ?_, fun y u hu => ?_, fun i k e e' hi hk2 hee => ?_⟩, ⟨rfl, rfl, rfl, by simp [setBlock], fun i _ hi => heap_setBlock_other hb _ (fun e => hi (by rw [e]))⟩, by simp [setBlock]⟩
    · simp [Instr.mapUpdate, run_underlying hT, MapKept.run_getObj_map hb, law.check w false hkx, hf, hj, hk, law.stays w hkx, MapKept.run_setObj_map _ hb, Result.andThen, setBlock]
    · obtain ⟨i, hi, hie⟩ := List.mem_iff_getElem.1 he
      have hi' : (es.modify j (fun e' => { e' with key := .int .i64 x, val := v }))[i]? = some e := by
        rw [← Array.getElem?_toList, List.getElem?_eq_getElem hi, hie]
      rw [hget] at hi'
      split at hi'
      · cases hi'
        exact ⟨x, rfl, hx, by unfold putM; rw [if_pos rfl]⟩
      · rename_i hne
        have hm : e ∈ es.toList := List.mem_of_getElem? (by simpa using hi')
        obtain ⟨y, hy, hw, hM⟩ := h1 e hm
        refine ⟨y, hy, hw, ?_⟩
        unfold putM
        rw [if_neg (fun e2 => hne (h3 i j e e0 hi' hj (by rw [hy, hk, e2])))]
        exact hM
    · unfold putM at hu
      split at hu
      · rename_i hyx
        subst hyx
        exact ⟨_, List.mem_of_getElem? (by rw [Array.getElem?_toList, hget, if_pos rfl]), rfl⟩
      · rename_i hyx
        obtain ⟨e, he, hke⟩ := h2 y u hu
        obtain ⟨i, hi, hie⟩ := List.mem_iff_getElem.1 he
        have hi' : es[i]? = some e := by rw [← Array.getElem?_toList, List.getElem?_eq_getElem hi, hie]
        refine ⟨e, List.mem_of_getElem? (i := i) ?_, hke⟩
        rw [Array.getElem?_toList, hget, if_neg, hi']
        intro hij
        subst hij
        rw [hj] at hi'
        cases hi'
        rw [hk] at hke
        injection hke with _ h5
        exact hyx h5.symm
    · rw [hget] at hi hk2
      by_cases hij : i = j
      · rw [if_pos hij] at hi
        cases hi
        by_cases hkj : k = j
        · omega
        · rw [if_neg hkj] at hk2
          have := h3 j k e0 e' hj hk2 (by rw [hk]; exact hee)
          omega
      · rw [if_neg hij] at hi
        by_cases hkj : k = j
        · rw [if_pos hkj] at hk2
          cases hk2
          have := h3 i j e e0 hi hj (by rw [hk]; exact hee)
          omega
        · rw [if_neg hkj] at hk2
          exact h3 i k e e' hi hk2 hee
/-- 'm[k] = v' at the operation. -/
theorem wpList_mapPut {ops : Array Oper} {rest : List Oper} {o : Oper} {a : Act} {Q : Exit → Act → World → Prop} (w : World)
    (hg : o.guard = none) (m x v : Operand) (t : TypeId) (hop : o.op = Op.mapUpdate t m x v) (k e : TypeId) (hK : P.underlying k = some (.int .i64)) (hT : P.underlying t = some (.map k e)) (b n : Nat) (M : Int → Option Value)
    (hm : a.eval m = .map (some b)) (hown : MapAt w b n M) (hn : n < maxLen) (y : Int) (val : Value) (hy : (Lit.int .i64 y).wf = true) (hx : a.eval x = .int .i64 y) (hv : a.eval v = val)
    (hQ : ∀ w', MapAt w' b (n + 1) (putM M y val) → w.grownBy w' (some b) → w'.heap.size = w.heap.size → wpList P ops Q rest (a.put o.dst undef) w') :
    wpList P ops Q (o :: rest) a w := by
  refine wpList_plain hg fun K' hK' => ?_
  obtain ⟨w', hrun, r1, r2, r3⟩ := hown.put hK hT hy val
  unfold Oper.wp
  simp [execOp, hop, hm, hx, hv, hrun, Result.andThen]
  exact hK' _ _ (hQ w' r1 r2 r3)
/-- 'm[k]' at the operation. -/
theorem wpList_mapLook {ops : Array Oper} {rest : List Oper} {o : Oper} {a : Act} {Q : Exit → Act → World → Prop} (w : World)
    (hg : o.guard = none) (m x : Operand) (t : TypeId) (hop : o.op = Op.lookup t m x false) (k e : TypeId) (hK : P.underlying k = some (.int .i64)) (hT : P.underlying t = some (.map k e)) (b n : Nat) (M : Int → Option Value)
    (hm : a.eval m = .map (some b)) (hown : MapAt w b n M) (z : Value) (hz : (zeroValue e).run P w = .ok z w) (y : Int) (hy : (Lit.int .i64 y).wf = true) (hx : a.eval x = .int .i64 y) (r : Value) (hr : (M y).getD z = r)
    (hQ : wpList P ops Q rest (a.put o.dst r) w) : wpList P ops Q (o :: rest) a w := by
  refine wpList_plain hg fun K' hK' => ?_
  have hrun := (hown.look hK hT hz hy).1
  rw [hr] at hrun
  unfold Oper.wp
  simp [execOp, hop, hm, hx, hrun, Result.andThen]
  exact hK' _ _ hQ
/-- 'v, ok := m[k]' at the operation. -/
theorem wpList_mapLookOk {ops : Array Oper} {rest : List Oper} {o : Oper} {a : Act} {Q : Exit → Act → World → Prop} (w : World)
    (hg : o.guard = none) (m x : Operand) (t : TypeId) (hop : o.op = Op.lookup t m x true) (k e : TypeId) (hK : P.underlying k = some (.int .i64)) (hT : P.underlying t = some (.map k e)) (b n : Nat) (M : Int → Option Value)
    (hm : a.eval m = .map (some b)) (hown : MapAt w b n M) (z : Value) (hz : (zeroValue e).run P w = .ok z w) (y : Int) (hy : (Lit.int .i64 y).wf = true) (hx : a.eval x = .int .i64 y) (r : Value) (s : Bool) (hr : (M y).getD z = r) (hs : (M y).isSome = s)
    (hQ : wpList P ops Q rest (a.put o.dst (.tuple #[r, .bool s])) w) : wpList P ops Q (o :: rest) a w := by
  refine wpList_plain hg fun K' hK' => ?_
  have hrun := (hown.look hK hT hz hy).2
  rw [hr, hs] at hrun
  unfold Oper.wp
  simp [execOp, hop, hm, hx, hrun, Result.andThen]
  exact hK' _ _ hQ
/-- .. the number of entries left open. -/
def MapE (w : World) (b : Nat) (M : Int → Option Value) : Prop := ∃ n, MapAt w b n M
theorem wpList_mapPutE {ops : Array Oper} {rest : List Oper} {o : Oper} {a : Act} {Q : Exit → Act → World → Prop} (w : World)
    (hg : o.guard = none) (m x v : Operand) (t : TypeId) (hop : o.op = Op.mapUpdate t m x v) (k e : TypeId) (hK : P.underlying k = some (.int .i64)) (hT : P.underlying t = some (.map k e)) (b : Nat) (M : Int → Option Value)
    (hm : a.eval m = .map (some b)) (hown : MapE w b M) (y : Int) (val : Value) (hy : (Lit.int .i64 y).wf = true) (hx : a.eval x = .int .i64 y) (hv : a.eval v = val)
    (hQ : ∀ w', MapE w' b (putM M y val) → w.grownBy w' (some b) → w'.heap.size = w.heap.size → wpList P ops Q rest (a.put o.dst undef) w') :
    wpList P ops Q (o :: rest) a w := by
  obtain ⟨n, hown⟩ := hown
  refine wpList_plain hg fun K' hK' => ?_
  obtain ⟨w', hrun, r1, r2, r3⟩ := hown.put hK hT hy val
  unfold Oper.wp
  simp [execOp, hop, hm, hx, hv, hrun, Result.andThen]
  exact hK' _ _ (hQ w' ⟨_, r1⟩ r2 r3)
theorem MapE.kept {w w' : World} {b : Nat} {M : Int → Option Value} {row : Option Nat} (h : MapE w b M) (hg : w.grownBy w' row) (hne : some b ≠ row) : MapE w' b M := h.imp fun _ h => h.kept hg hne
theorem MapE.mono {w w' : World} {b : Nat} {M : Int → Option Value} (h : MapE w b M) (hb : Below w.heap.size w w') : MapE w' b M := h.imp fun _ h => h.mono hb
theorem MapE.setCell {w : World} {b z o : Nat} {v : Value} {M : Int → Option Value} (h : MapE w b M) (hz : z ≠ b) : MapE (w.setCell ⟨z, o, none⟩ v) b M := h.imp fun _ h => h.setCell hz
theorem MapE.congr {w : World} {b : Nat} {M N : Int → Option Value} (h : MapE w b M) (e : ∀ x, N x = M x) : MapE w b N := h.imp fun _ h => h.congr e
theorem MapE.lt {w : World} {b : Nat} {M : Int → Option Value} (h : MapE w b M) : b < w.heap.size := h.elim fun _ h => h.lt
theorem MapE.no_cell {w : World} {b o : Nat} {v : Value} {M : Int → Option Value} (h : MapE w b M) : w.cell? ⟨b, o, none⟩ ≠ some v := h.elim fun _ h => h.no_cell
theorem MapE.look {w : World} {b : Nat} {M : Int → Option Value} (h : MapE w b M) (hK : P.underlying K = some (.int .i64)) (hT : P.underlying T = some (.map K E)) {z : Value} (hz : (zeroValue E).run P w = .ok z w) {x : Int} (hx : (Lit.int .i64 x).wf = true) :
    (Instr.lookup T (.map (some b)) (.int .i64 x) false).run P w = .ok ((M x).getD z) w ∧ (Instr.lookup T (.map (some b)) (.int .i64 x) true).run P w = .ok (.tuple #[(M x).getD z, .bool (M x).isSome]) w := h.elim fun _ h => h.look hK hT hz hx
end
end Go.Proofs.Ytobmnajgbhgdlaa
