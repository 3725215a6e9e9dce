/- What a law's arguments are, as the walk wants them; and the step from a walk of a law to its row. Conditions: none. Nothing of the program is named here. -/
import Derived.ProofKit
import Derived.OpenShut
import Derived.SizedLaws
import Derived.Deep.Slices
namespace Go.Proofs.Ytdcogbokcbpnnaa
set_option linter.unusedVariables false
set_option linter.unusedSimpArgs false
open Go.RowKit Go.ChangeShapes Go.WideShapes Go.ChangeAt

/-- The cells 'cs' can be read as a value of type t, and no string, slice or map in it is greater than the form's reach. -/
def Rd (P : Program) (W : World) (t : TypeId) (cs : List Value) : Prop :=
  ∃ (H : Type) (enc : TypeId × Value → H) (fuel : Nat) (x : DataW H × List MemPlace), DataW.trod enc P W 0 (fun _ => true) true fuel t cs = some x ∧ ∀ n ∈ x.1.weights P t, n ≤ reachBytes

theorem Rd.int {P : Program} {W : World} {t : TypeId} {cs : List Value} {k : IntKind} (h : Rd P W t cs) (ht : P.underlying t = some (.int k)) : ∃ n, cs = [.int k n] ∧ (Lit.int k n).wf = true := by
  obtain ⟨H, enc, fuel, x, hx, _⟩ := h
  obtain ⟨n, h1, _, h3⟩ := DataW.trod_int ht hx
  exact ⟨n, h1, h3⟩

theorem Rd.bool {P : Program} {W : World} {t : TypeId} {cs : List Value} (h : Rd P W t cs) (ht : P.underlying t = some .bool) : ∃ b, cs = [.bool b] := by
  obtain ⟨H, enc, fuel, x, hx, _⟩ := h
  obtain ⟨b, h1, _⟩ := DataW.trod_bool ht hx
  exact ⟨b, h1⟩

theorem Rd.string {P : Program} {W : World} {t : TypeId} {cs : List Value} (h : Rd P W t cs) (ht : P.underlying t = some .string) : ∃ s : ByteArray, cs = [.string s] ∧ s.size ≤ reachBytes := by
  obtain ⟨H, enc, fuel, x, hx, hw⟩ := h
  obtain ⟨s, h1, h2, h3⟩ := DataW.trod_string ht hx
  subst h2
  refine ⟨s, h1, ?_⟩
  have := hw s.data.toList.length (by simp [DataW.weights])
  simpa using this

theorem weightsEach_mem {H : Type} {P : Program} : ∀ {ts : List TypeId} {ds : List (DataW H)} {i : Nat} {t : TypeId} {d : DataW H}, ts[i]? = some t → ds[i]? = some d → ∀ n ∈ d.weights P t, n ∈ DataW.weightsEach P ts ds :=
  fun h1 h2 => DataW.weights_mem_each h1 h2

theorem weightsAll_mem {H : Type} {P : Program} {e : TypeId} : ∀ {ds : List (DataW H)} {i : Nat} {d : DataW H}, ds[i]? = some d → ∀ n ∈ d.weights P e, n ∈ DataW.weightsAll P e ds
  | d0 :: ds, 0, d, hd, n, hn => by
    simp only [List.getElem?_cons_zero, Option.some.injEq] at hd
    subst hd
    simp only [DataW.weightsAll, List.mem_append]
    exact Or.inl hn
  | d0 :: ds, j + 1, d, hd, n, hn => by
    simp only [List.getElem?_cons_succ] at hd
    simp only [DataW.weightsAll, List.mem_append]
    exact Or.inr (weightsAll_mem hd n hn)
  | [], _, _, hd, _, _ => by simp at hd

theorem Rd.struct {P : Program} {W : World} {t : TypeId} {cs : List Value} {fs : Array Field} (h : Rd P W t cs) (ht : P.underlying t = some (.struct fs)) :
    cs.length = P.cellsOf t ∧ ∀ (i : Nat) (f : Field), fs[i]? = some f → Rd P W f.type ((cs.drop f.offset).take (P.cellsOf f.type)) := by
  obtain ⟨H, enc, fuel, x, hx, hw⟩ := h
  obtain ⟨xs, n, rfl, rfl, hl, hsz, hf⟩ := DataW.trod_struct ht hx
  refine ⟨hl, fun i f hi => ?_⟩
  have h1 := hf i f hi
  have hlt : i < xs.length := by rw [hsz]; exact (Array.getElem?_eq_some_iff.1 hi).1
  rw [List.getElem?_eq_getElem hlt] at h1
  refine ⟨H, enc, n, xs[i], h1, fun m hm => hw m ?_⟩
  simp only [DataW.weights, ht]
  refine weightsEach_mem (i := i) (t := f.type) (d := xs[i].1) ?_ ?_ m hm
  · rw [List.getElem?_map, Array.getElem?_toList, hi]; rfl
  · rw [List.getElem?_map, List.getElem?_eq_getElem hlt]; rfl

theorem Rd.array {P : Program} {W : World} {t e : TypeId} {n : Nat} {cs : List Value} (h : Rd P W t cs) (ht : P.underlying t = some (.array n e)) :
    cs.length = P.cellsOf t ∧ ∀ i, i < n → Rd P W e ((cs.drop (i * P.cellsOf e)).take (P.cellsOf e)) := by
  obtain ⟨H, enc, fuel, x, hx, hw⟩ := h
  obtain ⟨xs, m, rfl, rfl, hl, hsz, hf⟩ := DataW.trod_array ht hx
  refine ⟨hl, fun i hi => ?_⟩
  have h1 := hf i hi
  have hlt : i < xs.length := by omega
  rw [List.getElem?_eq_getElem hlt] at h1
  refine ⟨H, enc, m, xs[i], h1, fun k hk => hw k ?_⟩
  simp only [DataW.weights, ht]
  refine weightsAll_mem (i := i) (d := xs[i].1) ?_ k hk
  rw [List.getElem?_map, List.getElem?_eq_getElem hlt]; rfl

theorem Rd.slice {P : Program} {W : World} {t e : TypeId} {cs : List Value} (h : Rd P W t cs) (ht : P.underlying t = some (.slice e)) :
    cs = [.slice none 0 0] ∨ ∃ (a : Addr) (len cap : Nat), cs = [.slice (some a) len cap] ∧ len ≤ cap ∧ cap ≤ maxLen ∧ cap * P.bytesOf e ≤ reachBytes ∧
      ∀ i, i < cap → ∃ cs', W.cells? 0 (a.add (i * P.cellsOf e)) (P.cellsOf e) = some cs' ∧ Rd P W e cs' := by
  obtain ⟨H, enc, fuel, x, hx, hw⟩ := h
  rcases DataW.trod_slice ht hx with ⟨h1, _⟩ | ⟨a, len, cap, elems, rest, n, rfl, rfl, rfl, hb, hl, hm, hlen, hel, hsp, _⟩
  · exact Or.inl h1
  right
  obtain ⟨hrl, hr⟩ := hsp rfl
  simp only [DataW.weights, ht] at hw
  refine ⟨a, len, cap, rfl, hl, hm, ?_, fun i hi => ?_⟩
  · have := hw _ (List.mem_cons_self ..)
    rwa [List.length_map, List.length_map, hlen, hrl, show len + (cap - len) = cap by omega] at this
  · by_cases hil : i < len
    · have h1 := hel i hil
      have hlt : i < elems.length := by omega
      rw [List.getElem?_eq_getElem hlt] at h1
      obtain ⟨cs', h2, h3⟩ := Option.bind_eq_some_iff.1 h1
      refine ⟨cs', h2, H, enc, n, elems[i], h3, fun k hk => hw k (List.mem_cons_of_mem _ (List.mem_append.2 (Or.inl ?_)))⟩
      refine weightsAll_mem (i := i) (d := elems[i].1) ?_ k hk
      rw [List.getElem?_map, List.getElem?_eq_getElem hlt]; rfl
    · have h1 := hr (i - len) (by omega)
      have hlt : i - len < rest.length := by omega
      rw [show len + (i - len) = i by omega, List.getElem?_eq_getElem hlt] at h1
      obtain ⟨cs', h2, h3⟩ := Option.bind_eq_some_iff.1 h1
      refine ⟨cs', h2, H, enc, n, rest[i - len], h3, fun k hk => hw k (List.mem_cons_of_mem _ (List.mem_append.2 (Or.inr ?_)))⟩
      refine weightsAll_mem (i := i - len) (d := (rest[i - len]).1) ?_ k hk
      rw [List.getElem?_map, List.getElem?_eq_getElem hlt]; rfl

/-- The cells of one element, each by its place. -/
theorem cells_at {W : World} {n : Nat} {cs : List Value} {a : Addr} (h : W.cells? 0 a n = some cs) (hn : 0 < n) : ∃ b o, a = ⟨b, o, none⟩ ∧ cs.length = n ∧ ∀ j, j < n → W.cell? ⟨b, o + j, none⟩ = cs[j]? := by
  obtain ⟨_, hl, hc⟩ := World.cells?_some h
  obtain ⟨b, o, s⟩ := a
  have h0 := hc 0 (by omega)
  have hs : s = none := by
    cases s with
    | none => rfl
    | some x =>
      rw [List.getElem?_eq_getElem (by omega)] at h0
      simp only [Addr.add, World.cell?] at h0
      split at h0 <;> simp_all
  subst hs
  refine ⟨b, o, rfl, hl, fun j hj => ?_⟩
  have := hc j hj
  by_cases hj0 : j = 0
  · subst hj0; simpa [Addr.add] using this
  · simpa [Addr.add, hj0] using this

/-- A slice that came in, whatever its elements: its cells by their places; 'C k': the cells of element k. -/
theorem Rd.rows {P : Program} {W : World} {t e n : Nat} {cs : List Value} (h : Rd P W t cs) (ht : P.underlying t = some (.slice e)) (hn : P.cellsOf e = n) (h0 : 0 < n) :
    ∃ (a : Option Addr) (len cap b m : Nat) (C : Nat → List Value), cs = [.slice a len cap] ∧ len ≤ cap ∧ cap ≤ maxLen ∧ cap * P.bytesOf e ≤ reachBytes ∧ (0 < cap → a = some ⟨b, m, none⟩) ∧ (a = none → cap = 0) ∧
      ∀ k, k < cap → (C k).length = n ∧ Rd P W e (C k) ∧ ∀ j, j < n → W.cell? ⟨b, m + (k * n + j), none⟩ = (C k)[j]? := by
  rcases h.slice ht with h1 | ⟨a, len, cap, h1, hl, hm, hr, hc⟩
  · exact ⟨none, 0, 0, 0, 0, fun _ => [], h1, Nat.le_refl _, by decide, by simp [reachBytes], fun h => absurd h (Nat.lt_irrefl _), fun _ => rfl, fun k hk => absurd hk (Nat.not_lt_zero _)⟩
  · by_cases h0c : 0 < cap
    · obtain ⟨C, hC⟩ := Deep.choose_lt (α := List Value) hc
      rw [hn] at hC
      obtain ⟨b, m, hbm, _, _⟩ := cells_at (hC 0 h0c).1 h0
      have ha : a = ⟨b, m, none⟩ := by simpa [Addr.add] using hbm
      subst ha
      refine ⟨some ⟨b, m, none⟩, len, cap, b, m, C, h1, hl, hm, hr, fun _ => rfl, (fun h => by cases h), fun k hk => ?_⟩
      obtain ⟨b', m', hbm', hlen, hcell⟩ := cells_at (hC k hk).1 h0
      refine ⟨hlen, (hC k hk).2, fun j hj => ?_⟩
      have e1 : b' = b ∧ m' = m + k * n := by
        unfold Addr.add at hbm'
        split at hbm'
        · rename_i hz
          injection hbm' with x y z
          exact ⟨x.symm, by omega⟩
        · injection hbm' with x y z
          exact ⟨x.symm, y.symm⟩
      obtain ⟨rfl, rfl⟩ := e1
      rw [← hcell j hj, Nat.add_assoc]
    · have : cap = 0 := by omega
      subst this
      exact ⟨some a, len, 0, 0, 0, fun _ => [], h1, hl, hm, hr, fun h => absurd h (Nat.lt_irrefl _), fun _ => rfl, fun k hk => absurd hk (Nat.not_lt_zero _)⟩

/-- A slice of integers that came in. -/
theorem Rd.ints {P : Program} {W : World} {t e : Nat} {cs : List Value} {κ : IntKind} (h : Rd P W t cs) (ht : P.underlying t = some (.slice e)) (he : P.underlying e = some (.int κ)) (hn : P.cellsOf e = 1) :
    ∃ (a : Option Addr) (len cap b m : Nat) (xs : Nat → Int), cs = [.slice a len cap] ∧ len ≤ cap ∧ cap ≤ maxLen ∧ cap * P.bytesOf e ≤ reachBytes ∧ (0 < cap → a = some ⟨b, m, none⟩) ∧ (a = none → cap = 0) ∧
      ∀ k, k < cap → W.cell? ⟨b, m + k, none⟩ = some (.int κ (xs k)) ∧ (Lit.int κ (xs k)).wf = true := by
  obtain ⟨a, len, cap, b, m, C, h1, h2, h3, h4, h5, h6, h7⟩ := h.rows ht hn Nat.one_pos
  obtain ⟨xs, hxs⟩ := Deep.choose_lt (α := Int) (n := cap) (p := fun k x => C k = [.int κ x] ∧ (Lit.int κ x).wf = true) fun k hk => (h7 k hk).2.1.int he
  refine ⟨a, len, cap, b, m, xs, h1, h2, h3, h4, h5, h6, fun k hk => ?_⟩
  have := (h7 k hk).2.2 0 Nat.one_pos
  rw [(hxs k hk).1] at this
  exact ⟨by simpa using this, (hxs k hk).2⟩

/-- An argument: its value has its type's outer form, and its cells can be read. -/
def Arg (P : Program) (W : World) (base : Nat) (t : TypeId) (v : Value) : Prop := Value.okWide P W .any base t v ∧ Rd P W t v.cells.toList

theorem Arg.int {P : Program} {W : World} {base : Nat} {t : TypeId} {v : Value} {k : IntKind} (h : Arg P W base t v) (ht : P.underlying t = some (.int k)) : ∃ n, v = .int k n ∧ (Lit.int k n).wf = true := by
  obtain ⟨n, rfl⟩ := okWide_int ht h.1
  obtain ⟨m, h1, h2⟩ := h.2.int ht
  simp [Value.cells] at h1
  subst h1
  exact ⟨n, rfl, h2⟩
theorem Arg.bool {P : Program} {W : World} {base : Nat} {t : TypeId} {v : Value} (h : Arg P W base t v) (ht : P.underlying t = some .bool) : ∃ b, v = .bool b := okWide_bool ht h.1
theorem Arg.string {P : Program} {W : World} {base : Nat} {t : TypeId} {v : Value} (h : Arg P W base t v) (ht : P.underlying t = some .string) : ∃ s, v = .string s ∧ s.size ≤ reachBytes := by
  obtain ⟨s, rfl⟩ := okWide_string ht h.1
  obtain ⟨m, h1, h2⟩ := h.2.string ht
  simp [Value.cells] at h1
  subst h1
  exact ⟨s, rfl, h2⟩
theorem Arg.struct {P : Program} {W : World} {base : Nat} {t : TypeId} {v : Value} {fs : Array Field} (h : Arg P W base t v) (ht : P.underlying t = some (.struct fs)) : ∃ cs : List Value, v = .agg cs.toArray ∧ Rd P W t cs := by
  obtain ⟨h1, h2⟩ := h
  simp only [Value.okWide, ht] at h1
  obtain ⟨cs, rfl, _⟩ := h1
  exact ⟨cs.toList, by simp, h2⟩
theorem Arg.array {P : Program} {W : World} {base : Nat} {t e n : Nat} {v : Value} (h : Arg P W base t v) (ht : P.underlying t = some (.array n e)) : ∃ cs : List Value, v = .agg cs.toArray ∧ Rd P W t cs := by
  obtain ⟨h1, h2⟩ := h
  simp only [Value.okWide, ht] at h1
  obtain ⟨cs, rfl, _⟩ := h1
  exact ⟨cs.toList, by simp, h2⟩
theorem Arg.rows {P : Program} {W : World} {base : Nat} {t e n : Nat} {v : Value} (h : Arg P W base t v) (ht : P.underlying t = some (.slice e)) (hn : P.cellsOf e = n) (h0 : 0 < n) :
    ∃ (a : Option Addr) (len cap b m : Nat) (C : Nat → List Value), v = .slice a len cap ∧ len ≤ cap ∧ cap ≤ maxLen ∧ cap * P.bytesOf e ≤ reachBytes ∧ (0 < cap → a = some ⟨b, m, none⟩) ∧ (a = none → cap = 0) ∧
      ∀ k, k < cap → (C k).length = n ∧ Rd P W e (C k) ∧ ∀ j, j < n → W.cell? ⟨b, m + (k * n + j), none⟩ = (C k)[j]? := by
  obtain ⟨a, len, cap, rfl⟩ := okWide_slice ht h.1
  obtain ⟨a', len', cap', b, m, C, h1, h2⟩ := h.2.rows ht hn h0
  simp [Value.cells] at h1
  obtain ⟨rfl, rfl, rfl⟩ := h1
  exact ⟨a, len, cap, b, m, C, rfl, h2⟩
theorem Arg.ints {P : Program} {W : World} {base : Nat} {t e : Nat} {v : Value} {κ : IntKind} (h : Arg P W base t v) (ht : P.underlying t = some (.slice e)) (he : P.underlying e = some (.int κ)) (hn : P.cellsOf e = 1) :
    ∃ (a : Option Addr) (len cap b m : Nat) (xs : Nat → Int), v = .slice a len cap ∧ len ≤ cap ∧ cap ≤ maxLen ∧ cap * P.bytesOf e ≤ reachBytes ∧ (0 < cap → a = some ⟨b, m, none⟩) ∧ (a = none → cap = 0) ∧
      ∀ k, k < cap → W.cell? ⟨b, m + k, none⟩ = some (.int κ (xs k)) ∧ (Lit.int κ (xs k)).wf = true := by
  obtain ⟨a, len, cap, rfl⟩ := okWide_slice ht h.1
  obtain ⟨a', len', cap', b, m, C, h1, h2⟩ := h.2.ints ht he hn
  simp [Value.cells] at h1
  obtain ⟨rfl, rfl, rfl⟩ := h1
  exact ⟨a, len, cap, b, m, C, rfl, h2⟩

theorem trodAll_split {H : Type} {enc : TypeId × Value → H} {P : Program} {W : World} : ∀ {ts : List TypeId} {vs : List Value} {ds : List (DataW H)} {ps : List MemPlace}, DataW.TrodAll enc P W 0 (fun _ => true) true ts vs ds ps →
    (DataW.weightsEach P ts ds).all (· ≤ reachBytes) = true → ds.length = ts.length ∧ ∀ (j : Nat) (t : TypeId) (v : Value), ts[j]? = some t → vs[j]? = some v → Rd P W t v.cells.toList
  | [], [], [], _, _, _ => ⟨rfl, fun j t v h _ => by simp at h⟩
  | t0 :: ts, v0 :: vs, d0 :: ds, ps, h, hw => by
    obtain ⟨p, q, ⟨fuel, h0⟩, hr, _⟩ := h
    simp only [DataW.weightsEach, List.all_append, Bool.and_eq_true] at hw
    obtain ⟨hl, ih⟩ := trodAll_split hr hw.2
    refine ⟨by simp [hl], fun j t v ht hv => ?_⟩
    cases j with
    | zero =>
      simp only [List.getElem?_cons_zero, Option.some.injEq] at ht hv
      subst ht; subst hv
      exact ⟨H, enc, fuel, (d0, p), h0, fun n hn => by simpa using List.all_eq_true.1 hw.1 n hn⟩
    | succ j => exact ih j t v (by simpa using ht) (by simpa using hv)

theorem trodAll_below {H : Type} {enc : TypeId × Value → H} {P : Program} {W W' : World} (hlaid : laidOutB P = true) (hb : Below W.heap.size W W') : ∀ {ts : List TypeId} {vs : List Value} {ds : List (DataW H)} {ps : List MemPlace},
    (ts.all fun t => P.readableRec t && decide (t < P.types.size)) = true → DataW.TrodAll enc P W 0 (fun _ => true) true ts vs ds ps → (∀ x ∈ ps, x.block < W.heap.size) →
    DataW.TrodAll enc P W' 0 (fun b => decide (b < W.heap.size)) true ts vs ds ps
  | [], [], [], _, _, h, _ => h
  | t0 :: ts, v0 :: vs, d0 :: ds, ps, ha, h, hlt => by
    obtain ⟨p, q, h0, hr, rfl⟩ := h
    simp only [List.all_cons, Bool.and_eq_true, decide_eq_true_eq] at ha
    exact ⟨p, q, Below.trod hlaid ha.1.1 ha.1.2 h0 hb (fun x hx => hlt x (List.mem_append.2 (Or.inl hx))), trodAll_below hlaid hb ha.2 hr (fun x hx => hlt x (List.mem_append.2 (Or.inr hx))), rfl⟩

theorem trodAll_blocks {H : Type} {enc : TypeId × Value → H} {P : Program} {W : World} : ∀ {ts : List TypeId} {vs : List Value} {ds : List (DataW H)} {ps : List MemPlace}, DataW.TrodAll enc P W 0 (fun _ => true) true ts vs ds ps → ∀ x ∈ ps, x.block < W.heap.size
  | [], [], [], _, h => by intro x hx; cases h; cases hx
  | t0 :: ts, v0 :: vs, d0 :: ds, ps, h => by
    obtain ⟨p, q, ⟨m, hm⟩, hr, rfl⟩ := h
    intro x hx
    rcases List.mem_append.1 hx with hx | hx
    · exact DataW.trod_lt m _ _ _ hm x hx
    · exact trodAll_blocks hr x hx

/-- FROM THE WALK OF A LAW TO THE STEP OF ITS ROW: the law returns true and turns nothing that was there. -/
theorem lift_law {C : Checked} {os : Os} {f : FuncId} {fn : Func} {s : ChangeSpec} {tb : TypeId} {H : Type} {enc : TypeId × Value → H}
    (own : ownKnob C.prog.godebug = none) (started : os.Started) (noInit : C.prog.inits.idxOf? f = none) (hfn : C.prog.funcs[f]? = some fn)
    (witness : ∃ (w : World) (tape : Tape) (i : Input), w.os = os ∧ (w.forCall tape i).Shaped C.prog ∧ i.vars = [] ∧ Input.okWide C.prog (w.forCall tape i) .any w.heap.size f i ∧
      s.pre6 enc C.prog fn [] false (w.forCall tape i).memory i.args ∧ Assume.holds {} C.prog (lone (Frame.enter C.prog f i.args .normal) [] (w.forCall tape i)))
    (hlaid : laidOutB C.prog = true) (hvars : s.vars = []) (hres : fn.resultTypes = #[tb]) (hb : C.prog.underlying tb = some .bool)
    (hread : (fn.params.toList.all fun t => C.prog.readableRec t && decide (t < C.prog.types.size)) = true)
    (hspec : ∀ ds : List (DataW H), ds.length = fn.params.size → s.fn H ds = { results := [.lit (.bool true)], args := ds })
    (walk : ∀ (W : World) (base : Nat) (args : Array Value), (∀ (j : Nat) t v, fn.params[j]? = some t → args[j]? = some v → Arg C.prog W base t v) → args.size = fn.params.size →
      Calls C.prog f args W fun e W' => e = .returned (.bool true) ∧ Below W.heap.size W W') :
    ReturnsInHanded {} C os f .any (s.pre6 enc C.prog fn [] false) (s.post enc C.prog fn false true false false) := by
  refine returnsInHanded_of_change_sized own started noInit hfn witness ?_
  intro W base args ds gs before hval hW _ hsz _
  have hW' := hW
  obtain ⟨p, q, hA, hV, rfl, _, _⟩ := hW
  rw [hvars] at hV
  obtain ⟨rfl, rfl⟩ := trodVars_none hV
  have hvt : s.plain.varTypes C.prog = [] := by simp [ChangeSpec.plain, DataSpec.varTypes, hvars]
  rw [hvt] at hsz
  simp only [List.append_nil] at hsz hW'
  obtain ⟨hl, hrd⟩ := trodAll_split hA hsz
  have hargs : args.size = fn.params.size := by
    have aux : ∀ {ts : List TypeId} {vs : List Value} {ds : List (DataW H)} {ps : List MemPlace}, DataW.TrodAll enc C.prog W 0 (fun _ => true) true ts vs ds ps → vs.length = ts.length := by
      intro ts
      induction ts with
      | nil => intro vs ds ps h; cases vs <;> cases ds <;> simp_all [DataW.TrodAll]
      | cons t ts ih =>
        intro vs ds ps h
        cases vs with
        | nil => cases ds <;> simp_all [DataW.TrodAll]
        | cons v vs => cases ds with
          | nil => simp_all [DataW.TrodAll]
          | cons d ds =>
            obtain ⟨_, _, _, hr, _⟩ := h
            simp [ih hr]
    have := aux hA
    simpa using this
  refine (walk W base args (fun j t v ht hv => ⟨hval j t v ht hv, hrd j t v (by simpa using ht) (by simpa using hv)⟩) hargs).mono fun e W' ⟨he, bel⟩ => ?_
  subst he
  have e1 := hspec ds (by simpa using hl)
  refine ⟨_, rfl, ds, [], p, [], p, [], hW', ?_, ?_, ?_, bel.frame _, fun h => by cases h⟩
  · rw [List.append_nil, e1, hres]
    exact trodAll_mk1 (shut_bool hb _)
  · rw [List.append_nil, e1]
    exact trodAll_below hlaid bel hread hA (trodAll_blocks hA)
  · rw [List.append_nil, e1, hvars]
    rfl

end Go.Proofs.Ytdcogbokcbpnnaa
