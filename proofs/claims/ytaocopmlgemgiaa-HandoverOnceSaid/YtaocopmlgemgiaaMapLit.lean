/- A map written as a literal: its entries are stored in whatever order; and the look-up in it. Also: a region that draws its order, by an invariant over what has come up. Nothing of the program is named here. -/
import Derived.Orders
import Derived.StillTail
import Derived.Maps.Keyed
import Derived.WalkKit
namespace Go.Proofs.Ytaocopmlgemgiaa
set_option linter.unusedVariables false
set_option linter.unusedSimpArgs false
open Go.RowKit Go.Maps Go.ChangeMaps

section
variable {P : Program} {ops : Array Oper} {Q : Exit → Act → World → Prop} {md : Region.Mode}

def unlisted (listed : Array Bool) : Nat := (listed.toList.filter (fun b => !b)).length
theorem unlisted_set {listed : Array Bool} {i : Nat} (h : listed.getD i true = false) : unlisted (listed.setIfInBounds i true) + 1 = unlisted listed := by
  have hi : i < listed.toList.length := by
    rcases Nat.lt_or_ge i listed.size with h' | h'
    · simpa using h'
    · simp [Array.getElem?_eq_none h'] at h
  have hf : listed.toList[i] = false := by
    have h' : i < listed.size := by simpa using hi
    simpa [h'] using h
  unfold unlisted
  rw [Array.toList_setIfInBounds]
  have key : ∀ (l : List Bool) (i : Nat) (hi : i < l.length), l[i] = false → ((l.set i true).filter (fun b => !b)).length + 1 = (l.filter (fun b => !b)).length := by
    intro l
    induction l with
    | nil => intro i hi; simp at hi
    | cons x l ih =>
      intro i hi hx
      cases i with
      | zero =>
        simp at hx
        subst hx
        simp
      | succ i =>
        have hi' : i < l.length := by simpa using hi
        have := ih i hi' (by simpa using hx)
        cases x <;> simp <;> omega
  exact key _ i hi hf
theorem ready_none {listed : Array Bool} (h : unlisted listed = 0) (hs : listed.size = ops.size) : Region.ready md ops listed = [] := by
  rw [List.eq_nil_iff_forall_not_mem]
  intro j hj
  have := unlisted_set (mem_ready.1 hj).1
  omega

/-- **A region in whatever order, by an invariant over what has come up.** -/
theorem wpAny_inv (I : Array Bool → Act → World → Prop)
    (hstep : ∀ listed i a w, listed.size = ops.size → i ∈ Region.ready md ops listed → I listed a w → wpOp P ops Q i (I (listed.setIfInBounds i true)) a w)
    (hend : ∀ listed a w, listed.size = ops.size → Region.ready md ops listed = [] → I listed a w → Q .normal a w) :
    ∀ (fuel : Nat) (listed : Array Bool) (a : Act) (w : World), listed.size = ops.size → unlisted listed ≤ fuel → I listed a w → wpAny P md ops Q fuel listed a w
  | 0, listed, a, w, hs, hu, h => by
    have hr := ready_none (ops := ops) (md := md) (listed := listed) (by omega) hs
    exact ⟨hr, hend listed a w hs hr h⟩
  | fuel + 1, listed, a, w, hs, hu, h =>
    ⟨fun hr => hend listed a w hs hr h, fun i hi => wpOp_mono (fun a' w' h' => wpAny_inv I hstep hend fuel (listed.setIfInBounds i true) a' w' (by simpa using hs) (by have := unlisted_set (mem_ready.1 hi).1; omega) h') (hstep listed i a w hs hi h)⟩

theorem unlisted_start (n : Nat) : unlisted (Array.replicate n false) ≤ n := by
  unfold unlisted
  refine Nat.le_trans (List.length_filter_le _ _) (by simp)

/-- A region by an invariant. -/
theorem wp_region_inv {id : Nat} {a : Act} {w : World} (hm : P.follows .mixedOrders = true) (I : Array Bool → Act → World → Prop)
    (hstep : ∀ listed i a w, listed.size = ops.size → i ∈ Region.ready .any ops listed → I listed a w → wpOp P ops Q i (I (listed.setIfInBounds i true)) a w)
    (hend : ∀ listed a w, listed.size = ops.size → Region.ready .any ops listed = [] → I listed a w → Q .normal a w)
    (h0 : I (Array.replicate ops.size false) a w.drew) : (Code.region id ops true).wp P Q a w :=
  wp_region_any hm (wpAny_inv I hstep hend _ _ _ _ (by simp) (unlisted_start _) h0)

theorem set_true {listed : Array Bool} {i j : Nat} : (listed.setIfInBounds i true).getD j false = true ↔ (listed.getD j false = true ∨ (i = j ∧ j < listed.size)) := by
  by_cases h : i = j
  · subst h
    by_cases h2 : i < listed.size
    · simp [h2]
    · have h3 : listed.getD i false = false := by simp [Array.getElem?_eq_none (Nat.le_of_not_lt h2)]
      simp [h2]
  · rw [getD_set_ne false h]
    simp [h]

variable {T K E : TypeId}

/-- What a literal's entries are, as far as they have been stored: 'st i': number i has been stored. -/
def Entries (w : World) (B n : Nat) (key val : Nat → Value) (st : Nat → Prop) : Prop :=
  ∃ es clock, w.heap[B]? = some (.map es clock) ∧ (∀ e ∈ es.toList, ∃ i, i < n ∧ st i ∧ e.key = key i ∧ e.val = val i) ∧ ∀ i, i < n → st i → ∃ e ∈ es.toList, e.key = key i

theorem insert_run (law : Keyed P K) (hT : P.underlying T = some (.map K E)) {w : World} {B n : Nat} {key val : Nat → Value} {kl : Nat → Lit} {st : Nat → Prop} (hkl : ∀ i, i < n → keyOf P K (key i) = some (kl i)) (hap : ∀ i j, i < n → j < n → key i = key j → i = j)
    (h : Entries w B n key val st) {i : Nat} (hi : i < n) (hn : ¬ st i) :
    ∃ w', (Instr.mapUpdate T (.map (some B)) (key i) (val i)).run P w = .ok () w' ∧ Entries w' B n key val (fun j => st j ∨ j = i) ∧ Below B w w' ∧ w'.heap.size = w.heap.size := by
  obtain ⟨es, clock, hb, h1, h2⟩ := h
  have hlt : B < w.heap.size := (Array.getElem?_eq_some_iff.1 hb).1
  have hkeys : ∀ e ∈ es.toList, ∃ l, keyOf P K e.key = some l := fun e he => by
    obtain ⟨j, hj, _, hk, _⟩ := h1 e he
    exact ⟨_, by rw [hk]; exact hkl j hj⟩
  rcases law.find w (hkl i hi) es.toList hkeys with ⟨hf, hne⟩ | ⟨j, e, hf, hj, hk⟩
  · refine ⟨setBlock w B (.map (es.push ⟨key i, val i, clock⟩) (clock + 1)), ?_, ⟨es.push ⟨key i, val i, clock⟩, clock + 1, ?_, fun e he => ?_, fun j hj hst => ?_⟩, ⟨rfl, rfl, rfl, by simp [setBlock], fun k hk => ?_⟩, by simp [setBlock]⟩
    · simp [Instr.mapUpdate, run_underlying hT, MapKept.run_getObj_map hb, law.check w false (hkl i hi), hf, MapKept.run_setObj_map _ hb, Result.andThen, setBlock]
    · simp [setBlock, hlt]
    · simp only [Array.toList_push, List.mem_append, List.mem_singleton] at he
      rcases he with he | rfl
      · obtain ⟨j, hj, hst, hk, hv⟩ := h1 e he
        exact ⟨j, hj, .inl hst, hk, hv⟩
      · exact ⟨i, hi, .inr rfl, rfl, rfl⟩
    · simp only [Array.toList_push, List.mem_append, List.mem_singleton]
      rcases hst with hst | rfl
      · obtain ⟨e, he, hk⟩ := h2 j hj hst
        exact ⟨e, .inl he, hk⟩
      · exact ⟨_, .inr rfl, rfl⟩
    · have : B ≠ k := by omega
      simp [setBlock, this]
  · exfalso
    have he : e ∈ es.toList := List.mem_of_getElem? hj
    obtain ⟨m, hm, hst, hk2, _⟩ := h1 e he
    have := hap m i hm hi (hk2.symm.trans hk)
    subst this
    exact hn hst

/-- **The look-up**: what stands at that key, or the zero value. -/
theorem lookup_run (law : Keyed P K) (hT : P.underlying T = some (.map K E)) {w : World} {B n : Nat} {key val : Nat → Value} {kl : Nat → Lit} (hkl : ∀ i, i < n → keyOf P K (key i) = some (kl i)) (hap : ∀ i j, i < n → j < n → key i = key j → i = j)
    (h : Entries w B n key val (fun _ => True)) {z x : Value} {lx : Lit} (hz : (zeroValue E).run P w = .ok z w) (hx : keyOf P K x = some lx) :
    (∀ i, i < n → x = key i → (Instr.lookup T (.map (some B)) x true).run P w = .ok (.tuple #[val i, .bool true]) w) ∧ ((∀ i, i < n → x ≠ key i) → (Instr.lookup T (.map (some B)) x true).run P w = .ok (.tuple #[z, .bool false]) w) := by
  obtain ⟨es, clock, hb, h1, h2⟩ := h
  have hkeys : ∀ e ∈ es.toList, ∃ l, keyOf P K e.key = some l := fun e he => by
    obtain ⟨j, hj, _, hk, _⟩ := h1 e he
    exact ⟨_, by rw [hk]; exact hkl j hj⟩
  refine ⟨fun i hi hxi => ?_, fun hno => ?_⟩
  · rcases law.find w hx es.toList hkeys with ⟨hf, hne⟩ | ⟨j, e, hf, hj, hk⟩
    · obtain ⟨e, he, hk⟩ := h2 i hi trivial
      exact absurd (hk.trans hxi.symm) (hne e he)
    · have he : e ∈ es.toList := List.mem_of_getElem? hj
      obtain ⟨m, hm, _, hk2, hv⟩ := h1 e he
      have := hap m i hm hi (hk2.symm.trans (hk.trans hxi))
      subst this
      simp [Instr.lookup, run_underlying hT, MapKept.run_getObj_map hb, law.check w es.isEmpty hx, hf, hv, Result.andThen]
  · rcases law.find w hx es.toList hkeys with ⟨hf, hne⟩ | ⟨j, e, hf, hj, hk⟩
    · simp [Instr.lookup, run_underlying hT, MapKept.run_getObj_map hb, law.check w es.isEmpty hx, hf, hz, Result.andThen]
    · have he : e ∈ es.toList := List.mem_of_getElem? hj
      obtain ⟨m, hm, _, hk2, hv⟩ := h1 e he
      exact absurd (hk.symm.trans hk2) (hno m hm)

theorem wpOp_value {i : Nat} {o : Oper} {v : Value} {a : Act} {w w' : World} {K : Act → World → Prop} (ho : ops[i]? = some o) (hg : o.guard = none) (hrun : (execOp a.eval o).run P w = .ok (.value v) w') (hK : K (a.put o.dst v) w') : wpOp P ops Q i K a w := by
  unfold wpOp
  simp only [ho]
  rw [if_pos (by simp [Region.wanted, hg])]
  refine .inl ?_
  unfold Oper.wp
  rw [hrun]
  exact hK
theorem wpOp_skip {i : Nat} {o : Oper} {a : Act} {w w' : World} {K : Act → World → Prop} (ho : ops[i]? = some o) (hg : o.guard = none) (hrun : (execOp a.eval o).run P w = .ok .skip w') (hK : K (a.put o.dst undef) w') : wpOp P ops Q i K a w := by
  unfold wpOp
  simp only [ho]
  rw [if_pos (by simp [Region.wanted, hg])]
  refine .inl ?_
  unfold Oper.wp
  rw [hrun]
  exact hK

/-- Every operation waits for earlier ones alone. -/
def backB (ops : Array Oper) : Bool := (List.range ops.size).all fun i => match ops[i]? with | some o => o.after.all fun e => decide (e.on < i) | none => true
theorem all_listed {listed : Array Bool} (hb : backB ops = true) (hr : Region.ready md ops listed = []) (hs : listed.size = ops.size) : ∀ i, i < ops.size → listed.getD i false = true := by
  intro i
  induction i using Nat.strongRecOn with
  | _ i ih =>
    intro hi
    cases hl : listed.getD i false with
    | true => rfl
    | false =>
      exfalso
      have hl2 : listed.getD i true = false := by
        have : i < listed.size := by omega
        simp [this] at hl ⊢
        exact hl
      have h1 := List.all_eq_true.1 hb i (List.mem_range.2 hi)
      have ho : ops[i]? = some ops[i] := Array.getElem?_eq_getElem hi
      rw [ho] at h1
      have h2 : i ∈ Region.ready md ops listed := mem_ready.2 ⟨hl2, ops[i], ho, fun e he _ => by
        have h3 := Array.all_eq_true_iff_forall_mem.1 h1 e he
        have h4 : e.on < i := by simpa using h3
        exact ih e.on h4 (by omega)⟩
      rw [hr] at h2
      cases h2

/-- What a slot holds. -/
def Slot (a : Act) (t : Tmp) (v : Value) : Prop := a.tmps[t]? = some v
theorem Slot.eval {a : Act} {t : Tmp} {v : Value} (h : Slot a t v) : a.eval (.tmp t) = v := by
  unfold Slot at h
  show a.tmps.getD t undef = v
  rw [Array.getD_eq_getD_getElem?, h]
  rfl
theorem Slot.put {a : Act} {t : Tmp} {v : Value} (h : t < a.tmps.size) : Slot (a.put (some t) v) t v := by
  unfold Slot Act.put
  simp [h]
theorem Slot.other {a : Act} {t d : Tmp} {v u : Value} (h : Slot a t v) (hne : d ≠ t) : Slot (a.put (some d) u) t v := by
  unfold Slot Act.put at *
  simp only
  rw [Array.getElem?_setIfInBounds_ne hne]
  exact h

/-- Number i waits for number j. -/
def waitB (ops : Array Oper) (i j : Nat) : Bool := match ops[i]? with | none => false | some o => o.after.any fun e => Region.binds .any e && e.on == j
theorem waitB_spec {i j : Nat} {o : Oper} (h : waitB ops i j = true) (ho : ops[i]? = some o) : ∃ e ∈ o.after, Region.binds .any e = true ∧ e.on = j := by
  unfold waitB at h
  rw [ho] at h
  obtain ⟨k, hk, h2⟩ := Array.any_eq_true.1 h
  simp only [Bool.and_eq_true, beq_iff_eq] at h2
  exact ⟨o.after[k], Array.getElem_mem hk, h2⟩
def litWaits (ops : Array Oper) (n : Nat) : Bool := ((List.range n).all fun i => waitB ops (3 * i + 3) 0 && waitB ops (3 * i + 3) (3 * i + 1) && waitB ops (3 * i + 3) (3 * i + 2)) && waitB ops (3 * n + 1) 0 && waitB ops (3 * n + 2) (3 * n + 1)

/-- The operations of a map's literal: the map; each entry's key, its value, its store; the map's copy; its assignment. -/
structure Lits (P : Program) (ops : Array Oper) (T : TypeId) (n : Nat) (m z1 z2 : Tmp) (sk sv : Nat → Tmp) (key val : Nat → Value) : Prop where
  size : ops.size = 3 * n + 3
  back : backB ops = true
  waits : litWaits ops n = true
  o0 : ∃ o, ops[0]? = some o ∧ o.guard = none ∧ o.dst = some m ∧ o.op = .makeMap T none
  ok : ∀ i, i < n → ∃ o, ops[3 * i + 1]? = some o ∧ o.guard = none ∧ o.dst = some (sk i) ∧ ∀ (a : Act) w, (execOp a.eval o).run P w = .ok (.value (key i)) w
  ov : ∀ i, i < n → ∃ o, ops[3 * i + 2]? = some o ∧ o.guard = none ∧ o.dst = some (sv i) ∧ ∀ (a : Act) w, (execOp a.eval o).run P w = .ok (.value (val i)) w
  oi : ∀ i, i < n → ∃ o, ops[3 * i + 3]? = some o ∧ o.guard = none ∧ o.dst = none ∧ o.op = .insert T (.tmp m) (.tmp (sk i)) (.tmp (sv i))
  om : ∃ o, ops[3 * n + 1]? = some o ∧ o.guard = none ∧ o.dst = some z1 ∧ o.op = .move (.tmp m)
  oa : ∃ o, ops[3 * n + 2]? = some o ∧ o.guard = none ∧ o.dst = some z2 ∧ o.op = .assign (.tmp z1)
  d1 : ∀ i, i < n → sk i ≠ m ∧ sv i ≠ m ∧ sk i ≠ z1 ∧ sv i ≠ z1 ∧ sk i ≠ z2 ∧ sv i ≠ z2
  d2 : m ≠ z1 ∧ m ≠ z2 ∧ z1 ≠ z2
  d3 : ∀ i j, i < n → j < n → (i ≠ j → sk i ≠ sk j ∧ sv i ≠ sv j) ∧ sk i ≠ sv j

/-- How far a map's literal has come. -/
structure LitInv (P : Program) (W : World) (S n : Nat) (m z1 z2 : Tmp) (sk sv : Nat → Tmp) (key val : Nat → Value) (listed : Array Bool) (a : Act) (w : World) : Prop where
  sz : a.tmps.size = S
  df : a.defers = []
  s0 : listed.getD 0 false = true → Slot a m (.map (some W.heap.size))
  sk : ∀ i, i < n → listed.getD (3 * i + 1) false = true → Slot a (sk i) (key i)
  sv : ∀ i, i < n → listed.getD (3 * i + 2) false = true → Slot a (sv i) (val i)
  s1 : listed.getD (3 * n + 1) false = true → Slot a z1 (.map (some W.heap.size))
  s2 : listed.getD (3 * n + 2) false = true → Slot a z2 (.map (some W.heap.size))
  bel : Below W.heap.size W w
  w0 : listed.getD 0 false = false → w.heap.size = W.heap.size
  w1 : listed.getD 0 false = true → Entries w W.heap.size n key val (fun i => listed.getD (3 * i + 3) false = true)
  wi : ∀ i, i < n → listed.getD (3 * i + 3) false = true → listed.getD 0 false = true

theorem Entries.congr {w : World} {B n : Nat} {key val : Nat → Value} {st st' : Nat → Prop} (h : Entries w B n key val st) (hs : ∀ i, i < n → (st i ↔ st' i)) : Entries w B n key val st' := by
  obtain ⟨es, clock, hb, h1, h2⟩ := h
  exact ⟨es, clock, hb, fun e he => by obtain ⟨i, hi, hst, h⟩ := h1 e he; exact ⟨i, hi, (hs i hi).1 hst, h⟩, fun i hi hst => h2 i hi ((hs i hi).2 hst)⟩

set_option maxHeartbeats 1000000 in
/-- **The region of a map's literal.** -/
theorem wp_mapLit {id : Nat} {a : Act} {w : World} {S n : Nat} {m z1 z2 : Tmp} {sk sv : Nat → Tmp} {key val : Nat → Value} {kl : Nat → Lit} (hm : P.follows .mixedOrders = true) (law : Keyed P K) (hT : P.underlying T = some (.map K E))
    (hkl : ∀ i, i < n → keyOf P K (key i) = some (kl i)) (hap : ∀ i j, i < n → j < n → key i = key j → i = j) (L : Lits P ops T n m z1 z2 sk sv key val) (hsz : a.tmps.size = S) (hdf : a.defers = [])
    (hS : m < S ∧ z1 < S ∧ z2 < S ∧ ∀ i, i < n → sk i < S ∧ sv i < S)
    (h : ∀ a' w', a'.tmps.size = S → a'.defers = [] → Slot a' z2 (.map (some w.heap.size)) → Below w.heap.size w w' → Entries w' w.heap.size n key val (fun _ => True) → Q .normal a' w') : (Code.region id ops true).wp P Q a w := by
  have hwts := L.waits
  simp only [litWaits, Bool.and_eq_true] at hwts
  obtain ⟨⟨hw1, hw2⟩, hw3⟩ := hwts
  refine wp_region_inv hm (LitInv P w S n m z1 z2 sk sv key val) ?_ ?_ ?_
  · intro listed i a w' hls hr I
    obtain ⟨hun, o', ho', hall⟩ := mem_ready.1 hr
    have hi : i < ops.size := (Array.getElem?_eq_some_iff.1 ho').1
    have hunf : listed.getD i false = false := getD_both hun
    have hls2 : i < listed.size := by omega
    have lset : ∀ j, (listed.setIfInBounds i true).getD j false = true → j = i ∨ listed.getD j false = true := fun j hj => by
      rcases set_true.1 hj with h | h
      · exact .inr h
      · exact .inl h.1.symm
    have lkeep : ∀ j, listed.getD j false = true → (listed.setIfInBounds i true).getD j false = true := fun j hj => set_true.2 (.inl hj)
    rw [L.size] at hi
    have hcase : i = 0 ∨ (∃ j, j < n ∧ i = 3 * j + 1) ∨ (∃ j, j < n ∧ i = 3 * j + 2) ∨ (∃ j, j < n ∧ i = 3 * j + 3) ∨ i = 3 * n + 1 ∨ i = 3 * n + 2 := by
      by_cases h0 : i = 0
      · exact .inl h0
      · by_cases h1 : i = 3 * n + 1
        · exact .inr (.inr (.inr (.inr (.inl h1))))
        · by_cases h2 : i = 3 * n + 2
          · exact .inr (.inr (.inr (.inr (.inr h2))))
          · have h3 : i % 3 = 0 ∨ i % 3 = 1 ∨ i % 3 = 2 := by omega
            rcases h3 with h3 | h3 | h3
            · exact .inr (.inr (.inr (.inl ⟨i / 3 - 1, by omega, by omega⟩)))
            · exact .inr (.inl ⟨i / 3, by omega, by omega⟩)
            · exact .inr (.inr (.inl ⟨i / 3, by omega, by omega⟩))
    -- a slot that is written, in a world that stays
    have stay : ∀ {d : Tmp} {v : Value}, i ≠ 0 → (∀ j, j < n → i ≠ 3 * j + 3) → d < S →
        (i ≠ 0 → d ≠ m) → (∀ j, j < n → i ≠ 3 * j + 1 → d ≠ sk j) → (∀ j, j < n → i ≠ 3 * j + 2 → d ≠ sv j) → (i ≠ 3 * n + 1 → d ≠ z1) → (i ≠ 3 * n + 2 → d ≠ z2) →
        (∀ j, j < n → i = 3 * j + 1 → d = sk j ∧ v = key j) → (∀ j, j < n → i = 3 * j + 2 → d = sv j ∧ v = val j) → (i = 3 * n + 1 → d = z1 ∧ v = .map (some w.heap.size)) → (i = 3 * n + 2 → d = z2 ∧ v = .map (some w.heap.size)) →
        LitInv P w S n m z1 z2 sk sv key val (listed.setIfInBounds i true) (a.put (some d) v) w' := by
      intro d v hi0 hi3 hd n0 nk nv n1 n2 yk yv y1 y2
      have hda : d < a.tmps.size := by rw [I.sz]; exact hd
      refine ⟨by simp [Act.put, I.sz], by simp [Act.put, I.df], fun hl => ?_, fun j hj hl => ?_, fun j hj hl => ?_, fun hl => ?_, fun hl => ?_, I.bel, fun hl => ?_, fun hl => ?_, fun j hj hl => ?_⟩
      · rcases lset _ hl with h | h
        · exact absurd h.symm hi0
        · exact (I.s0 h).other (n0 hi0)
      · rcases lset _ hl with h | h
        · obtain ⟨rfl, rfl⟩ := yk j hj h.symm; exact Slot.put hda
        · by_cases e : i = 3 * j + 1
          · obtain ⟨rfl, rfl⟩ := yk j hj e; exact Slot.put hda
          · exact (I.sk j hj h).other (nk j hj e)
      · rcases lset _ hl with h | h
        · obtain ⟨rfl, rfl⟩ := yv j hj h.symm; exact Slot.put hda
        · by_cases e : i = 3 * j + 2
          · obtain ⟨rfl, rfl⟩ := yv j hj e; exact Slot.put hda
          · exact (I.sv j hj h).other (nv j hj e)
      · rcases lset _ hl with h | h
        · obtain ⟨rfl, rfl⟩ := y1 h.symm; exact Slot.put hda
        · by_cases e : i = 3 * n + 1
          · obtain ⟨rfl, rfl⟩ := y1 e; exact Slot.put hda
          · exact (I.s1 h).other (n1 e)
      · rcases lset _ hl with h | h
        · obtain ⟨rfl, rfl⟩ := y2 h.symm; exact Slot.put hda
        · by_cases e : i = 3 * n + 2
          · obtain ⟨rfl, rfl⟩ := y2 e; exact Slot.put hda
          · exact (I.s2 h).other (n2 e)
      · rw [getD_set_ne false hi0] at hl; exact I.w0 hl
      · rw [getD_set_ne false hi0] at hl
        exact (I.w1 hl).congr fun j hj => by rw [getD_set_ne false (hi3 j hj)]
      · rw [getD_set_ne false (hi3 j hj)] at hl
        exact lkeep _ (I.wi j hj hl)
    rcases hcase with rfl | ⟨j, hj, rfl⟩ | ⟨j, hj, rfl⟩ | ⟨j, hj, rfl⟩ | rfl | rfl
    · obtain ⟨o, ho, hg, hd, hop⟩ := L.o0
      refine wpOp_value (v := .map (some w'.heap.size)) (w' := w'.alloc (.map #[] 0)) ho hg (by simp [execOp, hop, Instr.makeMap, Result.andThen]) ?_
      rw [hd]
      have hw := I.w0 hunf
      have hda : m < a.tmps.size := by rw [I.sz]; exact hS.1
      rw [hw]
      refine ⟨by simp [Act.put, I.sz], by simp [Act.put, I.df], fun hl => Slot.put hda, fun j hj hl => ?_, fun j hj hl => ?_, fun hl => ?_, fun hl => ?_, I.bel.alloc (by omega) _, fun hl => ?_, fun hl => ?_, fun j hj hl => set_true.2 (.inr ⟨rfl, hls2⟩)⟩
      · rw [getD_set_ne false (by omega)] at hl; exact (I.sk j hj hl).other (Ne.symm (L.d1 j hj).1)
      · rw [getD_set_ne false (by omega)] at hl; exact (I.sv j hj hl).other (Ne.symm (L.d1 j hj).2.1)
      · rw [getD_set_ne false (by omega)] at hl; exact (I.s1 hl).other L.d2.1
      · rw [getD_set_ne false (by omega)] at hl; exact (I.s2 hl).other L.d2.2.1
      · have h5 : (listed.setIfInBounds 0 true).getD 0 false = true := set_true.2 (.inr ⟨rfl, hls2⟩)
        rw [h5] at hl; cases hl
      · refine ⟨#[], 0, ?_, fun e he => by simp at he, fun j hj hst => ?_⟩
        · rw [← hw]; exact (MapKept.heap_alloc w' _).1
        · change (listed.setIfInBounds 0 true).getD (3 * j + 3) false = true at hst
          rw [getD_set_ne false (by omega)] at hst
          have := I.wi j hj hst
          rw [hunf] at this; cases this
    · obtain ⟨o, ho, hg, hd, hrun⟩ := L.ok j hj
      refine wpOp_value ho hg (hrun a w') ?_
      rw [hd]
      have hd1 := L.d1 j hj
      exact stay (by omega) (fun k hk => by omega) (hS.2.2.2 j hj).1 (fun _ => hd1.1) (fun k hk e => (L.d3 j k hj hk).1 (by omega) |>.1) (fun k hk e => (L.d3 j k hj hk).2) (fun _ => hd1.2.2.1) (fun _ => hd1.2.2.2.2.1) (fun k hk e => by (have e2 : j = k := by omega); subst e2; exact ⟨rfl, rfl⟩) (fun k hk e => by omega) (fun e => by omega) (fun e => by omega)
    · obtain ⟨o, ho, hg, hd, hrun⟩ := L.ov j hj
      refine wpOp_value ho hg (hrun a w') ?_
      rw [hd]
      have hd1 := L.d1 j hj
      exact stay (by omega) (fun k hk => by omega) (hS.2.2.2 j hj).2 (fun _ => hd1.2.1) (fun k hk e => Ne.symm (L.d3 k j hk hj).2) (fun k hk e => (L.d3 j k hj hk).1 (by omega) |>.2) (fun _ => hd1.2.2.2.1) (fun _ => hd1.2.2.2.2.2) (fun k hk e => by omega) (fun k hk e => by (have e2 : j = k := by omega); subst e2; exact ⟨rfl, rfl⟩) (fun e => by omega) (fun e => by omega)
    · obtain ⟨o, ho, hg, hd, hop⟩ := L.oi j hj
      have hwj := List.all_eq_true.1 hw1 j (List.mem_range.2 hj)
      simp only [Bool.and_eq_true] at hwj
      obtain ⟨e0, he0, hb0, hn0⟩ := waitB_spec hwj.1.1 ho
      obtain ⟨e1, he1, hb1, hn1⟩ := waitB_spec hwj.1.2 ho
      obtain ⟨e2, he2, hb2, hn2⟩ := waitB_spec hwj.2 ho
      obtain rfl := Option.some.inj (ho.symm.trans ho')
      have l0 := hall e0 he0 hb0
      have l1 := hall e1 he1 hb1
      have l2 := hall e2 he2 hb2
      rw [hn0] at l0
      rw [hn1] at l1
      rw [hn2] at l2
      obtain ⟨w2, hrun, hE, hB, hwz⟩ := insert_run law hT hkl hap (I.w1 l0) hj (by simp [hunf])
      refine wpOp_skip (w' := w2) ho hg (by simp [execOp, hop, (I.s0 l0).eval, (I.sk j hj l1).eval, (I.sv j hj l2).eval, hrun, Result.andThen]) ?_
      rw [hd]
      refine ⟨I.sz, I.df, fun hl => I.s0 l0, fun k hk hl => ?_, fun k hk hl => ?_, fun hl => ?_, fun hl => ?_, I.bel.trans hB, fun hl => ?_, fun hl => ?_, fun k hk hl => lkeep _ l0⟩
      · rw [getD_set_ne false (by omega)] at hl; exact I.sk k hk hl
      · rw [getD_set_ne false (by omega)] at hl; exact I.sv k hk hl
      · rw [getD_set_ne false (by omega)] at hl; exact I.s1 hl
      · rw [getD_set_ne false (by omega)] at hl; exact I.s2 hl
      · rw [getD_set_ne false (by omega)] at hl; rw [l0] at hl; cases hl
      · exact hE.congr fun k hk => ⟨fun h => by
          rcases h with h | rfl
          · exact lkeep _ h
          · exact set_true.2 (.inr ⟨rfl, hls2⟩), fun h => by
          rcases lset _ h with h | h
          · exact .inr (by omega)
          · exact .inl h⟩
    · obtain ⟨o, ho, hg, hd, hop⟩ := L.om
      obtain ⟨e0, he0, hb0, hn0⟩ := waitB_spec hw2 ho
      obtain rfl := Option.some.inj (ho.symm.trans ho')
      have l0 := hall e0 he0 hb0
      rw [hn0] at l0
      refine wpOp_value (v := .map (some w.heap.size)) (w' := w') ho hg (by simp [execOp, hop, (I.s0 l0).eval]) ?_
      rw [hd]
      exact stay (by omega) (fun k hk => by omega) hS.2.1 (fun _ => Ne.symm L.d2.1) (fun k hk e => Ne.symm (L.d1 k hk).2.2.1) (fun k hk e => Ne.symm (L.d1 k hk).2.2.2.1) (fun h => absurd rfl h) (fun _ => L.d2.2.2) (fun k hk e => by omega) (fun k hk e => by omega) (fun e => ⟨rfl, rfl⟩) (fun e => by omega)
    · obtain ⟨o, ho, hg, hd, hop⟩ := L.oa
      obtain ⟨e0, he0, hb0, hn0⟩ := waitB_spec hw3 ho
      obtain rfl := Option.some.inj (ho.symm.trans ho')
      have l0 := hall e0 he0 hb0
      rw [hn0] at l0
      refine wpOp_value (v := .map (some w.heap.size)) (w' := w') ho hg (by simp [execOp, hop, (I.s1 l0).eval]) ?_
      rw [hd]
      exact stay (by omega) (fun k hk => by omega) hS.2.2.1 (fun _ => Ne.symm L.d2.2.1) (fun k hk e => Ne.symm (L.d1 k hk).2.2.2.2.1) (fun k hk e => Ne.symm (L.d1 k hk).2.2.2.2.2) (fun _ => Ne.symm L.d2.2.2) (fun h => absurd rfl h) (fun k hk e => by omega) (fun k hk e => by omega) (fun e => by omega) (fun e => ⟨rfl, rfl⟩)
  · intro listed a w' hls hr I
    have H := all_listed L.back hr hls
    rw [L.size] at H
    exact h a w' I.sz I.df (I.s2 (H _ (by omega))) I.bel ((I.w1 (H _ (by omega))).congr fun j hj => ⟨fun _ => trivial, fun _ => H _ (by omega)⟩)
  · have hf : ∀ j, (Array.replicate ops.size false).getD j false = false := fun j => by
      by_cases hj : j < ops.size <;> simp [hj]
    exact ⟨hsz, hdf, fun hl => (by rw [hf] at hl; cases hl), fun j hj hl => (by rw [hf] at hl; cases hl), fun j hj hl => (by rw [hf] at hl; cases hl), fun hl => (by rw [hf] at hl; cases hl), fun hl => (by rw [hf] at hl; cases hl), (Below.refl _ _).drew, fun _ => rfl, fun hl => (by rw [hf] at hl; cases hl), fun j hj hl => (by rw [hf] at hl; cases hl)⟩
end
end Go.Proofs.Ytaocopmlgemgiaa
