/- Layer 36: what ticks make of lists of pages, in plain Lean. -/
import Derived.Test.YtobmnajgbhgdlaaP13
namespace Go.Proofs.Ytobmnajgbhgdlaa
set_option linter.unusedVariables false
set_option linter.unusedSimpArgs false
open Go.RowKit Go.Sort

abbrev ids (L : List Pg) : List Int := L.map (·.1)
/-- A right list of pages. -/
structure VL (tr : Int) (L : List Pg) : Prop where
  b : ∀ x ∈ L, 0 ≤ x.1 ∧ x.1 < 65536 ∧ 0 ≤ x.2.1 ∧ x.2.1 ≤ 1048576 ∧ 0 ≤ x.2.2 ∧ x.2.2 ≤ tr
  u : (ids L).Nodup
theorem pg_at {L : List Pg} {k : Nat} (h : k < L.length) : (pI L k, pS L k, pC L k) = L[k] := by
  unfold pI pS pC
  rw [List.getD_eq_getElem?_getD, List.getElem?_eq_getElem h]
  rfl
theorem pI_at {L : List Pg} {k : Nat} (h : k < L.length) : pI L k = (ids L)[k]'(by simpa using h) := by
  have := congrArg (·.1) (pg_at h)
  simp at this
  simp [this]
theorem pl_self (L : List Pg) : pl (pI L) (pS L) (pC L) L.length = L := by
  unfold pl
  refine List.ext_getElem (by simp) fun k h1 h2 => ?_
  rw [List.getElem_map, List.getElem_range]
  exact pg_at h2
theorem fl_eq (I S C : Nat → Int) (id : Int) : ∀ n, fl I S C id n = (pl I S C n).filter fun x => decide (x.1 ≠ id)
  | 0 => rfl
  | n + 1 => by
    unfold fl
    rw [pl_succ, List.filter_append, ← fl_eq I S C id n]
    by_cases h : I n = id
    · rw [if_pos h]; simp [h]
    · rw [if_neg h]; simp [h]
theorem fl_self (L : List Pg) (id : Int) : fl (pI L) (pS L) (pC L) id L.length = L.filter fun x => decide (x.1 ≠ id) := by rw [fl_eq, pl_self]
theorem hs_true {I : Nat → Int} {id : Int} {n : Nat} : hs I id n = true ↔ ∃ k, k < n ∧ I k = id := by
  unfold hs
  rw [decide_eq_true_iff]
  rcases fi_spec I id n with ⟨h1, h2⟩ | ⟨j, h1, h2, h3, _⟩
  · rw [h1]
    exact ⟨fun h => by omega, fun ⟨k, hk, e⟩ => absurd e (h2 k hk)⟩
  · rw [h1]
    exact ⟨fun _ => ⟨j, h2, h3⟩, fun _ => by omega⟩
theorem hs_ids {L : List Pg} {id : Int} : hs (pI L) id L.length = true ↔ id ∈ ids L := by
  rw [hs_true]
  constructor
  · rintro ⟨k, hk, rfl⟩
    rw [pI_at hk]
    exact List.getElem_mem _
  · intro h
    obtain ⟨k, hk, e⟩ := List.mem_iff_getElem.1 h
    have hk' : k < L.length := by simpa using hk
    exact ⟨k, hk', by rw [pI_at hk', e]⟩
theorem hs_ids_f {L : List Pg} {id : Int} (h : id ∉ ids L) : hs (pI L) id L.length = false := by
  cases e : hs (pI L) id L.length with
  | false => rfl
  | true => exact absurd (hs_ids.1 e) h
theorem hs_less {L : List Pg} {k : Nat} (hu : (ids L).Nodup) (hk : k < L.length) : hs (pI L) (pI L k) k = false := by
  cases e : hs (pI L) (pI L k) k with
  | false => rfl
  | true =>
    obtain ⟨j, hj, e2⟩ := hs_true.1 e
    rw [pI_at hk, pI_at (by omega)] at e2
    have := (List.getElem_inj hu).1 e2
    omega
theorem ck_list {cy mo tr : Int} {L : List Pg} (hp : 1 ≤ cy ∧ cy ≤ 256 ∧ 1 ≤ mo ∧ mo ≤ 16 ∧ 1 ≤ tr ∧ tr ≤ 32) (h : VL tr L) (hl : L.length ≤ 16) : ckP cy mo tr L.length (pI L) (pS L) (pC L) = 0 := by
  unfold ckP
  rw [if_neg (by simp [pok, hp]), if_neg (by omega), if_neg]
  intro hb
  have : anyB (badP tr (pI L) (pS L) (pC L)) L.length = false := anyB_false.2 fun k hk => by
    have h1 := h.b L[k] (List.getElem_mem hk)
    rw [← pg_at hk] at h1
    dsimp only at h1
    unfold badP
    rw [hs_less h.u hk, Bool.or_false]
    exact decide_eq_false (by omega)
  rw [this] at hb
  cases hb
theorem tkL_fold (cy mo tr t : Int) (I S C : Nat → Int) : ∀ n, tkL cy mo tr t I S C n = (pl I S C n).foldl (fun st x => tkS cy mo tr t x st) ([], [], [])
  | 0 => rfl
  | n + 1 => by
    rw [pl_succ, List.foldl_append, ← tkL_fold cy mo tr t I S C n]
    rfl
/-- What a tick makes of a list. -/
def tkF (cy mo tr t : Int) (L : List Pg) : List Pg × List Int × List Int := L.foldl (fun st x => tkS cy mo tr t x st) ([], [], [])
theorem tkF_eq (cy mo tr t : Int) (L : List Pg) : tkL cy mo tr t (pI L) (pS L) (pC L) L.length = tkF cy mo tr t L := by rw [tkL_fold, pl_self]; rfl
theorem tkF_snoc (cy mo tr t : Int) (L : List Pg) (x : Pg) : tkF cy mo tr t (L ++ [x]) = tkS cy mo tr t x (tkF cy mo tr t L) := by unfold tkF; rw [List.foldl_append]; rfl
/-- Pages with a remainder, counted by what they may still cost. -/
def pot (cy tr r : Int) (L : List Pg) : Int := (L.map fun x => if x.1 % cy = r then tr + 1 - x.2.2 else 0).sum
theorem pot_snoc (cy tr r : Int) (L : List Pg) (x : Pg) : pot cy tr r (L ++ [x]) = pot cy tr r L + if x.1 % cy = r then tr + 1 - x.2.2 else 0 := by
  unfold pot
  rw [List.map_append, List.sum_append]
  simp
/-- What holds behind a tick's first pages. -/
structure TkI (cy mo tr t : Int) (L P : List Pg) (A B : List Int) : Prop where
  uP : (ids P).Nodup
  uA : A.Nodup
  uB : B.Nodup
  sP : ∀ i ∈ ids P, i ∈ ids L
  sA : ∀ i ∈ A, i ∈ ids P
  sB : ∀ i ∈ B, i ∈ ids L
  dB : ∀ i ∈ B, i ∉ ids P
  all : ∀ i ∈ ids L, i ∈ ids P ∨ i ∈ B
  eP : ∀ y ∈ P, ∃ x ∈ L, y.1 = x.1 ∧ y.2.1 = x.2.1 ∧ (y.1 ∈ A ∧ y.2.2 = x.2.2 + 1 ∧ x.2.2 ≠ tr ∨ y.1 ∉ A ∧ y.2.2 = x.2.2)
  eA : ∀ i ∈ A, i % cy = t % cy ∧ ∃ x ∈ L, x.1 = i ∧ x.2.2 ≠ tr
  eB : ∀ i ∈ B, i % cy = t % cy ∧ ∃ x ∈ L, x.1 = i ∧ x.2.2 = tr
  len : (A.length : Int) ≤ mo
  o1 : ∀ r, r ≠ t % cy → pot cy tr r P = pot cy tr r L
  o2 : pot cy tr (t % cy) P ≤ pot cy tr (t % cy) L
  o3 : (∃ x ∈ L, x.1 % cy = t % cy) → pot cy tr (t % cy) P + 1 ≤ pot cy tr (t % cy) L
  o4 : A ≠ [] → ∃ x ∈ L, x.1 % cy = t % cy
theorem ids_snoc (L : List Pg) (x : Pg) : ids (L ++ [x]) = ids L ++ [x.1] := by simp [ids]
theorem nodup_snoc {α : Type} {L : List α} {x : α} : (L ++ [x]).Nodup ↔ L.Nodup ∧ x ∉ L := by
  rw [List.nodup_append]
  constructor
  · rintro ⟨h1, _, h3⟩
    exact ⟨h1, fun hx => h3 x hx x (by simp) rfl⟩
  · rintro ⟨h1, h2⟩
    refine ⟨h1, by simp, fun a ha b hb e => ?_⟩
    simp at hb
    exact h2 (by rw [← hb, ← e]; exact ha)
theorem TkI.nil (cy mo tr t : Int) (hm : 1 ≤ mo) : TkI cy mo tr t [] [] [] [] :=
  ⟨by simp, by simp, by simp, by simp, by simp, by simp, by simp, by simp, by simp, by simp, by simp, by simp; omega, fun _ _ => rfl, Int.le_refl _, fun ⟨x, h, _⟩ => by simp at h, fun h => absurd rfl h⟩
section
variable {cy mo tr t : Int} {L P : List Pg} {A B : List Int} {x : Pg}
theorem mem_snoc {α : Type} {L : List α} {x y : α} : y ∈ L ++ [x] ↔ y ∈ L ∨ y = x := by simp
theorem TkI.keep (h : TkI cy mo tr t L P A B) (hx : x.1 ∉ ids L) (hk : x.1 % cy = t % cy → A ≠ []) : TkI cy mo tr t (L ++ [x]) (P ++ [x]) A B := by
  have hxP : x.1 ∉ ids P := fun e => hx (h.sP _ e)
  have hxA : x.1 ∉ A := fun e => hxP (h.sA _ e)
  refine ⟨?_, h.uA, h.uB, ?_, ?_, ?_, ?_, ?_, ?_, ?_, ?_, h.len, ?_, ?_, ?_, ?_⟩
  · rw [ids_snoc, nodup_snoc]; exact ⟨h.uP, hxP⟩
  · intro i hi
    rw [ids_snoc, mem_snoc] at hi ⊢
    exact hi.imp (h.sP i) id
  · intro i hi
    rw [ids_snoc, mem_snoc]
    exact .inl (h.sA i hi)
  · intro i hi
    rw [ids_snoc, mem_snoc]
    exact .inl (h.sB i hi)
  · intro i hi e
    rw [ids_snoc, mem_snoc] at e
    rcases e with e | e
    · exact h.dB i hi e
    · exact hx (e ▸ h.sB i hi)
  · intro i hi
    rw [ids_snoc, mem_snoc] at hi ⊢
    rcases hi with hi | hi
    · exact (h.all i hi).imp .inl id
    · exact .inl (.inr hi)
  · intro y hy
    rcases mem_snoc.1 hy with hy | rfl
    · obtain ⟨z, hz, h2⟩ := h.eP y hy
      exact ⟨z, mem_snoc.2 (.inl hz), h2⟩
    · exact ⟨y, mem_snoc.2 (.inr rfl), rfl, rfl, .inr ⟨hxA, rfl⟩⟩
  · intro i hi
    obtain ⟨h1, z, hz, h2⟩ := h.eA i hi
    exact ⟨h1, z, mem_snoc.2 (.inl hz), h2⟩
  · intro i hi
    obtain ⟨h1, z, hz, h2⟩ := h.eB i hi
    exact ⟨h1, z, mem_snoc.2 (.inl hz), h2⟩
  · intro r hr
    rw [pot_snoc, pot_snoc, h.o1 r hr]
  · rw [pot_snoc, pot_snoc]
    have := h.o2
    omega
  · rintro ⟨z, hz, h2⟩
    have : ∃ x ∈ L, x.1 % cy = t % cy := by
      rcases mem_snoc.1 hz with hz | rfl
      · exact ⟨z, hz, h2⟩
      · exact h.o4 (hk h2)
    have := h.o3 this
    rw [pot_snoc, pot_snoc]
    omega
  · intro ha
    obtain ⟨z, hz, h2⟩ := h.o4 ha
    exact ⟨z, mem_snoc.2 (.inl hz), h2⟩
theorem TkI.give (h : TkI cy mo tr t L P A B) (hx : x.1 ∉ ids L) (ho : x.1 % cy = t % cy) (hc : x.2.2 = tr) : TkI cy mo tr t (L ++ [x]) P A (B ++ [x.1]) := by
  have hxP : x.1 ∉ ids P := fun e => hx (h.sP _ e)
  have hxB : x.1 ∉ B := fun e => hx (h.sB _ e)
  refine ⟨h.uP, h.uA, nodup_snoc.2 ⟨h.uB, hxB⟩, ?_, h.sA, ?_, ?_, ?_, ?_, ?_, ?_, h.len, ?_, ?_, ?_, ?_⟩
  · intro i hi
    rw [ids_snoc, mem_snoc]
    exact .inl (h.sP i hi)
  · intro i hi
    rw [mem_snoc] at hi
    rw [ids_snoc, mem_snoc]
    exact hi.imp (h.sB i) id
  · intro i hi
    rcases mem_snoc.1 hi with hi | rfl
    · exact h.dB i hi
    · exact hxP
  · intro i hi
    rw [ids_snoc, mem_snoc] at hi
    rw [mem_snoc]
    rcases hi with hi | hi
    · exact (h.all i hi).imp id .inl
    · exact .inr (.inr hi)
  · intro y hy
    obtain ⟨z, hz, h2⟩ := h.eP y hy
    exact ⟨z, mem_snoc.2 (.inl hz), h2⟩
  · intro i hi
    obtain ⟨h1, z, hz, h2⟩ := h.eA i hi
    exact ⟨h1, z, mem_snoc.2 (.inl hz), h2⟩
  · intro i hi
    rcases mem_snoc.1 hi with hi | rfl
    · obtain ⟨h1, z, hz, h2⟩ := h.eB i hi
      exact ⟨h1, z, mem_snoc.2 (.inl hz), h2⟩
    · exact ⟨ho, x, mem_snoc.2 (.inr rfl), rfl, hc⟩
  · intro r hr
    rw [pot_snoc, h.o1 r hr, if_neg (by rw [ho]; exact Ne.symm hr)]; omega
  · rw [pot_snoc, if_pos ho, hc]
    have := h.o2
    omega
  · intro _
    rw [pot_snoc, if_pos ho, hc]
    have := h.o2
    omega
  · intro _
    exact ⟨x, mem_snoc.2 (.inr rfl), ho⟩
theorem TkI.call (h : TkI cy mo tr t L P A B) (hx : x.1 ∉ ids L) (ho : x.1 % cy = t % cy) (hc : x.2.2 ≠ tr) (hm : (A.length : Int) < mo) : TkI cy mo tr t (L ++ [x]) (P ++ [(x.1, x.2.1, x.2.2 + 1)]) (A ++ [x.1]) B := by
  have hxP : x.1 ∉ ids P := fun e => hx (h.sP _ e)
  have hxA : x.1 ∉ A := fun e => hxP (h.sA _ e)
  refine ⟨?_, nodup_snoc.2 ⟨h.uA, hxA⟩, h.uB, ?_, ?_, ?_, ?_, ?_, ?_, ?_, ?_, ?_, ?_, ?_, ?_, ?_⟩
  · rw [ids_snoc, nodup_snoc]; exact ⟨h.uP, hxP⟩
  · intro i hi
    rw [ids_snoc, mem_snoc] at hi ⊢
    exact hi.imp (h.sP i) id
  · intro i hi
    rw [mem_snoc] at hi
    rw [ids_snoc, mem_snoc]
    exact hi.imp (h.sA i) id
  · intro i hi
    rw [ids_snoc, mem_snoc]
    exact .inl (h.sB i hi)
  · intro i hi e
    rw [ids_snoc, mem_snoc] at e
    rcases e with e | e
    · exact h.dB i hi e
    · exact hx (e ▸ h.sB i hi)
  · intro i hi
    rw [ids_snoc, mem_snoc] at hi ⊢
    rcases hi with hi | hi
    · exact (h.all i hi).imp .inl id
    · exact .inl (.inr hi)
  · intro y hy
    rcases mem_snoc.1 hy with hy | rfl
    · obtain ⟨z, hz, h1, h2, h3⟩ := h.eP y hy
      have hyx : y.1 ≠ x.1 := fun e => hxP (e ▸ List.mem_map_of_mem hy)
      refine ⟨z, mem_snoc.2 (.inl hz), h1, h2, ?_⟩
      rcases h3 with ⟨k1, k2⟩ | ⟨k1, k2⟩
      · exact .inl ⟨mem_snoc.2 (.inl k1), k2⟩
      · exact .inr ⟨fun e => by rcases mem_snoc.1 e with e | e; exact k1 e; exact hyx e, k2⟩
    · exact ⟨x, mem_snoc.2 (.inr rfl), rfl, rfl, .inl ⟨mem_snoc.2 (.inr rfl), rfl, hc⟩⟩
  · intro i hi
    rcases mem_snoc.1 hi with hi | rfl
    · obtain ⟨h1, z, hz, h2⟩ := h.eA i hi
      exact ⟨h1, z, mem_snoc.2 (.inl hz), h2⟩
    · exact ⟨ho, x, mem_snoc.2 (.inr rfl), rfl, hc⟩
  · intro i hi
    obtain ⟨h1, z, hz, h2⟩ := h.eB i hi
    exact ⟨h1, z, mem_snoc.2 (.inl hz), h2⟩
  · rw [List.length_append, List.length_singleton]; omega
  · intro r hr
    rw [pot_snoc, pot_snoc, h.o1 r hr, if_neg (by rw [ho]; exact Ne.symm hr), if_neg (by rw [ho]; exact Ne.symm hr)]
  · rw [pot_snoc, pot_snoc, if_pos ho, if_pos ho]
    have := h.o2
    simp only
    omega
  · intro _
    rw [pot_snoc, pot_snoc, if_pos ho, if_pos ho]
    have := h.o2
    simp only
    omega
  · intro _
    exact ⟨x, mem_snoc.2 (.inr rfl), ho⟩
theorem occ_iff {id : Int} (hc : 1 ≤ cy ∧ cy ≤ 256) (hi : 0 ≤ id) (ht : 0 ≤ t) : occ cy id t = true ↔ id % cy = t % cy := by
  unfold occ
  rw [decide_eq_true_iff]
  exact ⟨fun h => h.2.2.2.2, fun h => ⟨hc.1, hc.2, hi, ht, h⟩⟩
theorem TkI.step (h : TkI cy mo tr t L P A B) (hx : x.1 ∉ ids L) (hc : 1 ≤ cy ∧ cy ≤ 256) (hm : 1 ≤ mo) (ht : 0 ≤ t) (hi : 0 ≤ x.1) : TkI cy mo tr t (L ++ [x]) (tkS cy mo tr t x (P, A, B)).1 (tkS cy mo tr t x (P, A, B)).2.1 (tkS cy mo tr t x (P, A, B)).2.2 := by
  unfold tkS
  by_cases ho : occ cy x.1 t = true
  · have ho' := (occ_iff hc hi ht).1 ho
    rw [if_pos ho]
    by_cases h1 : x.2.2 = tr
    · rw [if_pos h1]
      exact h.give hx ho' h1
    · rw [if_neg h1]
      by_cases h2 : (A.length : Int) < mo
      · simp only [if_pos h2]
        exact h.call hx ho' h1 h2
      · simp only [if_neg h2]
        exact h.keep hx fun _ e => h2 (by rw [e]; simp; omega)
  · rw [if_neg ho]
    exact h.keep hx fun e => absurd ((occ_iff hc hi ht).2 e) ho
end
theorem tkF_inv {cy mo tr t : Int} (hc : 1 ≤ cy ∧ cy ≤ 256) (hm : 1 ≤ mo) (ht : 0 ≤ t) : ∀ (n : Nat) (L : List Pg), L.length = n → VL tr L → TkI cy mo tr t L (tkF cy mo tr t L).1 (tkF cy mo tr t L).2.1 (tkF cy mo tr t L).2.2
  | 0, L, hl, _ => by
    obtain rfl := List.eq_nil_of_length_eq_zero hl
    exact TkI.nil cy mo tr t hm
  | n + 1, L, hl, hv => by
    obtain ⟨L', x, rfl⟩ : ∃ L' x, L = L' ++ [x] := by
      have hne : L ≠ [] := fun e => by rw [e] at hl; cases hl
      exact ⟨L.dropLast, L.getLast hne, (List.dropLast_concat_getLast hne).symm⟩
    have hu := hv.u
    rw [ids_snoc, nodup_snoc] at hu
    have hv' : VL tr L' := ⟨fun y hy => hv.b y (mem_snoc.2 (.inl hy)), hu.1⟩
    rw [List.length_append, List.length_singleton] at hl
    rw [tkF_snoc]
    exact (tkF_inv hc hm ht n L' (by omega) hv').step hu.2 hc hm ht (hv.b x (mem_snoc.2 (.inr rfl))).1
/-- A tick leaves a right list. -/
theorem TkI.vl {cy mo tr t : Int} {L P : List Pg} {A B : List Int} (h : TkI cy mo tr t L P A B) (hv : VL tr L) : VL tr P :=
  ⟨fun y hy => by
    obtain ⟨x, hx, h1, h2, h3⟩ := h.eP y hy
    have := hv.b x hx
    rcases h3 with ⟨_, h4, h5⟩ | ⟨_, h4⟩ <;> omega, h.uP⟩
/-- A tick of a right pager. -/
theorem tk_ok {cy mo tr t : Int} {L : List Pg} (hp : 1 ≤ cy ∧ cy ≤ 256 ∧ 1 ≤ mo ∧ mo ≤ 16 ∧ 1 ≤ tr ∧ tr ≤ 32) (h : VL tr L) (hl : L.length ≤ 16) (ht : 0 ≤ t ∧ t ≤ 1048576) :
    tkE cy mo tr t L.length (pI L) (pS L) (pC L) = 0 ∧ tkO cy mo tr t L.length (pI L) (pS L) (pC L) = tkF cy mo tr t L := by
  have e : tkE cy mo tr t L.length (pI L) (pS L) (pC L) = 0 := by
    unfold tkE
    rw [ck_list hp h hl, if_neg (by simp), if_neg]
    have : tks t = true := decide_eq_true ht
    rw [this]; simp
  refine ⟨e, ?_⟩
  unfold tkO
  rw [if_pos e, tkF_eq]
theorem tkF_len (cy mo tr t : Int) (L : List Pg) : (tkF cy mo tr t L).1.length ≤ L.length ∧ (tkF cy mo tr t L).2.1.length ≤ L.length ∧ (tkF cy mo tr t L).2.2.length ≤ L.length := by
  rw [← tkF_eq]
  exact tkL_len cy mo tr t _ _ _ _
/-- A call at a right pager. -/
theorem cl_ok {cy mo tr id t : Int} {L : List Pg} (hp : 1 ≤ cy ∧ cy ≤ 256 ∧ 1 ≤ mo ∧ mo ≤ 16 ∧ 1 ≤ tr ∧ tr ≤ 32) (h : VL tr L) (hl : L.length < 16) (ht : 0 ≤ t ∧ t ≤ 1048576) (hi : 0 ≤ id ∧ id < 65536) :
    clE cy mo tr id t L.length (pI L) (pS L) (pC L) = (if id ∈ ids L then 12 else 0) ∧ clO cy mo tr id t L.length (pI L) (pS L) (pC L) = (if id ∈ ids L then L else L ++ [(id, t, 0)]) := by
  have hb : badC id t = false := decide_eq_false (by omega)
  have e : clE cy mo tr id t L.length (pI L) (pS L) (pC L) = (if id ∈ ids L then 12 else 0) := by
    unfold clE
    rw [ck_list hp h (by omega), if_neg (by simp), if_neg (by rw [hb]; simp)]
    by_cases hm : id ∈ ids L
    · rw [if_pos (hs_ids.2 hm), if_pos hm]
    · rw [if_neg (by rw [hs_ids_f hm]; simp), if_neg (by omega), if_neg hm]
  refine ⟨e, ?_⟩
  unfold clO
  rw [e, pl_self]
  by_cases hm : id ∈ ids L
  · rw [if_pos hm, if_pos hm, if_neg (by omega)]
  · rw [if_neg hm, if_neg hm, if_pos rfl]
theorem VL.call {tr id t : Int} {L : List Pg} (h : VL tr L) (hn : id ∉ ids L) (hi : 0 ≤ id ∧ id < 65536) (ht : 0 ≤ t ∧ t ≤ 1048576) (hr : 0 ≤ tr) : VL tr (L ++ [(id, t, 0)]) :=
  ⟨fun x hx => by
    rcases mem_snoc.1 hx with hx | rfl
    · exact h.b x hx
    · exact ⟨hi.1, hi.2, ht.1, ht.2, Int.le_refl _, hr⟩, by rw [ids_snoc, nodup_snoc]; exact ⟨h.u, hn⟩⟩
/-- An answer at a right pager. -/
theorem an_ok {cy mo tr id : Int} {L : List Pg} (hp : 1 ≤ cy ∧ cy ≤ 256 ∧ 1 ≤ mo ∧ mo ≤ 16 ∧ 1 ≤ tr ∧ tr ≤ 32) (h : VL tr L) (hl : L.length ≤ 16) :
    anOk cy mo tr id L.length (pI L) (pS L) (pC L) = decide (id ∈ ids L) ∧ anO cy mo tr id L.length (pI L) (pS L) (pC L) = L.filter fun x => decide (x.1 ≠ id) := by
  have e : anOk cy mo tr id L.length (pI L) (pS L) (pC L) = decide (id ∈ ids L) := by
    unfold anOk
    rw [ck_list hp h hl, decide_eq_true rfl, Bool.true_and]
    by_cases hm : id ∈ ids L
    · rw [hs_ids.2 hm, decide_eq_true hm]
    · rw [hs_ids_f hm, decide_eq_false hm]
  refine ⟨e, ?_⟩
  unfold anO
  rw [e, fl_self, pl_self]
  by_cases hm : id ∈ ids L
  · rw [if_pos (decide_eq_true hm)]
  · rw [if_neg (by simpa using hm)]
    refine (List.filter_eq_self.2 fun x hx => ?_).symm
    have : x.1 ≠ id := fun e => hm (e ▸ List.mem_map_of_mem hx)
    simp [this]
theorem VL.filter {tr : Int} {L : List Pg} (h : VL tr L) (p : Pg → Bool) : VL tr (L.filter p) :=
  ⟨fun x hx => h.b x (List.mem_filter.1 hx).1, List.Nodup.sublist (List.Sublist.map _ List.filter_sublist) h.u⟩
end Go.Proofs.Ytobmnajgbhgdlaa
