/- Layer 36: counting calls, in plain Lean. -/
import Derived.Test.YtobmnajgbhgdlaaL3
namespace Go.Proofs.Ytobmnajgbhgdlaa
set_option linter.unusedVariables false
set_option linter.unusedSimpArgs false
open Go.RowKit Go.Sort

abbrev num (x : Int) : Option Value := some (.int .i64 x)
/-- What the map of calls says of the pages. -/
structure MI (M : Int → Option Value) (L : List Pg) : Prop where
  m1 : ∀ y ∈ L, M y.1 = num y.2.2
  m2 : ∀ x, x ∉ ids L → M x = none ∨ M x = num (-1000)
/-- .. behind the first j calls. -/
def CA (M M' : Int → Option Value) (A : List Int) : Prop := (∀ x, x ∉ A → M' x = M x) ∧ ∀ x ∈ A, ∀ c, M x = num c → M' x = num (c + 1)
theorem CA.nil (M : Int → Option Value) : CA M M [] := ⟨fun _ _ => rfl, fun x h => by simp at h⟩
theorem CA.snoc {M M' : Int → Option Value} {A : List Int} {x : Int} {c : Int} (h : CA M M' A) (hx : x ∉ A) (hc : M x = num c) : CA M (putM M' x (.int .i64 (c + 1))) (A ++ [x]) := by
  refine ⟨fun y hy => ?_, fun y hy d hd => ?_⟩
  · have h1 : y ≠ x := fun e => hy (mem_snoc.2 (.inr e))
    unfold putM
    rw [if_neg h1]
    exact h.1 y fun e => hy (mem_snoc.2 (.inl e))
  · unfold putM
    by_cases e : y = x
    · subst e
      rw [if_pos rfl]
      rw [hc] at hd
      have : c = d := by injection hd with h2; injection h2
      rw [this]
    · rw [if_neg e]
      rcases mem_snoc.1 hy with hy | hy
      · exact h.2 y hy d hd
      · exact absurd hy e
/-- .. behind the first j that are given up. -/
def CB (M M' : Int → Option Value) (B : List Int) : Prop := (∀ x, x ∉ B → M' x = M x) ∧ ∀ x ∈ B, M' x = num (-1000)
theorem CB.nil (M : Int → Option Value) : CB M M [] := ⟨fun _ _ => rfl, fun x h => by simp at h⟩
theorem CB.snoc {M M' : Int → Option Value} {B : List Int} {x : Int} (h : CB M M' B) : CB M (putM M' x (.int .i64 (-1000))) (B ++ [x]) := by
  refine ⟨fun y hy => ?_, fun y hy => ?_⟩
  · have h1 : y ≠ x := fun e => hy (mem_snoc.2 (.inr e))
    unfold putM
    rw [if_neg h1]
    exact h.1 y fun e => hy (mem_snoc.2 (.inl e))
  · unfold putM
    by_cases e : y = x
    · rw [if_pos e]
    · rw [if_neg e]
      rcases mem_snoc.1 hy with hy | hy
      · exact h.2 y hy
      · exact absurd hy e
section
variable {cy mo tr t : Int} {L P : List Pg} {A B : List Int} {M M1 M2 : Int → Option Value}
theorem MI.tick (h : MI M L) (T : TkI cy mo tr t L P A B) (h1 : CA M M1 A) (h2 : CB M1 M2 B) : MI M2 P := by
  refine ⟨fun y hy => ?_, fun x hx => ?_⟩
  · have hyB : y.1 ∉ B := fun e => T.dB _ e (List.mem_map_of_mem hy)
    rw [h2.1 _ hyB]
    obtain ⟨z, hz, e1, e2, e3⟩ := T.eP y hy
    have hm := h.m1 z hz
    rw [← e1] at hm
    rcases e3 with ⟨k1, k2, _⟩ | ⟨k1, k2⟩
    · rw [h1.2 _ k1 _ hm, k2]
    · rw [h1.1 _ k1, hm, k2]
  · by_cases hB : x ∈ B
    · exact .inr (h2.2 x hB)
    · rw [h2.1 _ hB, h1.1 _ fun e => hx (T.sA _ e)]
      exact h.m2 x fun e => (T.all x e).elim hx hB
theorem CA.some (h : CA M M1 A) (hA : ∀ x ∈ A, ∃ c, M x = num c) {x : Int} (hx : M x ≠ none) : M1 x ≠ none := by
  by_cases hm : x ∈ A
  · obtain ⟨c, hc⟩ := hA x hm
    rw [h.2 x hm c hc]
    exact fun e => by cases e
  · rw [h.1 x hm]; exact hx
theorem CB.some (h : CB M M1 B) {x : Int} (hx : M x ≠ none) : M1 x ≠ none := by
  by_cases hm : x ∈ B
  · rw [h.2 x hm]
    exact fun e => by cases e
  · rw [h.1 x hm]; exact hx
/-- The next one that is called. -/
theorem call_at (h : MI M L) (hv : VL tr L) (T : TkI cy mo tr t L P A B) {j : Nat} (hj : j < A.length) (h1 : CA M M1 (A.take j)) :
    ∃ c : Int, M (nI A j) = num c ∧ M1 (nI A j) = num c ∧ 0 ≤ c ∧ c + 1 ≤ tr ∧ nI A j % cy = t % cy ∧ 0 ≤ nI A j ∧ nI A j < 65536 ∧ nI A j ∉ A.take j ∧ A.take (j + 1) = A.take j ++ [nI A j] := by
  have hm := nI_mem hj
  have he : nI A j = A[j] := by
    unfold nI
    rw [List.getD_eq_getElem?_getD, List.getElem?_eq_getElem hj]; rfl
  have hn : nI A j ∉ A.take j := fun e => by
    obtain ⟨k, hk, e2⟩ := List.mem_iff_getElem.1 e
    rw [List.getElem_take, he] at e2
    have h3 : k < j := by simp at hk; omega
    have := (List.getElem_inj T.uA).1 e2
    omega
  obtain ⟨k1, y, hy, k2, k3⟩ := T.eA _ hm
  have hb := hv.b y hy
  have hM := h.m1 y hy
  rw [k2] at hM hb
  refine ⟨y.2.2, hM, by rw [h1.1 _ hn]; exact hM, hb.2.2.2.2.1, ?_, k1, hb.1, hb.2.1, hn, ?_⟩
  · have := hb.2.2.2.2.2
    omega
  · rw [he]; exact List.take_succ_eq_append_getElem hj
theorem give_at (h : MI M L) (T : TkI cy mo tr t L P A B) (h0 : CA M M1 A) {j : Nat} (hj : j < B.length) (h1 : CB M1 M2 (B.take j)) (hv : VL tr L) :
    M2 (nI B j) = num tr ∧ 0 ≤ nI B j ∧ nI B j < 65536 ∧ B.take (j + 1) = B.take j ++ [nI B j] := by
  have hm := nI_mem hj
  have he : nI B j = B[j] := by
    unfold nI
    rw [List.getD_eq_getElem?_getD, List.getElem?_eq_getElem hj]; rfl
  have hn : nI B j ∉ B.take j := fun e => by
    obtain ⟨k, hk, e2⟩ := List.mem_iff_getElem.1 e
    rw [List.getElem_take, he] at e2
    have h3 : k < j := by simp at hk; omega
    have := (List.getElem_inj T.uB).1 e2
    omega
  obtain ⟨k1, y, hy, k2, k3⟩ := T.eB _ hm
  have hA : nI B j ∉ A := fun e => T.dB _ hm (T.sA _ e)
  have hM := h.m1 y hy
  have hb := hv.b y hy
  rw [k2, k3] at hM
  rw [k2] at hb
  exact ⟨by rw [h1.1 _ hn, h0.1 _ hA]; exact hM, hb.1, hb.2.1, by rw [he]; exact List.take_succ_eq_append_getElem hj⟩
theorem called (h : MI M L) (T : TkI cy mo tr t L P A B) : ∀ x ∈ A, ∃ c, M x = num c := fun x hx => by
  obtain ⟨_, y, hy, k2, _⟩ := T.eA x hx
  exact ⟨_, k2 ▸ h.m1 y hy⟩
end
/-- How much the pages may still cost, at a tick cy * q + s. -/
structure Pt (cy tr Bd : Int) (L : List Pg) (q s : Int) : Prop where
  s0 : 0 ≤ s ∧ s < cy
  p : ∀ r, 0 ≤ r → r < cy → pot cy tr r L ≤ max 0 (Bd - q - if r < s then 1 else 0)
theorem pot_nonneg {cy tr r : Int} {L : List Pg} (h : VL tr L) : 0 ≤ pot cy tr r L := by
  unfold pot
  have : ∀ (l : List Pg), (∀ x ∈ l, x.2.2 ≤ tr) → 0 ≤ (l.map fun x => if x.1 % cy = r then tr + 1 - x.2.2 else 0).sum := fun l => by
    induction l with
    | nil => intro _; simp
    | cons x l ih =>
      intro hb
      have h1 := ih fun y hy => hb y (List.mem_cons_of_mem _ hy)
      have h2 := hb x (List.mem_cons_self ..)
      simp only [List.map_cons, List.sum_cons]
      split <;> omega
  exact this L fun x hx => (h.b x hx).2.2.2.2.2
theorem pot_pos {cy tr : Int} {L : List Pg} {y : Pg} (h : ∀ x ∈ L, x.2.2 ≤ tr) (hy : y ∈ L) : 1 ≤ pot cy tr (y.1 % cy) L := by
  unfold pot
  induction L with
  | nil => simp at hy
  | cons x l ih =>
    have h2 := h x (List.mem_cons_self ..)
    simp only [List.map_cons, List.sum_cons]
    have h0 : 0 ≤ (l.map fun x => if x.1 % cy = y.1 % cy then tr + 1 - x.2.2 else 0).sum := by
      clear ih hy
      have h' : ∀ x ∈ l, x.2.2 ≤ tr := fun z hz => h z (List.mem_cons_of_mem _ hz)
      clear h h2
      induction l with
      | nil => simp
      | cons z l ih2 =>
        have h3 := h' z (List.mem_cons_self ..)
        have h4 := ih2 fun u hu => h' u (List.mem_cons_of_mem _ hu)
        simp only [List.map_cons, List.sum_cons]
        split <;> omega
    rcases List.mem_cons.1 hy with rfl | hy
    · rw [if_pos rfl]; omega
    · have := ih (fun z hz => h z (List.mem_cons_of_mem _ hz)) hy
      split <;> omega
theorem pot_le {cy tr r : Int} : ∀ {L : List Pg}, (∀ x ∈ L, 0 ≤ x.2.2) → 0 ≤ tr → pot cy tr r L ≤ (L.length : Int) * (tr + 1)
  | [], _, _ => by simp [pot]
  | x :: l, h, ht => by
    have h1 := pot_le (cy := cy) (r := r) (fun z hz => h z (List.mem_cons_of_mem _ hz)) ht
    have h2 := h x (List.mem_cons_self ..)
    unfold pot at *
    simp only [List.map_cons, List.sum_cons, List.length_cons]
    have h3 : ((l.length + 1 : Nat) : Int) * (tr + 1) = (l.length : Int) * (tr + 1) + (tr + 1) := by
      rw [show ((l.length + 1 : Nat) : Int) = (l.length : Int) + 1 by omega, Int.add_mul, Int.one_mul]
    rw [h3]
    split <;> omega
theorem Pt.tick {cy mo tr Bd t q s : Int} {L P : List Pg} {A B : List Int} (h : Pt cy tr Bd L q s) (T : TkI cy mo tr t L P A B) (hv : VL tr L) (ht : t % cy = s) (hc : 1 ≤ cy) :
    (s + 1 < cy → Pt cy tr Bd P q (s + 1)) ∧ (s + 1 = cy → Pt cy tr Bd P (q + 1) 0) := by
  have hz := pot_nonneg (cy := cy) (r := s) (T.vl hv)
  have key : pot cy tr s P ≤ max 0 (Bd - q - 1) := by
    have h1 := h.p s h.s0.1 h.s0.2
    rw [if_neg (by omega)] at h1
    by_cases he : ∃ x ∈ L, x.1 % cy = t % cy
    · have := T.o3 he
      rw [ht] at this
      omega
    · have h2 := T.o2
      rw [ht] at h2
      have h3 : pot cy tr s L = 0 := by
        unfold pot
        have : ∀ (l : List Pg), (∀ x ∈ l, x.1 % cy ≠ s) → (l.map fun x => if x.1 % cy = s then tr + 1 - x.2.2 else 0).sum = 0 := fun l => by
          induction l with
          | nil => intro _; rfl
          | cons x l ih =>
            intro hx
            simp only [List.map_cons, List.sum_cons]
            rw [if_neg (hx x (List.mem_cons_self ..)), ih fun z hz => hx z (List.mem_cons_of_mem _ hz)]
            rfl
        exact this L fun x hx e => he ⟨x, hx, by rw [ht]; exact e⟩
      omega
  have oth : ∀ r, r ≠ s → pot cy tr r P = pot cy tr r L := fun r hr => T.o1 r (by rw [ht]; exact hr)
  constructor
  · intro hs
    refine ⟨⟨by have := h.s0; omega, hs⟩, fun r h0 h1 => ?_⟩
    by_cases e : r = s
    · subst e
      rw [if_pos (by omega)]
      exact key
    · rw [oth r e]
      have := h.p r h0 h1
      by_cases h2 : r < s
      · rw [if_pos h2] at this
        rw [if_pos (by omega)]
        exact this
      · rw [if_neg h2] at this
        rw [if_neg (by omega)]
        exact this
  · intro hs
    refine ⟨⟨by omega, by omega⟩, fun r h0 h1 => ?_⟩
    rw [if_neg (by omega)]
    by_cases e : r = s
    · subst e
      have := key
      omega
    · rw [oth r e]
      have := h.p r h0 h1
      rw [if_pos (by omega)] at this
      omega
theorem Pt.end' {cy tr Bd q : Int} {L : List Pg} (h : Pt cy tr Bd L q 0) (hq : Bd ≤ q) (hv : VL tr L) (hc : 1 ≤ cy) : L = [] := by
  cases L with
  | nil => rfl
  | cons y l =>
    exfalso
    have h1 := pot_pos (cy := cy) (y := y) (fun x hx => (hv.b x hx).2.2.2.2.2) (List.mem_cons_self ..)
    have h2 := h.p (y.1 % cy) (Int.emod_nonneg _ (by omega)) (Int.emod_lt_of_pos _ (by omega))
    rw [if_neg (by have := Int.emod_nonneg y.1 (show cy ≠ 0 by omega); omega)] at h2
    omega
theorem emod_of {cy q s t : Int} (h : t = cy * q + s) (h0 : 0 ≤ s ∧ s < cy) : t % cy = s := by
  rw [h, Int.add_comm, Int.add_mul_emod_self_left]
  exact Int.emod_eq_of_lt h0.1 h0.2
/-- At the last tick. -/
theorem last_tick {cy q s K : Int} (h : cy * K = cy * q + s) (h0 : 0 ≤ s ∧ s < cy) : s = 0 ∧ q = K := by
  have h1 : (cy * K) % cy = s := emod_of h h0
  rw [Int.mul_emod_right] at h1
  have hs : s = 0 := h1.symm
  refine ⟨hs, ?_⟩
  rw [hs, Int.add_zero] at h
  exact (Int.eq_of_mul_eq_mul_left (by omega) h).symm
end Go.Proofs.Ytobmnajgbhgdlaa
