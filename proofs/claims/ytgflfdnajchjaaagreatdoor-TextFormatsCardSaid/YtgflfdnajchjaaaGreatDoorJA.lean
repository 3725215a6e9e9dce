import Derived.Lib.SplitLaws
import Derived.Lib.AtoiAll
import Derived.Lib.ItoaLen
import Derived.Lib.JoinLaws
import Derived.Lib.Replace
/- Layer 45: words, numbers and lines of a text, in plain Lean. Nothing of the program is named here. -/
namespace Go.Proofs.YtgflfdnajchjaaaGreatDoor
set_option linter.unusedVariables false
set_option linter.unusedSimpArgs false
open Go.Lib
/-- The greatest size of a number in a text. -/
def gMax : Int := 1099511627776
def smallI (n : Int) : Prop := -1099511627776 ≤ n ∧ n ≤ 1099511627776

/-! ### Decimal numbers -/
theorem decDigits_small {u : Nat} (h : u < 10) : decDigits u = [UInt8.ofNat (48 + u)] := by rw [decDigits, dif_pos h]
theorem decDigits_big {u : Nat} (h : ¬ u < 10) : decDigits u = decDigits (u / 10) ++ [UInt8.ofNat (48 + u % 10)] := by rw [decDigits, dif_neg h]
theorem digit_nat {d : Nat} (h : d < 10) : (UInt8.ofNat (48 + d)).toNat = 48 + d := by
  rw [UInt8.toNat_ofNat']
  omega
theorem decDigits_ne (u : Nat) : decDigits u ≠ [] := by
  by_cases h : u < 10
  · rw [decDigits_small h]; simp
  · rw [decDigits_big h]; simp
/-- Each byte of a numeral is a digit. -/
theorem decDigits_digit : ∀ (n u : Nat), u ≤ n → ∀ x ∈ decDigits u, 48 ≤ x.toNat ∧ x.toNat ≤ 57
  | 0, u, h, x, hx => by
    have h0 : u < 10 := by omega
    rw [decDigits_small h0] at hx
    rw [List.mem_singleton.1 hx, digit_nat h0]
    omega
  | n + 1, u, h, x, hx => by
    by_cases h0 : u < 10
    · rw [decDigits_small h0] at hx
      rw [List.mem_singleton.1 hx, digit_nat h0]
      omega
    · rw [decDigits_big h0] at hx
      rcases List.mem_append.1 hx with hx | hx
      · exact decDigits_digit n (u / 10) (by omega) x hx
      · rw [List.mem_singleton.1 hx, digit_nat (by omega)]
        omega
theorem itoa_byte (n : Int) : ∀ x ∈ itoa n, x.toNat = 45 ∨ (48 ≤ x.toNat ∧ x.toNat ≤ 57) := fun x hx => by
  unfold itoa at hx
  split at hx
  · rcases List.mem_cons.1 hx with rfl | hx
    · exact .inl rfl
    · exact .inr (decDigits_digit _ _ (Nat.le_refl _) x hx)
  · exact .inr (decDigits_digit _ _ (Nat.le_refl _) x hx)
theorem itoa_ne (n : Int) : itoa n ≠ [] := by
  unfold itoa
  split
  · simp
  · exact decDigits_ne _
/-- Reading digits goes on where it stood. -/
theorem parseUint10_append : ∀ (l r : List UInt8) (a v : Nat), parseUint10 a l = .ok v → parseUint10 a (l ++ r) = parseUint10 v r
  | [], r, a, v, h => by
    simp only [parseUint10] at h
    injection h with h
    rw [h]; rfl
  | c :: l, r, a, v, h => by
    simp only [parseUint10, List.cons_append] at h ⊢
    split at h
    · rename_i hc
      rw [if_pos hc]
      split at h
      · cases h
      · rename_i h1
        rw [if_neg h1]
        split at h
        · cases h
        · rename_i h2
          rw [if_neg h2]
          exact parseUint10_append l r _ v h
    · cases h
theorem parseUint10_dec : ∀ (n u : Nat), u ≤ n → u < 9223372036854775808 → parseUint10 0 (decDigits u) = .ok u
  | n, u, h, hu => by
    by_cases h0 : u < 10
    · rw [decDigits_small h0]
      simp only [parseUint10]
      rw [digit_nat h0, if_pos (by omega), if_neg (by omega), if_neg (by omega)]
      congr 1
      omega
    · match n, h with
      | 0, h => omega
      | n + 1, h =>
        have ih := parseUint10_dec n (u / 10) (by omega) (by omega)
        rw [decDigits_big h0, parseUint10_append _ _ _ _ ih]
        simp only [parseUint10]
        rw [digit_nat (by omega), if_pos (by omega), if_neg (by omega), if_neg (by omega)]
        congr 1
        omega
theorem digit_head {u : Nat} {c : UInt8} {r : List UInt8} (h : decDigits u = c :: r) : 48 ≤ c.toNat ∧ c.toNat ≤ 57 :=
  decDigits_digit u u (Nat.le_refl _) c (by rw [h]; simp)
theorem atoiAll_dec (u : Nat) (hu : u < 9223372036854775808) : atoiAll (decDigits u) = .ok u := by
  have hp := parseUint10_dec u u (Nat.le_refl _) hu
  rcases hd : decDigits u with _ | ⟨c, r⟩
  · exact absurd hd (decDigits_ne u)
  · have hc := digit_head hd
    rw [hd] at hp
    unfold atoiAll
    simp only
    rw [if_neg (show ¬ (c.toNat = 43 ∨ c.toNat = 45) by omega)]
    unfold parseMag
    rw [if_neg (by simp), hp]
    simp only
    rw [if_neg (by omega), if_neg (by omega), if_neg (by omega)]
theorem atoiAll_neg (u : Nat) (hu : u < 9223372036854775808) : atoiAll (45 :: decDigits u) = .ok (-(u : Int)) := by
  have hp := parseUint10_dec u u (Nat.le_refl _) hu
  unfold atoiAll
  simp only
  rw [if_pos (show (45 : UInt8).toNat = 43 ∨ (45 : UInt8).toNat = 45 from .inr rfl)]
  unfold parseMag
  rw [if_neg (decDigits_ne u), hp]
  simp only
  rw [if_neg (fun h => h.1 rfl), if_neg (by omega), if_pos (show (45 : UInt8).toNat = 45 from rfl)]
/-- What is written is read back. -/
theorem atoiAll_itoa {n : Int} (h : smallI n) : atoiAll (itoa n) = .ok n := by
  unfold smallI at h
  unfold itoa
  by_cases h0 : n < 0
  · rw [if_pos h0, atoiAll_neg _ (by omega)]
    congr 1
    omega
  · rw [if_neg h0, atoiAll_dec _ (by omega)]
    congr 1
    omega
/-- The program's reading of a word: a number that is written as it is. -/
def rdW (w : List UInt8) : Option Int := match atoiAll w with
  | .ok x => if itoa x = w ∧ -1099511627776 ≤ x ∧ x ≤ 1099511627776 then some x else none
  | _ => none
theorem rdW_some {w : List UInt8} {x : Int} : rdW w = some x ↔ w = itoa x ∧ smallI x := by
  unfold rdW
  constructor
  · intro h
    split at h
    · rename_i y hy
      split at h
      · rename_i hc
        injection h with h
        subst h
        exact ⟨hc.1.symm, hc.2⟩
      · cases h
    · cases h
  · rintro ⟨rfl, hs⟩
    rw [atoiAll_itoa hs]
    exact if_pos ⟨rfl, hs⟩

/-! ### The reference's reading of a word -/
/-- One byte: the sign and the number so far. -/
def refStep (k : Nat) (st : Int × Int) (c : UInt8) : Int × Int :=
  if k = 0 ∧ c.toNat = 45 then (-1, st.2) else if 48 ≤ c.toNat ∧ c.toNat ≤ 57 then (st.1, st.2 * 10 + (c.toNat - 48)) else st
def refFold : Nat → Int × Int → List UInt8 → Int × Int
  | _, st, [] => st
  | k, st, c :: l => if k < 15 then refFold (k + 1) (refStep k st c) l else st
def refW (w : List UInt8) : Int := if -1099511627776 ≤ (refFold 0 (1, 0) w).1 * (refFold 0 (1, 0) w).2 ∧ (refFold 0 (1, 0) w).1 * (refFold 0 (1, 0) w).2 ≤ 1099511627776 then (refFold 0 (1, 0) w).1 * (refFold 0 (1, 0) w).2 else 0
theorem refW_small (w : List UInt8) : smallI (refW w) := by
  unfold refW smallI
  split
  · assumption
  · omega
theorem refFold_append : ∀ (l r : List UInt8) (k : Nat) (st : Int × Int), k + l.length ≤ 15 → refFold k st (l ++ r) = refFold (k + l.length) (refFold k st l) r
  | [], r, k, st, h => rfl
  | c :: l, r, k, st, h => by
    simp only [List.length_cons] at h
    simp only [refFold, List.cons_append, List.length_cons]
    rw [if_pos (by omega), if_pos (by omega), refFold_append l r (k + 1) _ (by omega), show k + 1 + l.length = k + (l.length + 1) by omega]
theorem refFold_dec : ∀ (n u k : Nat) (s : Int), u ≤ n → k + (decDigits u).length ≤ 15 → refFold k (s, 0) (decDigits u) = (s, (u : Int))
  | n, u, k, s, h, hl => by
    by_cases h0 : u < 10
    · rw [decDigits_small h0] at hl ⊢
      simp only [List.length_cons, List.length_nil] at hl
      simp only [refFold]
      rw [if_pos (by omega)]
      unfold refStep
      rw [digit_nat h0, if_neg (by omega), if_pos (by omega)]
      simp only
      congr 1
      omega
    · match n, h with
      | 0, h => omega
      | n + 1, h =>
        rw [decDigits_big h0] at hl ⊢
        rw [List.length_append] at hl
        simp only [List.length_cons, List.length_nil] at hl
        have ih := refFold_dec n (u / 10) k s (by omega) (by omega)
        rw [refFold_append _ _ _ _ (by omega), ih]
        simp only [refFold]
        rw [if_pos (by omega)]
        unfold refStep
        rw [digit_nat (by omega), if_neg (by omega), if_pos (by omega)]
        simp only
        congr 1
        omega
theorem decDigits_len : ∀ (k u : Nat), u < 10 ^ (k + 1) → (decDigits u).length ≤ k + 1
  | 0, u, h => by rw [decDigits_small (by simpa using h)]; simp
  | k + 1, u, h => by
    by_cases h0 : u < 10
    · rw [decDigits_small h0]; simp
    · rw [decDigits_big h0, List.length_append]
      have := decDigits_len k (u / 10) (by rw [Nat.pow_succ] at h; omega)
      simp only [List.length_cons, List.length_nil]
      omega
theorem itoa_len {n : Int} (h : smallI n) : (itoa n).length ≤ 14 := by
  unfold smallI at h
  unfold itoa
  split
  · have := decDigits_len 12 n.natAbs (by omega)
    simp only [List.length_cons]
    omega
  · have := decDigits_len 12 n.toNat (by omega)
    omega
theorem refW_itoa {n : Int} (h : smallI n) : refW (itoa n) = n := by
  have hl := itoa_len h
  have e : (refFold 0 (1, 0) (itoa n)).1 * (refFold 0 (1, 0) (itoa n)).2 = n := by
    unfold smallI at h
    unfold itoa at hl ⊢
    by_cases h0 : n < 0
    · rw [if_pos h0] at hl ⊢
      simp only [List.length_cons] at hl
      simp only [refFold]
      rw [if_pos (by omega)]
      have e1 : refStep 0 (1, 0) 45 = (-1, 0) := rfl
      rw [e1, refFold_dec _ _ _ _ (Nat.le_refl _) (by omega)]
      simp only
      omega
    · rw [if_neg h0] at hl ⊢
      rw [refFold_dec _ _ _ _ (Nat.le_refl _) (by omega)]
      simp only
      omega
  unfold refW
  rw [e]
  unfold smallI at h
  rw [if_pos h]
end Go.Proofs.YtgflfdnajchjaaaGreatDoor
/- Layer 45: texts cut at a byte, and lines of words and numbers, in plain Lean. Nothing of the program is named here. -/
namespace Go.Proofs.YtgflfdnajchjaaaGreatDoor
set_option linter.unusedVariables false
set_option linter.unusedSimpArgs false
open Go.Lib
/-- A text cut at each byte c. -/
def spl (c : UInt8) : List UInt8 → List (List UInt8)
  | [] => [[]]
  | x :: l => if x = c then [] :: spl c l else match spl c l with
    | h :: t => (x :: h) :: t
    | [] => [[x]]
theorem spl_ne (c : UInt8) : ∀ l, spl c l ≠ []
  | [] => by simp [spl]
  | x :: l => by
    unfold spl
    split
    · simp
    · split <;> simp
theorem spl_eq {c : UInt8} {l : List UInt8} : spl c (c :: l) = [] :: spl c l := by
  rw [spl, if_pos rfl]
theorem spl_cons {c x : UInt8} {l h : List UInt8} {t : List (List UInt8)} (hx : x ≠ c) (hl : spl c l = h :: t) : spl c (x :: l) = (x :: h) :: t := by
  rw [spl, if_neg hx, hl]
def joinC (c : UInt8) : List (List UInt8) → List UInt8
  | [] => []
  | [a] => a
  | a :: b :: l => a ++ c :: joinC c (b :: l)
theorem joinC_cons {c : UInt8} {a : List UInt8} {L : List (List UInt8)} (h : L ≠ []) : joinC c (a :: L) = a ++ c :: joinC c L := by
  cases L with
  | nil => exact absurd rfl h
  | cons b l => rfl
theorem join_spl (c : UInt8) : ∀ l, joinC c (spl c l) = l
  | [] => rfl
  | x :: l => by
    have ih := join_spl c l
    by_cases hx : x = c
    · subst hx
      rw [spl_eq, joinC_cons (spl_ne _ _), ih]
      rfl
    · rcases hs : spl c l with _ | ⟨h, t⟩
      · exact absurd hs (spl_ne c l)
      · rw [spl_cons hx hs]
        rw [hs] at ih
        cases t with
        | nil =>
          have : h = l := ih
          rw [this]; rfl
        | cons b t =>
          rw [joinC_cons (by simp)] at ih ⊢
          rw [← ih]; rfl
theorem spl_mem (c : UInt8) : ∀ l, ∀ a ∈ spl c l, c ∉ a
  | [], a, ha => by
    rw [spl] at ha
    rw [List.mem_singleton.1 ha]; simp
  | x :: l, a, ha => by
    by_cases hx : x = c
    · subst hx
      rw [spl_eq] at ha
      rcases List.mem_cons.1 ha with rfl | ha
      · simp
      · exact spl_mem x l a ha
    · rcases hs : spl c l with _ | ⟨h, t⟩
      · exact absurd hs (spl_ne c l)
      · rw [spl_cons hx hs] at ha
        have ih := spl_mem c l
        rw [hs] at ih
        rcases List.mem_cons.1 ha with rfl | ha
        · have := ih h (by simp)
          simp only [List.mem_cons, not_or]
          exact ⟨fun e => hx e.symm, this⟩
        · exact ih a (by simp [ha])
theorem spl_none {c : UInt8} : ∀ {a : List UInt8}, c ∉ a → spl c a = [a]
  | [], _ => rfl
  | x :: a, h => by
    rw [List.mem_cons, not_or] at h
    exact spl_cons (fun e => h.1 e.symm) (spl_none h.2)
theorem spl_app {c : UInt8} : ∀ {a r : List UInt8}, c ∉ a → spl c (a ++ c :: r) = a :: spl c r
  | [], r, _ => spl_eq
  | x :: a, r, h => by
    rw [List.mem_cons, not_or] at h
    exact spl_cons (fun e => h.1 e.symm) (spl_app h.2)
theorem spl_join {c : UInt8} : ∀ {L : List (List UInt8)}, L ≠ [] → (∀ a ∈ L, c ∉ a) → spl c (joinC c L) = L
  | [], h, _ => absurd rfl h
  | [a], _, h => spl_none (h a (by simp))
  | a :: b :: l, _, h => by
    rw [joinC_cons (by simp), spl_app (h a (by simp)), spl_join (by simp) fun x hx => h x (by simp [hx])]
/-- The library's cutting. -/
theorem splitK_spl (c : UInt8) : ∀ s : List UInt8, splitK [c] 0 (count s [c]) s = spl c s
  | [] => rfl
  | x :: l => by
    have ih := splitK_spl c l
    by_cases hx : x = c
    · subst hx
      rw [count_cons_eq, Nat.add_comm, spl_eq]
      have hi : index (x :: l) [x] = 0 := by simp [index]
      rw [splitK, hi, if_neg (by decide)]
      exact congrArg (List.cons []) ih
    · rw [count_cons_ne _ _ _ hx]
      have hp : ([c] : List UInt8).isPrefixOf (x :: l) = false := by
        simp [List.isPrefixOf]
        exact fun e => hx e.symm
      rcases hk : count l [c] with _ | k
      · rw [hk] at ih
        have ih' : [l] = spl c l := ih
        exact (spl_cons hx ih'.symm).symm
      · rw [hk] at ih
        have hpos : 0 < count l [c] := by omega
        obtain ⟨i, hi⟩ := index_of_count hpos
        have hi2 : index (x :: l) [c] = (i : Int) + 1 := by
          rw [index, hp, if_neg (by simp), hi, if_neg (by simp)]
        have e1 : splitK [c] 0 (k + 1) l = l.take i :: splitK [c] 0 k (l.drop (i + 1)) := by
          rw [splitK, hi, if_neg (by simp)]
          rfl
        have e2 : splitK [c] 0 (k + 1) (x :: l) = (x :: l).take (i + 1) :: splitK [c] 0 k ((x :: l).drop (i + 1 + 1)) := by
          rw [splitK, hi2, if_neg (by simp; omega)]
          have : ((i : Int) + 1).toNat = i + 1 := by omega
          rw [this]
          rfl
        rw [e1] at ih
        rw [e2]
        exact (spl_cons hx ih.symm).symm
/-- The word of a line. -/
theorem cut_head (c : UInt8) : ∀ s : List UInt8, (cut s [c]).1 = (spl c s).headD []
  | [] => rfl
  | x :: l => by
    have ih := cut_head c l
    by_cases hx : x = c
    · subst hx
      have hi : index (x :: l) [x] = 0 := by simp [index]
      rw [spl_eq]
      unfold cut
      rw [hi]
      rfl
    · have hp : ([c] : List UInt8).isPrefixOf (x :: l) = false := by
        simp [List.isPrefixOf]
        exact fun e => hx e.symm
      rcases hs : spl c l with _ | ⟨h, t⟩
      · exact absurd hs (spl_ne c l)
      · rw [spl_cons hx hs]
        rw [hs] at ih
        have ih' : (cut l [c]).1 = h := ih
        show (cut (x :: l) [c]).1 = x :: h
        rw [← ih']
        unfold cut
        have hge := index_ge l [c]
        by_cases hm : index l [c] = -1
        · have e : index (x :: l) [c] = -1 := by rw [index, hp, if_neg (by simp), if_pos (by simp [hm])]
          rw [e, hm, if_neg (by decide), if_neg (by decide)]
        · have e : index (x :: l) [c] = index l [c] + 1 := by rw [index, hp, if_neg (by simp), if_neg (by simpa using hm)]
          rw [e, if_pos (by omega), if_pos (by omega)]
          have : (index l [c] + 1).toNat = (index l [c]).toNat + 1 := by omega
          rw [this]
          rfl

/-! ### Lines -/
/-- A line of a word and numbers. -/
def lineS (word : List UInt8) (ns : List Int) : List UInt8 := joinC 32 (word :: ns.map itoa)
theorem itoa_sp (n : Int) : (32 : UInt8) ∉ itoa n := fun h => by
  have := itoa_byte n 32 h
  have e : (32 : UInt8).toNat = 32 := rfl
  omega
theorem lineS_spl {word : List UInt8} (hw : (32 : UInt8) ∉ word) (ns : List Int) : spl 32 (lineS word ns) = word :: ns.map itoa :=
  spl_join (by simp) fun a ha => by
    rcases List.mem_cons.1 ha with rfl | ha
    · exact hw
    · obtain ⟨n, -, rfl⟩ := List.mem_map.1 ha
      exact itoa_sp n
/-- The first k words as numbers, as the program reads them. -/
def rdNs : Nat → List (List UInt8) → Option (List Int)
  | 0, _ => some []
  | _ + 1, [] => none
  | k + 1, w :: l => match rdW w with
    | none => none
    | some x => (rdNs k l).map (x :: ·)
theorem rdNs_some : ∀ {k : Nat} {l : List (List UInt8)} {ns : List Int}, rdNs k l = some ns ↔ ns.length = k ∧ (∀ n ∈ ns, smallI n) ∧ ∃ r, l = ns.map itoa ++ r
  | 0, l, ns => by
    simp only [rdNs]
    constructor
    · intro h
      injection h with h
      subst h
      exact ⟨rfl, by simp, l, rfl⟩
    · rintro ⟨h, -, -⟩
      rw [List.length_eq_zero_iff.1 h]
  | k + 1, [], ns => by
    simp only [rdNs]
    constructor
    · intro h; cases h
    · rintro ⟨h, -, r, hr⟩
      cases ns with
      | nil => cases h
      | cons n ns => simp at hr
  | k + 1, w :: l, ns => by
    simp only [rdNs]
    constructor
    · intro h
      split at h
      · cases h
      · rename_i x hx
        obtain ⟨rfl, hs⟩ := rdW_some.1 hx
        cases hr : rdNs k l with
        | none => rw [hr] at h; cases h
        | some ms =>
          rw [hr] at h
          injection h with h
          subst h
          obtain ⟨h1, h2, r, h3⟩ := rdNs_some.1 hr
          refine ⟨by simp [h1], fun n hn => ?_, r, by simp [h3]⟩
          rcases List.mem_cons.1 hn with rfl | hn
          · exact hs
          · exact h2 n hn
    · rintro ⟨h1, h2, r, h3⟩
      cases ns with
      | nil => cases h1
      | cons n ns =>
        simp only [List.map_cons, List.cons_append, List.cons.injEq] at h3
        rw [rdW_some.2 ⟨h3.1, h2 n (by simp)⟩]
        simp only
        rw [rdNs_some.2 ⟨by simpa using h1, fun m hm => h2 m (by simp [hm]), r, h3.2⟩]
        rfl
/-- What the program reads of a line that has a word: the numbers, and the words behind them. -/
def readS (word : List UInt8) (k : Nat) (s : List UInt8) : Option (List Int × List (List UInt8)) :=
  if (spl 32 s).headD [] = word ∧ k + 1 ≤ (spl 32 s).length then (rdNs k (spl 32 s).tail).map fun ns => (ns, (spl 32 s).drop (k + 1)) else none
theorem readS_some {word : List UInt8} {k : Nat} {s : List UInt8} {ns : List Int} {r : List (List UInt8)} : readS word k s = some (ns, r) ↔ ns.length = k ∧ (∀ n ∈ ns, smallI n) ∧ spl 32 s = word :: (ns.map itoa ++ r) := by
  unfold readS
  rcases hs : spl 32 s with _ | ⟨h, t⟩
  · exact absurd hs (spl_ne 32 s)
  · simp only [List.headD_cons, List.tail_cons, List.length_cons, List.drop_succ_cons]
    constructor
    · intro hh
      split at hh
      · rename_i hc
        cases hr : rdNs k t with
        | none => rw [hr] at hh; cases hh
        | some ms =>
          rw [hr] at hh
          simp only [Option.map_some, Option.some.injEq, Prod.mk.injEq] at hh
          obtain ⟨rfl, rfl⟩ := hh
          obtain ⟨h1, h2, r, rfl⟩ := rdNs_some.1 hr
          refine ⟨h1, h2, ?_⟩
          rw [hc.1, ← h1, List.drop_left' (by simp)]
      · cases hh
    · rintro ⟨h1, h2, h3⟩
      injection h3 with h3 h4
      subst h3 h4
      rw [if_pos ⟨rfl, by simp [h1]⟩, rdNs_some.2 ⟨h1, h2, r, rfl⟩]
      simp only [Option.map_some, Option.some.injEq, Prod.mk.injEq]
      exact ⟨trivial, List.drop_left' (by simp [h1])⟩
/-- The program's reading of a line of numbers alone. -/
theorem whole_iff {word : List UInt8} {k : Nat} {s : List UInt8} {ns : List Int} (hw : (32 : UInt8) ∉ word) : readS word k s = some (ns, []) ↔ ns.length = k ∧ (∀ n ∈ ns, smallI n) ∧ s = lineS word ns := by
  rw [readS_some]
  constructor
  · rintro ⟨h1, h2, h3⟩
    refine ⟨h1, h2, ?_⟩
    rw [List.append_nil] at h3
    rw [← join_spl 32 s, h3]
    rfl
  · rintro ⟨h1, h2, rfl⟩
    exact ⟨h1, h2, by rw [List.append_nil]; exact lineS_spl hw ns⟩
/-- The reference's reading of the numbers of a line. -/
def refNums (s : List UInt8) (k : Nat) : List Int := (List.range k).map fun i => if i + 1 < (spl 32 s).length then refW ((spl 32 s).getD (i + 1) []) else 0
theorem refNums_len (s : List UInt8) (k : Nat) : (refNums s k).length = k := by simp [refNums]
theorem refNums_small (s : List UInt8) (k : Nat) : ∀ n ∈ refNums s k, smallI n := fun n hn => by
  unfold refNums at hn
  obtain ⟨i, -, rfl⟩ := List.mem_map.1 hn
  split
  · exact refW_small _
  · unfold smallI; omega
theorem refNums_of {word : List UInt8} {ns : List Int} {r : List (List UInt8)} {s : List UInt8} (h : spl 32 s = word :: (ns.map itoa ++ r)) (hs : ∀ n ∈ ns, smallI n) : refNums s ns.length = ns := by
  unfold refNums
  rw [h]
  refine List.ext_getElem (by simp) fun i h1 h2 => ?_
  simp only [List.getElem_map, List.getElem_range, List.length_cons, List.length_append, List.length_map]
  rw [if_pos (by omega), List.getD_cons_succ, List.getD_eq_getElem?_getD, List.getElem?_append_left (by simpa using h2)]
  simp only [List.getElem?_map, List.getElem?_eq_getElem h2, Option.map_some, Option.getD_some]
  exact refW_itoa (hs _ (List.getElem_mem h2))
/-- Both read the same lines of numbers alone, and the same numbers. -/
theorem line_both {word : List UInt8} {k : Nat} {s : List UInt8} (hw : (32 : UInt8) ∉ word) : (lineS word (refNums s k) = s ↔ ∃ ns, readS word k s = some (ns, [])) ∧ ∀ ns r, readS word k s = some (ns, r) → refNums s k = ns := by
  constructor
  · constructor
    · intro h
      exact ⟨refNums s k, (whole_iff hw).2 ⟨refNums_len s k, refNums_small s k, h.symm⟩⟩
    · rintro ⟨ns, h⟩
      obtain ⟨h1, h2, h3⟩ := readS_some.1 h
      have := refNums_of h3 h2
      rw [h1] at this
      rw [this]
      exact ((whole_iff hw).1 h).2.2.symm
  · intro ns r h
    obtain ⟨h1, h2, h3⟩ := readS_some.1 h
    have := refNums_of h3 h2
    rw [h1] at this
    exact this
end Go.Proofs.YtgflfdnajchjaaaGreatDoor
/- Layer 45: what a text says, as the program and as the reference read it, in plain Lean. Nothing of the program is named here. -/
namespace Go.Proofs.YtgflfdnajchjaaaGreatDoor
set_option linter.unusedVariables false
set_option linter.unusedSimpArgs false
open Go.Lib
/-! ### Hexadecimal digits -/
def hexD (n : Nat) : UInt8 := if n < 10 then UInt8.ofNat (48 + n) else UInt8.ofNat (87 + n)
def dig (c : UInt8) : Nat := if 48 ≤ c.toNat ∧ c.toNat ≤ 57 then c.toNat - 48 else if 97 ≤ c.toNat ∧ c.toNat ≤ 102 then c.toNat - 87 else 0
def hexS : List UInt8 → List UInt8
  | [] => []
  | c :: l => hexD (c.toNat / 16) :: hexD (c.toNat % 16) :: hexS l
def hexR : List UInt8 → List UInt8
  | a :: b :: l => UInt8.ofNat (dig a * 16 + dig b) :: hexR l
  | _ => []
theorem hexD_ne : ∀ n, n < 16 → hexD n ≠ 32 := by decide
theorem hexS_sp : ∀ l : List UInt8, (32 : UInt8) ∉ hexS l
  | [] => by simp [hexS]
  | c :: l => by
    have h1 := hexD_ne (c.toNat / 16) (by have := c.toNat_lt; omega)
    have h2 := hexD_ne (c.toNat % 16) (by omega)
    have ih := hexS_sp l
    simp only [hexS, List.mem_cons, not_or]
    exact ⟨fun e => h1 e.symm, fun e => h2 e.symm, ih⟩
/-! ### The words -/
def wNetwork : List UInt8 := [110, 101, 116, 119, 111, 114, 107]
def wPatience : List UInt8 := [112, 97, 116, 105, 101, 110, 99, 101]
def wRule : List UInt8 := [114, 117, 108, 101]
def wOuter : List UInt8 := [111, 117, 116, 101, 114]
def wFade : List UInt8 := [102, 97, 100, 101]
def wTerminal : List UInt8 := [116, 101, 114, 109, 105, 110, 97, 108]
def wBearer : List UInt8 := [98, 101, 97, 114, 101, 114]
def wPacket : List UInt8 := [112, 97, 99, 107, 101, 116]
/-! ### A document -/
structure TermS where
  ns : List Int
  bs : List (List Int)
structure DocS where
  h0 : List Int
  h1 : List Int
  h2 : List Int
  h3 : List Int
  fades : List (List Int)
  terms : List TermS
  pkts : List (List Int × List UInt8)
def doc0 : DocS := ⟨List.replicate 9 0, List.replicate 3 0, List.replicate 3 0, List.replicate 2 0, [], [], []⟩
def pktS (p : List Int × List UInt8) : List UInt8 := lineS wPacket p.1 ++ 32 :: hexS p.2
def termS (t : TermS) : List (List UInt8) := lineS wTerminal t.ns :: t.bs.map (lineS wBearer)
/-- The lines of a document. -/
def textS (D : DocS) : List (List UInt8) :=
  [lineS wNetwork D.h0, lineS wPatience D.h1, lineS wRule D.h2, lineS wOuter D.h3] ++ D.fades.map (lineS wFade) ++ D.terms.flatMap termS ++ D.pkts.map pktS
/-- A bearer is put to the last terminal. -/
def putB (D : DocS) (ns : List Int) : DocS := { D with terms := D.terms.dropLast ++ (D.terms.getLast?.map fun t => ⟨t.ns, t.bs ++ [ns]⟩).toList }
/-- Numbers alone. -/
def okW (o : Option (List Int × List (List UInt8))) : Option (List Int) := match o with
  | some (ns, []) => some ns
  | _ => none
theorem okW_some {o : Option (List Int × List (List UInt8))} {ns : List Int} : okW o = some ns ↔ o = some (ns, []) := by
  unfold okW
  constructor
  · intro h
    split at h
    · injection h with h; subst h; rfl
    · cases h
  · rintro rfl; rfl
/-- A packet. -/
def pktW (D : DocS) (o : Option (List Int × List (List UInt8))) : Option (Nat × DocS) := match o with
  | some (ns, [h]) => if hexR h ≠ [] ∧ hexS (hexR h) = h then some (8, { D with pkts := D.pkts ++ [(ns, hexR h)] }) else none
  | _ => none
/-- One line, as the program reads it. The state: 0 to 3: which of the first lines; 4: they are done; 5 to 8: the line before was a fade, a terminal, a bearer, a packet. -/
def stepP (st : Nat) (D : DocS) (s : List UInt8) : Option (Nat × DocS) :=
  if st = 0 then (okW (readS wNetwork 9 s)).map fun ns => (1, { D with h0 := ns })
  else if st = 1 then (okW (readS wPatience 3 s)).map fun ns => (2, { D with h1 := ns })
  else if st = 2 then (okW (readS wRule 3 s)).map fun ns => (3, { D with h2 := ns })
  else if st = 3 then (okW (readS wOuter 2 s)).map fun ns => (4, { D with h3 := ns })
  else if (spl 32 s).headD [] = wFade ∧ st ≤ 5 then (okW (readS wFade 5 s)).map fun ns => (5, { D with fades := D.fades ++ [ns] })
  else if (spl 32 s).headD [] = wTerminal ∧ st ≤ 7 then (okW (readS wTerminal 12 s)).map fun ns => (6, { D with terms := D.terms ++ [⟨ns, []⟩] })
  else if (spl 32 s).headD [] = wBearer ∧ (st = 6 ∨ st = 7) then (okW (readS wBearer 15 s)).map fun ns => (7, putB D ns)
  else if (spl 32 s).headD [] = wPacket then pktW D (readS wPacket 4 s)
  else none
/-- In which part the reference is. -/
def partOf (st : Nat) : Nat := if st ≤ 3 then st else if st ≤ 5 then 4 else if st ≤ 7 then 5 else 6
/-- What the reference has behind a line, and which line of the text has to be the line. -/
def refNew (part : Nat) (D : DocS) (s : List UInt8) : Option (Nat × DocS) :=
  if part = 0 ∧ (spl 32 s).headD [] = wNetwork then some (1, { D with h0 := refNums s 9 })
  else if part = 1 ∧ (spl 32 s).headD [] = wPatience then some (2, { D with h1 := refNums s 3 })
  else if part = 2 ∧ (spl 32 s).headD [] = wRule then some (3, { D with h2 := refNums s 3 })
  else if part = 3 ∧ (spl 32 s).headD [] = wOuter then some (4, { D with h3 := refNums s 2 })
  else if part = 4 ∧ (spl 32 s).headD [] = wFade then some (4, { D with fades := D.fades ++ [refNums s 5] })
  else if (part = 4 ∨ part = 5) ∧ (spl 32 s).headD [] = wTerminal then some (5, { D with terms := D.terms ++ [⟨refNums s 12, []⟩] })
  else if part = 5 ∧ (spl 32 s).headD [] = wBearer then some (5, putB D (refNums s 15))
  else if 4 ≤ part ∧ (spl 32 s).headD [] = wPacket then some (6, { D with pkts := D.pkts ++ [(refNums s 4, hexR ((spl 32 s).getLastD []))] })
  else none
def refOk (word : List UInt8) (part : Nat) (D : DocS) (s : List UInt8) : Bool :=
  if word = wPacket then decide ((textS D).getLastD [] = s ∧ 0 < ((D.pkts.getLastD ([], [])).2).length)
  else if part < 4 then decide ((textS D).getD (part - 1) [] = s)
  else decide ((textS D).getD (max ((textS D).length - 1) 3) [] = s)
def stepR (part : Nat) (D : DocS) (s : List UInt8) : Option (Nat × DocS) :=
  match refNew part D s with
  | none => none
  | some (p, D') => if refOk ((spl 32 s).headD []) p D' s = true then some (p, D') else none
/-- What holds of a document between two lines. -/
def StOk (st : Nat) (D : DocS) : Prop := (st ≤ 4 → D.fades = []) ∧ (st ≤ 5 → D.terms = []) ∧ (st ≤ 7 → D.pkts = []) ∧ (st = 6 ∨ st = 7 → D.terms ≠ []) ∧ st ≤ 8
theorem word_sp : (32 : UInt8) ∉ wNetwork ∧ (32 : UInt8) ∉ wPatience ∧ (32 : UInt8) ∉ wRule ∧ (32 : UInt8) ∉ wOuter ∧ (32 : UInt8) ∉ wFade ∧ (32 : UInt8) ∉ wTerminal ∧ (32 : UInt8) ∉ wBearer ∧ (32 : UInt8) ∉ wPacket := by decide
/-- A line of numbers alone: both read it, or none. -/
theorem whole_cases {w s : List UInt8} (k : Nat) (hw : (32 : UInt8) ∉ w) : (∃ ns, okW (readS w k s) = some ns ∧ (spl 32 s).headD [] = w ∧ refNums s k = ns ∧ lineS w ns = s) ∨ (okW (readS w k s) = none ∧ lineS w (refNums s k) ≠ s) := by
  obtain ⟨h1, h2⟩ := line_both (k := k) (s := s) hw
  cases ho : okW (readS w k s) with
  | some ns =>
    have hr := okW_some.1 ho
    left
    refine ⟨ns, rfl, ?_, h2 _ _ hr, ((whole_iff hw).1 hr).2.2.symm⟩
    rw [(readS_some.1 hr).2.2]
    rfl
  | none =>
    right
    refine ⟨rfl, fun e => ?_⟩
    obtain ⟨ns, hr⟩ := h1.1 e
    rw [okW_some.2 hr] at ho
    cases ho
theorem textS_len (D : DocS) : 4 ≤ (textS D).length := by
  unfold textS
  simp only [List.length_append, List.length_cons, List.length_nil]
  omega
theorem last_at {L A : List (List UInt8)} {x : List UInt8} (h : L = A ++ [x]) (h4 : 4 ≤ L.length) : L.getD (max (L.length - 1) 3) [] = x ∧ L.getLastD [] = x := by
  subst h
  have e : max ((A ++ [x]).length - 1) 3 = A.length := by
    simp only [List.length_append, List.length_cons, List.length_nil] at h4 ⊢
    omega
  rw [e]
  simp
theorem text_fade {D : DocS} {F : List (List Int)} {ns : List Int} (hf : D.fades = F ++ [ns]) (ht : D.terms = []) (hp : D.pkts = []) : ∃ A, textS D = A ++ [lineS wFade ns] := by
  unfold textS
  rw [hf, ht, hp]
  exact ⟨[lineS wNetwork D.h0, lineS wPatience D.h1, lineS wRule D.h2, lineS wOuter D.h3] ++ F.map (lineS wFade), by simp⟩
theorem text_term {D : DocS} {T : List TermS} {t : TermS} (ht : D.terms = T ++ [t]) (hp : D.pkts = []) : ∃ A, textS D = A ++ termS t := by
  unfold textS
  rw [ht, hp]
  exact ⟨[lineS wNetwork D.h0, lineS wPatience D.h1, lineS wRule D.h2, lineS wOuter D.h3] ++ D.fades.map (lineS wFade) ++ T.flatMap termS, by simp⟩
theorem text_pkt {D : DocS} {P : List (List Int × List UInt8)} {p : List Int × List UInt8} (hp : D.pkts = P ++ [p]) : ∃ A, textS D = A ++ [pktS p] := by
  unfold textS
  rw [hp]
  exact ⟨[lineS wNetwork D.h0, lineS wPatience D.h1, lineS wRule D.h2, lineS wOuter D.h3] ++ D.fades.map (lineS wFade) ++ D.terms.flatMap termS ++ P.map pktS, by simp⟩
theorem putB_terms {D : DocS} {T : List TermS} {t : TermS} {ns : List Int} (h : D.terms = T ++ [t]) : (putB D ns).terms = T ++ [⟨t.ns, t.bs ++ [ns]⟩] := by
  unfold putB
  simp only [h]
  simp
theorem snoc_of {α : Type} {l : List α} (h : l ≠ []) : ∃ A x, l = A ++ [x] := ⟨l.dropLast, l.getLast h, (List.dropLast_concat_getLast h).symm⟩
end Go.Proofs.YtgflfdnajchjaaaGreatDoor
/- Layer 45: both read a text in the same way, in plain Lean. Nothing of the program is named here. -/
namespace Go.Proofs.YtgflfdnajchjaaaGreatDoor
set_option linter.unusedVariables false
set_option linter.unusedSimpArgs false
open Go.Lib
def toPart (o : Option (Nat × DocS)) : Option (Nat × DocS) := o.map fun x => (partOf x.1, x.2)
theorem words_ne : wPacket ≠ wNetwork ∧ wPacket ≠ wPatience ∧ wPacket ≠ wRule ∧ wPacket ≠ wOuter ∧ wPacket ≠ wFade ∧ wPacket ≠ wTerminal ∧ wPacket ≠ wBearer ∧ wFade ≠ wTerminal ∧ wFade ≠ wBearer ∧ wTerminal ≠ wBearer := by decide
theorem lastD_concat (A : List (List UInt8)) (x : List UInt8) : (A ++ [x]).getLastD [] = x := by simp
/-- The first lines. -/
theorem step_head {st : Nat} {D : DocS} {s w : List UInt8} {k : Nat} (D' : List Int → DocS) (hw : (32 : UInt8) ∉ w) (hp : w ≠ wPacket)
    (hP : stepP st D s = (okW (readS w k s)).map fun ns => (st + 1, D' ns))
    (hst : st < 4)
    (hN : refNew st D s = if (spl 32 s).headD [] = w then some (st + 1, D' (refNums s k)) else none)
    (hL : ∀ ns, (textS (D' ns)).getD st [] = lineS w ns)
    (hM : st = 3 → ∀ ns, (textS (D' ns)).getD (max ((textS (D' ns)).length - 1) 3) [] = lineS w ns) : toPart (stepP st D s) = stepR (partOf st) D s := by
  have hpt : partOf st = st := if_pos (by omega)
  have hpt1 : partOf (st + 1) = st + 1 := by
    unfold partOf
    by_cases h3 : st + 1 ≤ 3
    · rw [if_pos h3]
    · rw [if_neg h3, if_pos (by omega)]; omega
  have hok : ∀ ns, refOk w (st + 1) (D' ns) s = decide (lineS w ns = s) := fun ns => by
    unfold refOk
    rw [if_neg hp]
    by_cases h4 : st + 1 < 4
    · rw [if_pos h4, show st + 1 - 1 = st by omega, hL]
    · rw [if_neg h4, hM (by omega)]
  unfold stepR
  rw [hP, hpt, hN]
  rcases whole_cases (s := s) k hw with ⟨ns, h1, h2, h3, h4⟩ | ⟨h1, h2⟩
  · rw [h1, if_pos h2]
    simp only [Option.map_some, toPart]
    rw [h2, h3, hok, decide_eq_true h4, if_pos rfl, hpt1]
  · rw [h1]
    simp only [Option.map_none, toPart]
    by_cases hh : (spl 32 s).headD [] = w
    · rw [if_pos hh]
      simp only
      rw [hh, hok, decide_eq_false h2, if_neg (by simp)]
    · rw [if_neg hh]
/-- A later line of numbers alone. -/
theorem step_tail {st st' p : Nat} {D : DocS} {s w : List UInt8} {k : Nat} (D' : List Int → DocS) (hw : (32 : UInt8) ∉ w) (hp : w ≠ wPacket)
    (hP : stepP st D s = (okW (readS w k s)).map fun ns => (st', D' ns))
    (hp4 : 4 ≤ p) (hpt : partOf st' = p)
    (hh : (spl 32 s).headD [] = w)
    (hN : refNew (partOf st) D s = some (p, D' (refNums s k)))
    (hM : ∀ ns, ∃ A, textS (D' ns) = A ++ [lineS w ns]) : toPart (stepP st D s) = stepR (partOf st) D s := by
  have hok : ∀ ns, refOk w p (D' ns) s = decide (lineS w ns = s) := fun ns => by
    unfold refOk
    obtain ⟨A, hA⟩ := hM ns
    rw [if_neg hp, if_neg (by omega), (last_at hA (textS_len _)).1]
  unfold stepR
  rw [hP, hN, hh]
  simp only
  rcases whole_cases (s := s) k hw with ⟨ns, h1, h2, h3, h4⟩ | ⟨h1, h2⟩
  · rw [h1, h3, hok, decide_eq_true h4, if_pos rfl]
    simp only [Option.map_some, toPart, hpt]
  · rw [h1, hok, decide_eq_false h2, if_neg (by simp)]
    rfl
theorem step_pkt {st : Nat} {D : DocS} {s : List UInt8} (hh : (spl 32 s).headD [] = wPacket) (h4 : 4 ≤ st) : toPart (stepP st D s) = stepR (partOf st) D s := by
  have hw := word_sp.2.2.2.2.2.2.2
  have hP : stepP st D s = pktW D (readS wPacket 4 s) := by
    unfold stepP
    rw [if_neg (by omega), if_neg (by omega), if_neg (by omega), if_neg (by omega), if_neg (fun h => words_ne.2.2.2.2.1 (hh.symm.trans h.1)), if_neg (fun h => words_ne.2.2.2.2.2.1 (hh.symm.trans h.1)), if_neg (fun h => words_ne.2.2.2.2.2.2.1 (hh.symm.trans h.1)), if_pos hh]
  have hp4 : 4 ≤ partOf st := by
    unfold partOf
    split
    · omega
    · split
      · omega
      · split <;> omega
  have hN : refNew (partOf st) D s = some (6, { D with pkts := D.pkts ++ [(refNums s 4, hexR ((spl 32 s).getLastD []))] }) := by
    unfold refNew
    rw [if_neg (by omega), if_neg (by omega), if_neg (by omega), if_neg (by omega), if_neg (fun h => words_ne.2.2.2.2.1 (hh.symm.trans h.2)), if_neg (fun h => words_ne.2.2.2.2.2.1 (hh.symm.trans h.2)), if_neg (fun h => words_ne.2.2.2.2.2.2.1 (hh.symm.trans h.2)), if_pos ⟨hp4, hh⟩]
  have hok : ∀ ns d, refOk wPacket 6 { D with pkts := D.pkts ++ [(ns, d)] } s = decide (pktS (ns, d) = s ∧ 0 < d.length) := fun ns d => by
    unfold refOk
    obtain ⟨A, hA⟩ := text_pkt (D := { D with pkts := D.pkts ++ [(ns, d)] }) rfl
    rw [if_pos rfl, (last_at hA (textS_len _)).2]
    simp
  have hpk : ∀ ns d, spl 32 (pktS (ns, d)) = wPacket :: (ns.map itoa ++ [hexS d]) := fun ns d => by
    have e : pktS (ns, d) = joinC 32 (wPacket :: ns.map itoa ++ [hexS d]) := by
      have hj : ∀ (L : List (List UInt8)) (x : List UInt8), L ≠ [] → joinC 32 (L ++ [x]) = joinC 32 L ++ 32 :: x := fun L x hL => by
        induction L with
        | nil => exact absurd rfl hL
        | cons a L ih =>
          cases L with
          | nil => rfl
          | cons b L =>
            rw [List.cons_append, joinC_cons (by simp), joinC_cons (by simp), ih (by simp)]
            simp
      rw [hj _ _ (by simp)]
      rfl
    rw [e]
    exact spl_join (by simp) fun a ha => by
      rcases List.mem_append.1 ha with ha | ha
      · rcases List.mem_cons.1 ha with rfl | ha
        · exact hw
        · obtain ⟨n, -, rfl⟩ := List.mem_map.1 ha
          exact itoa_sp n
      · rw [List.mem_singleton.1 ha]
        exact hexS_sp d
  have hj2 : ∀ (ns : List Int) (h : List UInt8), spl 32 s = wPacket :: (ns.map itoa ++ [h]) → hexS (hexR h) = h → pktS (ns, hexR h) = s := fun ns h e1 e2 => by
    have e3 := hpk ns (hexR h)
    rw [e2] at e3
    rw [← join_spl 32 s, e1, ← e3, join_spl]
  unfold stepR
  rw [hN, hh]
  simp only
  rw [hok]
  cases hr : readS wPacket 4 s with
  | none =>
    rw [hr] at hP
    rw [hP, show pktW D none = none from rfl]
    rw [if_neg]
    · rfl
    · intro h
      obtain ⟨h1, h2⟩ := of_decide_eq_true h
      have hs := hpk (refNums s 4) (hexR ((spl 32 s).getLastD []))
      rw [h1] at hs
      have := (readS_some (word := wPacket) (k := 4) (s := s)).2 ⟨refNums_len s 4, refNums_small s 4, hs⟩
      rw [hr] at this
      cases this
  | some x =>
    obtain ⟨ns, r⟩ := x
    obtain ⟨g1, g2, g3⟩ := readS_some.1 hr
    have hn : refNums s 4 = ns := by have := refNums_of g3 g2; rw [g1] at this; exact this
    rw [hr] at hP
    rw [hn]
    match r, hP, g3 with
    | [], hP, g3 =>
      rw [hP, show pktW D (some (ns, [])) = none from rfl, if_neg]
      · rfl
      · intro h
        obtain ⟨h1, h2⟩ := of_decide_eq_true h
        have hs := hpk ns (hexR ((spl 32 s).getLastD []))
        rw [h1, g3] at hs
        have := congrArg List.length hs
        simp at this
    | [h], hP, g3 =>
      have hl : (spl 32 s).getLastD [] = h := by rw [g3]; exact lastD_concat (wPacket :: ns.map itoa) h
      rw [hl, hP, show pktW D (some (ns, [h])) = if hexR h ≠ [] ∧ hexS (hexR h) = h then some (8, { D with pkts := D.pkts ++ [(ns, hexR h)] }) else none from rfl]
      by_cases hc : hexR h ≠ [] ∧ hexS (hexR h) = h
      · rw [if_pos hc, if_pos (decide_eq_true ⟨hj2 ns h g3 hc.2, List.length_pos_iff.2 hc.1⟩)]
        rfl
      · rw [if_neg hc, if_neg]
        · rfl
        · intro hd
          obtain ⟨h1, h2⟩ := of_decide_eq_true hd
          have hs := hpk ns (hexR h)
          rw [h1, g3] at hs
          refine hc ⟨List.length_pos_iff.1 h2, ?_⟩
          have h5 : ((wPacket :: ns.map itoa) ++ [h]).getLastD [] = ((wPacket :: ns.map itoa) ++ [hexS (hexR h)]).getLastD [] := congrArg (fun L : List (List UInt8) => L.getLastD []) hs
          rw [lastD_concat, lastD_concat] at h5
          exact h5.symm
    | a :: b :: r, hP, g3 =>
      rw [hP, show pktW D (some (ns, a :: b :: r)) = none from rfl, if_neg]
      · rfl
      · intro h
        obtain ⟨h1, h2⟩ := of_decide_eq_true h
        have hs := hpk ns (hexR ((spl 32 s).getLastD []))
        rw [h1, g3] at hs
        have := congrArg List.length hs
        simp at this
theorem partOf_mid {st : Nat} (h : ¬ st < 4) : (st ≤ 5 ∧ partOf st = 4) ∨ (5 < st ∧ st ≤ 7 ∧ partOf st = 5) ∨ (7 < st ∧ partOf st = 6) := by
  unfold partOf
  rw [if_neg (by omega)]
  by_cases h5 : st ≤ 5
  · rw [if_pos h5]; omega
  · rw [if_neg h5]
    by_cases h7 : st ≤ 7
    · rw [if_pos h7]; omega
    · rw [if_neg h7]; omega
theorem head_cases (s : List UInt8) (st : Nat) (D : DocS) (h : StOk st D) : toPart (stepP st D s) = stepR (partOf st) D s := by
  obtain ⟨f1, f2, f3, f4, f5⟩ := h
  obtain ⟨s0, s1, s2, s3, s4, s5, s6, s7⟩ := word_sp
  have W := words_ne
  by_cases hst : st < 4
  · rcases (show st = 0 ∨ st = 1 ∨ st = 2 ∨ st = 3 by omega) with rfl | rfl | rfl | rfl
    · refine step_head (w := wNetwork) (k := 9) (fun ns => { D with h0 := ns }) s0 (Ne.symm W.1) rfl (by omega) ?_ (fun ns => rfl) (fun h => by omega)
      unfold refNew
      by_cases hh : (spl 32 s).headD [] = wNetwork
      · rw [if_pos ⟨rfl, hh⟩, if_pos hh]
      · rw [if_neg (fun h => hh h.2), if_neg (by omega), if_neg (by omega), if_neg (by omega), if_neg (by omega), if_neg (by omega), if_neg (by omega), if_neg (by omega), if_neg hh]
    · refine step_head (w := wPatience) (k := 3) (fun ns => { D with h1 := ns }) s1 (Ne.symm W.2.1) rfl (by omega) ?_ (fun ns => rfl) (fun h => by omega)
      unfold refNew
      by_cases hh : (spl 32 s).headD [] = wPatience
      · rw [if_neg (by omega), if_pos ⟨rfl, hh⟩, if_pos hh]
      · rw [if_neg (by omega), if_neg (fun h => hh h.2), if_neg (by omega), if_neg (by omega), if_neg (by omega), if_neg (by omega), if_neg (by omega), if_neg (by omega), if_neg hh]
    · refine step_head (w := wRule) (k := 3) (fun ns => { D with h2 := ns }) s2 (Ne.symm W.2.2.1) rfl (by omega) ?_ (fun ns => rfl) (fun h => by omega)
      unfold refNew
      by_cases hh : (spl 32 s).headD [] = wRule
      · rw [if_neg (by omega), if_neg (by omega), if_pos ⟨rfl, hh⟩, if_pos hh]
      · rw [if_neg (by omega), if_neg (by omega), if_neg (fun h => hh h.2), if_neg (by omega), if_neg (by omega), if_neg (by omega), if_neg (by omega), if_neg (by omega), if_neg hh]
    · refine step_head (w := wOuter) (k := 2) (fun ns => { D with h3 := ns }) s3 (Ne.symm W.2.2.2.1) rfl (by omega) ?_ (fun ns => rfl) (fun _ ns => ?_)
      · unfold refNew
        by_cases hh : (spl 32 s).headD [] = wOuter
        · rw [if_neg (by omega), if_neg (by omega), if_neg (by omega), if_pos ⟨rfl, hh⟩, if_pos hh]
        · rw [if_neg (by omega), if_neg (by omega), if_neg (by omega), if_neg (fun h => hh h.2), if_neg (by omega), if_neg (by omega), if_neg (by omega), if_neg (by omega), if_neg hh]
      · unfold textS
        rw [show ({ D with h3 := ns } : DocS).fades = [] from f1 (by omega), show ({ D with h3 := ns } : DocS).terms = [] from f2 (by omega), show ({ D with h3 := ns } : DocS).pkts = [] from f3 (by omega)]
        rfl
  · by_cases hpk : (spl 32 s).headD [] = wPacket
    · exact step_pkt hpk (by omega)
    · by_cases hfd : (spl 32 s).headD [] = wFade
      · by_cases h5 : st ≤ 5
        · have hpt : partOf st = 4 := by have := partOf_mid hst; omega
          refine step_tail (w := wFade) (k := 5) (st' := 5) (p := 4) (fun ns => { D with fades := D.fades ++ [ns] }) s4 (Ne.symm W.2.2.2.2.1) ?_ (by omega) rfl hfd ?_ (fun ns => text_fade rfl (f2 h5) (f3 (by omega)))
          · unfold stepP
            rw [if_neg (by omega), if_neg (by omega), if_neg (by omega), if_neg (by omega), if_pos ⟨hfd, h5⟩]
          · unfold refNew
            rw [hpt, if_neg (by omega), if_neg (by omega), if_neg (by omega), if_neg (by omega), if_pos ⟨rfl, hfd⟩]
        · have e1 : stepP st D s = none := by
            unfold stepP
            rw [if_neg (by omega), if_neg (by omega), if_neg (by omega), if_neg (by omega), if_neg (fun h => h5 h.2), if_neg (fun h => W.2.2.2.2.2.2.2.1 (hfd.symm.trans h.1)), if_neg (fun h => W.2.2.2.2.2.2.2.2.1 (hfd.symm.trans h.1)), if_neg hpk]
          have hpt : partOf st = 5 ∨ partOf st = 6 := by have := partOf_mid hst; omega
          have e2 : refNew (partOf st) D s = none := by
            unfold refNew
            rw [if_neg (by omega), if_neg (by omega), if_neg (by omega), if_neg (by omega), if_neg (by omega), if_neg (fun h => W.2.2.2.2.2.2.2.1 (hfd.symm.trans h.2)), if_neg (fun h => W.2.2.2.2.2.2.2.2.1 (hfd.symm.trans h.2)), if_neg (fun h => hpk h.2)]
          unfold stepR
          rw [e1, e2]; rfl
      · by_cases htm : (spl 32 s).headD [] = wTerminal
        · by_cases h7 : st ≤ 7
          · have hpt : partOf st = 4 ∨ partOf st = 5 := by have := partOf_mid hst; omega
            refine step_tail (w := wTerminal) (k := 12) (st' := 6) (p := 5) (fun ns => { D with terms := D.terms ++ [⟨ns, []⟩] }) s5 (Ne.symm W.2.2.2.2.2.1) ?_ (by omega) rfl htm ?_ (fun ns => ?_)
            · unfold stepP
              rw [if_neg (by omega), if_neg (by omega), if_neg (by omega), if_neg (by omega), if_neg (fun h => hfd h.1), if_pos ⟨htm, h7⟩]
            · unfold refNew
              rw [if_neg (by omega), if_neg (by omega), if_neg (by omega), if_neg (by omega), if_neg (fun h => hfd h.2), if_pos ⟨hpt, htm⟩]
            · obtain ⟨A, hA⟩ := text_term (D := { D with terms := D.terms ++ [⟨ns, []⟩] }) rfl (f3 h7)
              exact ⟨A, hA⟩
          · have e1 : stepP st D s = none := by
              unfold stepP
              rw [if_neg (by omega), if_neg (by omega), if_neg (by omega), if_neg (by omega), if_neg (fun h => hfd h.1), if_neg (fun h => h7 h.2), if_neg (fun h => W.2.2.2.2.2.2.2.2.2 (htm.symm.trans h.1)), if_neg hpk]
            have hpt : partOf st = 6 := by have := partOf_mid hst; omega
            have e2 : refNew (partOf st) D s = none := by
              unfold refNew
              rw [hpt, if_neg (by omega), if_neg (by omega), if_neg (by omega), if_neg (by omega), if_neg (by omega), if_neg (by omega), if_neg (by omega), if_neg (fun h => hpk h.2)]
            unfold stepR
            rw [e1, e2]; rfl
        · by_cases hbr : (spl 32 s).headD [] = wBearer
          · by_cases h67 : st = 6 ∨ st = 7
            · have hpt : partOf st = 5 := by have := partOf_mid hst; omega
              obtain ⟨T, t, hT⟩ := snoc_of (f4 h67)
              refine step_tail (w := wBearer) (k := 15) (st' := 7) (p := 5) (fun ns => putB D ns) s6 (Ne.symm W.2.2.2.2.2.2.1) ?_ (by omega) rfl hbr ?_ (fun ns => ?_)
              · unfold stepP
                rw [if_neg (by omega), if_neg (by omega), if_neg (by omega), if_neg (by omega), if_neg (fun h => hfd h.1), if_neg (fun h => htm h.1), if_pos ⟨hbr, h67⟩]
              · unfold refNew
                rw [hpt, if_neg (by omega), if_neg (by omega), if_neg (by omega), if_neg (by omega), if_neg (by omega), if_neg (fun h => htm h.2), if_pos ⟨rfl, hbr⟩]
              · obtain ⟨A, hA⟩ := text_term (D := putB D ns) (putB_terms hT) (f3 (by omega))
                refine ⟨A ++ lineS wTerminal t.ns :: t.bs.map (lineS wBearer), ?_⟩
                rw [hA]
                unfold termS
                simp
            · have e1 : stepP st D s = none := by
                unfold stepP
                rw [if_neg (by omega), if_neg (by omega), if_neg (by omega), if_neg (by omega), if_neg (fun h => hfd h.1), if_neg (fun h => htm h.1), if_neg (fun h => h67 h.2), if_neg hpk]
              have hpt : partOf st = 4 ∨ partOf st = 6 := by have := partOf_mid hst; omega
              have e2 : refNew (partOf st) D s = none := by
                unfold refNew
                rw [if_neg (by omega), if_neg (by omega), if_neg (by omega), if_neg (by omega), if_neg (fun h => hfd h.2), if_neg (fun h => htm h.2), if_neg (by omega), if_neg (fun h => hpk h.2)]
              unfold stepR
              rw [e1, e2]; rfl
          · have e1 : stepP st D s = none := by
              unfold stepP
              rw [if_neg (by omega), if_neg (by omega), if_neg (by omega), if_neg (by omega), if_neg (fun h => hfd h.1), if_neg (fun h => htm h.1), if_neg (fun h => hbr h.1), if_neg hpk]
            have hpt : 4 ≤ partOf st := by have := partOf_mid hst; omega
            have e2 : refNew (partOf st) D s = none := by
              unfold refNew
              rw [if_neg (by omega), if_neg (by omega), if_neg (by omega), if_neg (by omega), if_neg (fun h => hfd h.2), if_neg (fun h => htm h.2), if_neg (fun h => hbr h.2), if_neg (fun h => hpk h.2)]
            unfold stepR
            rw [e1, e2]; rfl
end Go.Proofs.YtgflfdnajchjaaaGreatDoor
/- Layer 45: a whole text, as the program and as the reference read it: the same, in plain Lean. Nothing of the program is named here. -/
namespace Go.Proofs.YtgflfdnajchjaaaGreatDoor
set_option linter.unusedVariables false
set_option linter.unusedSimpArgs false
open Go.Lib
theorem map_some_elim {α β : Type} {o : Option α} {f : α → β} {b : β} (h : o.map f = some b) : ∃ a, o = some a ∧ f a = b := by
  cases o with
  | none => cases h
  | some a => exact ⟨a, rfl, by simpa using h⟩
/-- What may follow a state. -/
theorem stepP_ok {st st' : Nat} {D D' : DocS} {s : List UInt8} (h : StOk st D) (he : stepP st D s = some (st', D')) : StOk st' D' ∧ (st < 4 → st' = st + 1) ∧ (4 ≤ st → 4 ≤ st') := by
  obtain ⟨f1, f2, f3, f4, f5⟩ := h
  unfold stepP at he
  split at he
  · rename_i e
    obtain ⟨ns, -, hx⟩ := map_some_elim he
    injection hx with h1 h2
    subst h1 h2
    exact ⟨⟨fun _ => f1 (by omega), fun _ => f2 (by omega), fun _ => f3 (by omega), fun h => by omega, by omega⟩, fun _ => by omega, fun _ => by omega⟩
  · split at he
    · obtain ⟨ns, -, hx⟩ := map_some_elim he
      injection hx with h1 h2
      subst h1 h2
      exact ⟨⟨fun _ => f1 (by omega), fun _ => f2 (by omega), fun _ => f3 (by omega), fun h => by omega, by omega⟩, fun _ => by omega, fun _ => by omega⟩
    · split at he
      · obtain ⟨ns, -, hx⟩ := map_some_elim he
        injection hx with h1 h2
        subst h1 h2
        exact ⟨⟨fun _ => f1 (by omega), fun _ => f2 (by omega), fun _ => f3 (by omega), fun h => by omega, by omega⟩, fun _ => by omega, fun _ => by omega⟩
      · split at he
        · obtain ⟨ns, -, hx⟩ := map_some_elim he
          injection hx with h1 h2
          subst h1 h2
          exact ⟨⟨fun _ => f1 (by omega), fun _ => f2 (by omega), fun _ => f3 (by omega), fun h => by omega, by omega⟩, fun _ => by omega, fun _ => by omega⟩
        · split at he
          · rename_i hc
            obtain ⟨ns, -, hx⟩ := map_some_elim he
            injection hx with h1 h2
            subst h1 h2
            exact ⟨⟨fun h => by omega, fun _ => f2 (by omega), fun _ => f3 (by omega), fun h => by omega, by omega⟩, fun _ => by omega, fun _ => by omega⟩
          · split at he
            · rename_i hc
              obtain ⟨ns, -, hx⟩ := map_some_elim he
              injection hx with h1 h2
              subst h1 h2
              exact ⟨⟨fun h => by omega, fun h => by omega, fun _ => f3 (by omega), fun _ => by simp, by omega⟩, fun _ => by omega, fun _ => by omega⟩
            · split at he
              · rename_i hc
                obtain ⟨ns, -, hx⟩ := map_some_elim he
                injection hx with h1 h2
                subst h1 h2
                obtain ⟨T, t, hT⟩ := snoc_of (f4 hc.2)
                exact ⟨⟨fun h => by omega, fun h => by omega, fun _ => f3 (by omega), fun _ => by rw [putB_terms hT]; simp, by omega⟩, fun _ => by omega, fun _ => by omega⟩
              · split at he
                · unfold pktW at he
                  split at he
                  · split at he
                    · injection he with he
                      injection he with h1 h2
                      subst h1 h2
                      exact ⟨⟨fun h => by omega, fun h => by omega, fun h => by omega, fun h => by omega, by omega⟩, fun _ => by omega, fun _ => by omega⟩
                    · cases he
                  · cases he
                · cases he
theorem stOk0 : StOk 0 doc0 := ⟨fun _ => rfl, fun _ => rfl, fun _ => rfl, fun h => by omega, by omega⟩
/-- How reading lines ends: at the number of a wrong line, or with a state and a document. -/
inductive RunS where
  | bad (line : Nat)
  | good (st : Nat) (D : DocS)
def runP : Nat → Nat → DocS → List (List UInt8) → RunS
  | _, st, D, [] => .good st D
  | i, st, D, s :: l => match stepP st D s with
    | none => .bad (i + 1)
    | some (st', D') => runP (i + 1) st' D' l
def runR : Nat → Nat → DocS → List (List UInt8) → RunS
  | _, p, D, [] => .good p D
  | i, p, D, s :: l => match stepR p D s with
    | none => .bad (i + 1)
    | some (p', D') => runR (i + 1) p' D' l
def RunS.part : RunS → RunS
  | .bad k => .bad k
  | .good st D => .good (partOf st) D
theorem run_both : ∀ (l : List (List UInt8)) (i st : Nat) (D : DocS), StOk st D → (runP i st D l).part = runR i (partOf st) D l
  | [], _, _, _, _ => rfl
  | s :: l, i, st, D, h => by
    have e := head_cases s st D h
    unfold runP runR
    rw [← e]
    cases hs : stepP st D s with
    | none => rfl
    | some x =>
      obtain ⟨st', D'⟩ := x
      exact run_both l (i + 1) st' D' (stepP_ok h hs).1
theorem run_st : ∀ (l : List (List UInt8)) (i st : Nat) (D : DocS), StOk st D → (st < 4 → st = i) → (4 ≤ i → 4 ≤ st) → (i < 4 → st < 4) → ∀ st' D', runP i st D l = .good st' D' → StOk st' D' ∧ (st' < 4 → st' = i + l.length) ∧ (4 ≤ i + l.length → 4 ≤ st') ∧ (i + l.length < 4 → st' < 4)
  | [], i, st, D, h, h1, h2, h3, st', D', he => by
    injection he with e1 e2
    subst e1 e2
    exact ⟨h, h1, h2, h3⟩
  | s :: l, i, st, D, h, h1, h2, h3, st', D', he => by
    unfold runP at he
    cases hs : stepP st D s with
    | none => rw [hs] at he; cases he
    | some x =>
      obtain ⟨st2, D2⟩ := x
      rw [hs] at he
      obtain ⟨g1, g2, g3⟩ := stepP_ok h hs
      have := run_st l (i + 1) st2 D2 g1 (fun h4 => by
        by_cases h5 : st < 4
        · have := g2 h5; have := h1 h5; omega
        · have := g3 (by omega); omega) (fun h4 => by
        by_cases h5 : st < 4
        · have := g2 h5; have := h1 h5; omega
        · exact g3 (by omega)) (fun h4 => by
        have h5 := h3 (by omega)
        have := g2 h5; have := h1 h5; omega) st' D' he
      rw [List.length_cons]
      refine ⟨this.1, fun h4 => by have := this.2.1 h4; omega, fun h4 => this.2.2.1 (by omega), fun h4 => this.2.2.2 (by omega)⟩
/-- How a text is read: the line that is told, the error (or what the check of the whole says), and the document where there is no error. -/
def finP (chk : DocS → Int) (txt : Int) (n : Nat) (last : List UInt8) : RunS → Nat × Int × Option DocS
  | .bad k => (k, txt, none)
  | .good st D => if last ≠ [] then (n + 1, txt, none) else if n ≤ 3 then (max n 1, txt, none) else (0, chk D, if chk D = 0 then some D else none)
def finR (chk : DocS → Int) (txt : Int) (n : Nat) (last : List UInt8) : RunS → Nat × Int × Option DocS
  | .bad k => (k, txt, none)
  | .good p D => if last ≠ [] ∨ p < 4 then (if last = [] ∧ 1 < n + 1 then n else n + 1, txt, none) else (0, chk D, if chk D = 0 then some D else none)
def parseP (chk : DocS → Int) (txt : Int) (s : List UInt8) : Nat × Int × Option DocS := finP chk txt ((spl 10 s).length - 1) ((spl 10 s).getLastD []) (runP 0 0 doc0 (spl 10 s).dropLast)
def parseR (chk : DocS → Int) (txt : Int) (s : List UInt8) : Nat × Int × Option DocS := finR chk txt ((spl 10 s).length - 1) ((spl 10 s).getLastD []) (runR 0 0 doc0 (spl 10 s).dropLast)
/-- Both read every text in the same way. -/
theorem parse_both (chk : DocS → Int) (txt : Int) (s : List UInt8) : parseP chk txt s = parseR chk txt s := by
  have e := run_both (spl 10 s).dropLast 0 0 doc0 stOk0
  have h0 : partOf 0 = 0 := rfl
  rw [h0] at e
  unfold parseP parseR
  rw [← e]
  cases hr : runP 0 0 doc0 (spl 10 s).dropLast with
  | bad k => rfl
  | good st D =>
    obtain ⟨g1, g2, g3, g4⟩ := run_st _ 0 0 doc0 stOk0 (fun _ => rfl) (fun h => by omega) (fun h => by omega) st D hr
    rw [List.length_dropLast] at g2 g3 g4
    generalize (spl 10 s).getLastD [] = last
    generalize (spl 10 s).length - 1 = n at *
    show finP chk txt n last (.good st D) = finR chk txt n last (.good (partOf st) D)
    unfold finP finR
    simp only
    have hp : partOf st < 4 ↔ st < 4 := by
      by_cases h4 : st < 4
      · rw [show partOf st = st from if_pos (by omega)]
      · have := partOf_mid h4; omega
    by_cases hl : last = []
    · rw [if_neg (fun h => h hl)]
      by_cases hn : n ≤ 3
      · have hst : st < 4 := g4 (by omega)
        rw [if_pos hn, if_pos (.inr (hp.2 hst))]
        by_cases h1 : 1 < n + 1
        · rw [if_pos ⟨hl, h1⟩, show max n 1 = n by omega]
        · rw [if_neg (fun h => h1 h.2), show max n 1 = n + 1 by omega]
      · have hst : ¬ st < 4 := fun h => by have := g3 (by omega); omega
        rw [if_neg hn, if_neg (show ¬ (last ≠ [] ∨ partOf st < 4) from fun h => by rcases h with h | h; exact h hl; exact hst (hp.1 h))]
    · rw [if_pos hl, if_pos (.inl hl), if_neg (fun h => hl h.1)]
end Go.Proofs.YtgflfdnajchjaaaGreatDoor
/- Layer 45: the numbers of a document that was read are small. -/
namespace Go.Proofs.YtgflfdnajchjaaaGreatDoor
set_option linter.unusedVariables false
set_option linter.unusedSimpArgs false
def SmL (l : List Int) : Prop := ∀ n ∈ l, smallI n
structure DocN (D : DocS) : Prop where
  h0 : SmL D.h0
  h1 : SmL D.h1
  h2 : SmL D.h2
  h3 : SmL D.h3
  f : ∀ l ∈ D.fades, SmL l
  t : ∀ x ∈ D.terms, SmL x.ns ∧ ∀ l ∈ x.bs, SmL l
  p : ∀ x ∈ D.pkts, SmL x.1
theorem small_zero (k : Nat) : SmL (List.replicate k 0) := fun n hn => by
  rw [List.eq_of_mem_replicate hn]
  exact ⟨by decide, by decide⟩
theorem docN0 : DocN doc0 := ⟨small_zero _, small_zero _, small_zero _, small_zero _, fun l h => (by cases h), fun l h => (by cases h), fun l h => (by cases h)⟩
theorem okW_small {k : Nat} {w s : List UInt8} {ns : List Int} (h : okW (readS w k s) = some ns) : SmL ns := (readS_some.1 (okW_some.1 h)).2.1
theorem stepP_small {st st' : Nat} {D D' : DocS} {s : List UInt8} (H : DocN D) (he : stepP st D s = some (st', D')) : DocN D' := by
  unfold stepP at he
  split at he
  · obtain ⟨ns, ho, hx⟩ := map_some_elim he
    injection hx with h1 h2
    subst h1 h2
    exact { H with h0 := okW_small ho }
  · split at he
    · obtain ⟨ns, ho, hx⟩ := map_some_elim he
      injection hx with h1 h2
      subst h1 h2
      exact { H with h1 := okW_small ho }
    · split at he
      · obtain ⟨ns, ho, hx⟩ := map_some_elim he
        injection hx with h1 h2
        subst h1 h2
        exact { H with h2 := okW_small ho }
      · split at he
        · obtain ⟨ns, ho, hx⟩ := map_some_elim he
          injection hx with h1 h2
          subst h1 h2
          exact { H with h3 := okW_small ho }
        · split at he
          · obtain ⟨ns, ho, hx⟩ := map_some_elim he
            injection hx with h1 h2
            subst h1 h2
            refine { H with f := fun l hl => ?_ }
            rcases List.mem_append.1 hl with hl | hl
            · exact H.f l hl
            · rw [List.mem_singleton.1 hl]; exact okW_small ho
          · split at he
            · obtain ⟨ns, ho, hx⟩ := map_some_elim he
              injection hx with h1 h2
              subst h1 h2
              refine { H with t := fun l hl => ?_ }
              rcases List.mem_append.1 hl with hl | hl
              · exact H.t l hl
              · rw [List.mem_singleton.1 hl]; exact ⟨okW_small ho, fun l h => by cases h⟩
            · split at he
              · obtain ⟨ns, ho, hx⟩ := map_some_elim he
                injection hx with h1 h2
                subst h1 h2
                refine { H with t := fun l hl => ?_ }
                rcases List.mem_append.1 hl with hl | hl
                · exact H.t l (List.dropLast_subset _ hl)
                · cases hg : D.terms.getLast? with
                  | none => rw [hg] at hl; cases hl
                  | some t =>
                    rw [hg] at hl
                    have ht := List.mem_of_getLast? hg
                    rw [List.mem_singleton.1 hl]
                    refine ⟨(H.t t ht).1, fun l2 h2 => ?_⟩
                    rcases List.mem_append.1 h2 with h2 | h2
                    · exact (H.t t ht).2 l2 h2
                    · rw [List.mem_singleton.1 h2]; exact okW_small ho
              · split at he
                · unfold pktW at he
                  split at he
                  · rename_i ns h ho
                    split at he
                    · injection he with he
                      injection he with h1 h2
                      subst h1 h2
                      refine { H with p := fun x hx => ?_ }
                      rcases List.mem_append.1 hx with hx | hx
                      · exact H.p x hx
                      · rw [List.mem_singleton.1 hx]; exact (readS_some.1 ho).2.1
                    · cases he
                  · cases he
                · cases he
theorem runP_small : ∀ (l : List (List UInt8)) (i st : Nat) (D : DocS), DocN D → ∀ st' D', runP i st D l = .good st' D' → DocN D'
  | [], i, st, D, H, st', D', h => by
    rw [runP] at h
    injection h with h1 h2
    rw [← h2]; exact H
  | s :: l, i, st, D, H, st', D', h => by
    rw [runP] at h
    split at h
    · cases h
    · rename_i st1 D1 he
      exact runP_small l _ _ _ (stepP_small H he) _ _ h
theorem parseP_small {chk : DocS → Int} {txt : Int} {s : List UInt8} {ln : Nat} {er : Int} {D : DocS} (h : parseP chk txt s = (ln, er, some D)) : DocN D ∧ chk D = 0 ∧ er = 0 ∧ ln = 0 := by
  unfold parseP at h
  cases hr : runP 0 0 doc0 (spl 10 s).dropLast with
  | bad k =>
    rw [hr] at h
    unfold finP at h
    injection h with _ h; injection h with _ h; cases h
  | good st D1 =>
    rw [hr] at h
    have hD := runP_small _ _ _ _ docN0 _ _ hr
    simp only [finP] at h
    split at h
    · injection h with _ h; injection h with _ h; cases h
    · split at h
      · injection h with _ h; injection h with _ h; cases h
      · injection h with h1 h
        injection h with h2 h3
        split at h3
        · rename_i h0
          injection h3 with h3
          subst h3
          exact ⟨hD, h0, by rw [← h2]; exact h0, h1.symm⟩
        · cases h3
end Go.Proofs.YtgflfdnajchjaaaGreatDoor
