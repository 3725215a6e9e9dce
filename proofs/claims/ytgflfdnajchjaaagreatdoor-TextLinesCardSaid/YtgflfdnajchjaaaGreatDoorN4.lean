/- Layer 45: a text of a network without its last line; the number of its lines. Plain. -/
import Derived.Test.YtgflfdnajchjaaaGreatDoorN3
namespace Go.Proofs.YtgflfdnajchjaaaGreatDoor
set_option linter.unusedVariables false
set_option linter.unusedSimpArgs false
open Tm
def sumB (T : Nat → Te) : Nat → Nat
  | 0 => 0
  | k + 1 => sumB T k + (T k).bn
theorem terms_len (T : Nat → Te) : ∀ n, (((List.range n).map fun k => teS (T k)).flatMap termS).length = n + sumB T n
  | 0 => rfl
  | n + 1 => by
    rw [List.range_succ, List.map_append, List.flatMap_append, List.length_append, terms_len T n]
    have : ([teS (T n)].flatMap termS).length = 1 + (T n).bn := by
      simp [termS, teS]
      omega
    simp only [List.map_cons, List.map_nil]
    rw [this]
    have e : sumB T (n + 1) = sumB T n + (T n).bn := rfl
    rw [e]
    omega
theorem text_len (c : Cf) (X : Nat → Ch.Fd) (T : Nat → Te) (n : Nat) (Q : Nat → Tr) : (textS (docOf c X T n Q)).length = 4 + c.fn + c.tn + n + sumB T c.tn := by
  have h := terms_len T c.tn
  have : textS (docOf c X T n Q) = ([lineS wNetwork (docOf c X T n Q).h0, lineS wPatience (docOf c X T n Q).h1, lineS wRule (docOf c X T n Q).h2, lineS wOuter (docOf c X T n Q).h3] ++ (docOf c X T n Q).fades.map (lineS wFade)) ++ (docOf c X T n Q).terms.flatMap termS ++ (docOf c X T n Q).pkts.map pktS := by
    unfold textS
    simp
  rw [this]
  simp only [List.length_append, List.length_map]
  have e1 : (docOf c X T n Q).fades.length = c.fn := by show ((List.range c.fn).map _).length = _; simp
  have e2 : (docOf c X T n Q).pkts.length = n := by show ((List.range n).map _).length = _; simp
  have e3 : ((docOf c X T n Q).terms.flatMap termS).length = c.tn + sumB T c.tn := h
  rw [e1, e2, e3]
  simp
  omega
theorem text_drop (c : Cf) (X : Nat → Ch.Fd) (T : Nat → Te) (m : Nat) (Q : Nat → Tr) : textS (docOf c X T (m + 1) Q) = textS (docOf c X T m Q) ++ [pktS (trS (Q m))] := by
  unfold textS docOf
  simp only [List.range_succ, List.map_append, List.map_cons, List.map_nil, List.append_assoc]
theorem text_bear {D : DocS} {Ts : List TermS} {t : TermS} {bs : List (List Int)} {b : List Int} (hp : D.pkts = []) (ht : D.terms = Ts ++ [t]) (hb : t.bs = bs ++ [b]) : textS D = textS { D with terms := Ts ++ [⟨t.ns, bs⟩] } ++ [lineS wBearer b] := by
  unfold textS
  simp only [hp, ht, List.flatMap_append, List.flatMap_cons, List.flatMap_nil, termS, hb, List.map_append, List.map_cons, List.map_nil, List.append_nil, List.append_assoc, List.cons_append]
/-- A network without packets: its text without the last line is the text of something that is read. -/
theorem drop_bear {c : Cf} {X : Nat → Ch.Fd} {T : Nat → Te} {Q : Nat → Tr} {i : Nat} (H : CfB c X T i) (hi : 1 ≤ i ∧ i ≤ 3) (F : DocF (docOf c X T 0 Q)) (N : DocN (docOf c X T 0 Q)) : ∃ D' l, textS (docOf c X T 0 Q) = textS D' ++ [l] ∧ DocF D' ∧ DocN D' := by
  have ht := H.tn
  obtain ⟨k, hk⟩ : ∃ k, c.tn = k + 1 := ⟨c.tn - 1, by omega⟩
  have hn := (H.t k (by omega)).n
  obtain ⟨j, hj⟩ : ∃ j, (T k).bn = j + 1 := ⟨(T k).bn - 1, by omega⟩
  have e1 : (docOf c X T 0 Q).terms = (List.range k).map (fun k => teS (T k)) ++ [teS (T k)] := by
    show (List.range c.tn).map _ = _
    rw [hk, List.range_succ, List.map_append]
    rfl
  have e2 : (teS (T k)).bs = (List.range j).map (fun j => beL ((T k).be j) ((T k).P j) ((T k).R j) ((T k).M j) ((T k).T j)) ++ [beL ((T k).be j) ((T k).P j) ((T k).R j) ((T k).M j) ((T k).T j)] := by
    show (List.range (T k).bn).map _ = _
    rw [hj, List.range_succ, List.map_append]
    rfl
  refine ⟨_, _, text_bear rfl e1 e2, ?_, ?_⟩
  · refine ⟨F.h0, F.h1, F.h2, F.h3, F.f, fun x hx => ?_, F.p⟩
    rcases List.mem_append.1 hx with hx | hx
    · exact F.t x (by rw [e1]; exact List.mem_append_left _ hx)
    · have h1 := F.t (teS (T k)) (by rw [e1]; exact List.mem_append_right _ (List.mem_singleton.2 rfl))
      rw [List.mem_singleton.1 hx]
      exact ⟨h1.1, fun l hl => h1.2 l (by rw [e2]; exact List.mem_append_left _ hl)⟩
  · refine ⟨N.h0, N.h1, N.h2, N.h3, N.f, fun x hx => ?_, N.p⟩
    rcases List.mem_append.1 hx with hx | hx
    · exact N.t x (by rw [e1]; exact List.mem_append_left _ hx)
    · have h1 := N.t (teS (T k)) (by rw [e1]; exact List.mem_append_right _ (List.mem_singleton.2 rfl))
      rw [List.mem_singleton.1 hx]
      exact ⟨h1.1, fun l hl => h1.2 l (by rw [e2]; exact List.mem_append_left _ hl)⟩
/-- How many line ends there are ahead of a place. -/
def cntP (s : List UInt8) (i : Nat) : Nat := (s.take i).count 10
theorem cnt_yes {s : List UInt8} {i : Nat} (hi : i < s.length) (h : s.getD i 0 = 10) : cntP s (i + 1) = cntP s i + 1 := by
  unfold cntP
  rw [List.take_add_one, List.getElem?_eq_getElem hi, List.count_append]
  rw [List.getD_eq_getElem?_getD, List.getElem?_eq_getElem hi] at h
  have h' : s[i] = 10 := h
  simp [h']
theorem cnt_no {s : List UInt8} {i : Nat} (hi : i < s.length) (h : s.getD i 0 ≠ 10) : cntP s (i + 1) = cntP s i := by
  unfold cntP
  rw [List.take_add_one, List.getElem?_eq_getElem hi, List.count_append]
  rw [List.getD_eq_getElem?_getD, List.getElem?_eq_getElem hi] at h
  have h' : s[i] ≠ 10 := h
  simp [List.count_singleton, h']
theorem cnt_le (s : List UInt8) (i : Nat) : cntP s i ≤ i := by
  unfold cntP
  refine Nat.le_trans (List.count_le_length) ?_
  rw [List.length_take]
  omega
theorem last_le (s : List UInt8) : ∀ i, lastP s i ≤ i
  | 0 => Nat.le_refl _
  | i + 1 => by
    unfold lastP
    split
    · exact Nat.le_refl _
    · exact Nat.le_trans (last_le s i) (Nat.le_succ i)
theorem last_yes {s : List UInt8} {i : Nat} (h : s.getD i 0 = 10) (h2 : i + 1 < s.length) : lastP s (i + 1) = i + 1 := by
  unfold lastP
  rw [if_pos ⟨h, h2⟩]
theorem last_no {s : List UInt8} {i : Nat} (h : ¬ (s.getD i 0 = 10 ∧ i + 1 < s.length)) : lastP s (i + 1) = lastP s i := by
  rw [lastP, if_neg h]
theorem cnt_all {L : List (List UInt8)} (h : ∀ l ∈ L, (10 : UInt8) ∉ l) : cntP (catL L) (catL L).length = L.length := by
  unfold cntP
  rw [List.take_length, cat_count L h]
end Go.Proofs.YtgflfdnajchjaaaGreatDoor
