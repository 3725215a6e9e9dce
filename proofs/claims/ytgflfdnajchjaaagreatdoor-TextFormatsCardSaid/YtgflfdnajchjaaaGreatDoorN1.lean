/- Layer 45: what a network that dice make says, as a document. -/
import Derived.Test.YtgflfdnajchjaaaGreatDoorM5
import Derived.Test.YtgflfdnajchjaaaGreatDoorM6
import Derived.Test.YtgflfdnajchjaaaGreatDoorKM
namespace Go.Proofs.YtgflfdnajchjaaaGreatDoor
set_option linter.unusedVariables false
set_option linter.unusedSimpArgs false
open Go.RowKit Go.Sort
open Go.Lib (itoa)
open Tm
/-- Traffic in memory, out of rows of one's own. -/
theorem trR_of {w : World} {B n : Nat} {v : Value} {Q : Nat → Tr} (hl : w.ownsRow B 49 5 v n ((List.range (n * 5)).map (trv Q))) (hd : ∀ k, k < n → OwnU w B (.slice (Q k).pa (Q k).pn (Q k).pc) (Q k).by') : ∃ a cc, v = .slice a n cc ∧ n ≤ cc ∧ n ≤ maxLen ∧ TrR w a n Q := by
  obtain ⟨a, cc, b, e, hc, hp, hcell⟩ := own_cellsK hl
  obtain ⟨a', cc', e', h1, h2, -⟩ := own_slice hl
  rw [e] at e'
  injection e' with q1 q2 q3
  refine ⟨a, cc, e, hc, by omega, b, 0, fun h => (hp h).1, fun k hk => ?_⟩
  have g : ∀ i, i < 5 → w.cell? ⟨b, 0 + k * 5 + i, none⟩ = some ((trC (Q k)).getD i undef) := fun i hi => by
    rw [Nat.zero_add, ← trv_at Q k i hi]
    exact hcell _ (by omega)
  have hd := (hd k hk).byAt
  exact ⟨g 0 (by omega), g 1 (by omega), g 2 (by omega), g 3 (by omega), g 4 (by omega), hd.1, hd.2.1, hd.2.2⟩
theorem sm_of {n : Int} (h : -1000000 ≤ n ∧ n ≤ 1000000) : smallI n := ⟨by omega, by omega⟩
theorem sml_of {l : List Int} (h : ∀ n ∈ l, -1000000 ≤ n ∧ n ≤ 1000000) : SmL l := fun n hn => sm_of (h n hn)
theorem docN_net {c : Cf} {X : Nat → Ch.Fd} {T : Nat → Te} {i n : Nat} {Q : Nat → Tr} {tk : Int} (H : CfB c X T i) (hi : i ≤ 3) (htk : tk ≤ 100) (HQ : ∀ k, k < n → TrB tk c.tn (Q k)) : DocN (docOf c X T n Q) := by
  have h := H.h
  have hm := h.b1
  have ht := H.tn
  refine ⟨?_, ?_, ?_, ?_, fun l hl => ?_, fun x hx => ?_, fun x hx => ?_⟩
  · refine sml_of fun n hn => ?_
    have := h.b0; have := h.b2; have := h.b3; have := h.b4; have := h.b5; have := h.b6; have := h.b7; have := h.b8
    simp only [docOf, List.mem_cons, List.not_mem_nil, or_false] at hn
    rcases hn with rfl | rfl | rfl | rfl | rfl | rfl | rfl | rfl | rfl <;> omega
  · refine sml_of fun n hn => ?_
    have := h.b9; have := h.b10; have := h.b11
    simp only [docOf, List.mem_cons, List.not_mem_nil, or_false] at hn
    rcases hn with rfl | rfl | rfl <;> omega
  · refine sml_of fun n hn => ?_
    have := h.b12; have := h.b13; have := h.b14
    simp only [docOf, List.mem_cons, List.not_mem_nil, or_false] at hn
    rcases hn with rfl | rfl | rfl <;> omega
  · refine sml_of fun n hn => ?_
    have := h.b16; have := h.b17
    simp only [docOf, List.mem_cons, List.not_mem_nil, or_false] at hn
    rcases hn with rfl | rfl <;> omega
  · obtain ⟨k, hk, rfl⟩ := List.mem_map.1 hl
    have hk := List.mem_range.1 hk
    obtain ⟨f1, f2, f3, f4, f5, f6, f7, f8, f9, f10⟩ := H.f k hk
    refine sml_of fun n hn => ?_
    simp only [fdL, List.mem_cons, List.not_mem_nil, or_false] at hn
    rcases hn with rfl | rfl | rfl | rfl | rfl <;> omega
  · obtain ⟨k, hk, rfl⟩ := List.mem_map.1 hx
    have hk := List.mem_range.1 hk
    have HT := H.t k hk
    refine ⟨sml_of fun n hn => ?_, fun l hl => ?_⟩
    · have := HT.cl; have := HT.cs; have := HT.bt; have := HT.fr; have := HT.wd; have := HT.bk; have := HT.ry; have := HT.z
      simp only [teS, teL', List.mem_cons, List.not_mem_nil, or_false] at hn
      rcases hn with rfl | rfl | rfl | rfl | rfl | rfl | rfl | rfl | rfl | rfl | rfl | rfl <;> omega
    · obtain ⟨j, hj, rfl⟩ := List.mem_map.1 hl
      have hj := List.mem_range.1 hj
      obtain ⟨mo, hmo, S⟩ := HT.bb.b j hj
      obtain ⟨k1, k2, k3, k4⟩ := HT.bb.k j hj
      have := S.mo; have := S.co; have := S.wi; have := S.bi; have := S.wa; have := S.b; have := S.e; have := S.p; have := S.v; have := S.q; have := S.t
      refine sml_of fun n hn => ?_
      simp only [beL, List.mem_cons, List.not_mem_nil, or_false] at hn
      rcases hn with rfl | rfl | rfl | rfl | rfl | rfl | rfl | rfl | rfl | rfl | rfl | rfl | rfl | rfl | rfl <;> omega
  · obtain ⟨k, hk, rfl⟩ := List.mem_map.1 hx
    have hk := List.mem_range.1 hk
    obtain ⟨q1, q2, q3, q4, q5, q6, q7, q8, q9, q10⟩ := HQ k hk
    refine sml_of fun n hn => ?_
    simp only [trS, List.mem_cons, List.not_mem_nil, or_false] at hn
    rcases hn with rfl | rfl | rfl | rfl <;> omega
theorem docF_net {c : Cf} {X : Nat → Ch.Fd} {T : Nat → Te} {i n : Nat} {Q : Nat → Tr} {tk : Int} (H : CfB c X T i) (hi : 1 ≤ i) (HQ : ∀ k, k < n → TrB tk c.tn (Q k)) : DocF (docOf c X T n Q) := by
  refine ⟨rfl, rfl, rfl, rfl, fun l hl => ?_, fun x hx => ?_, fun x hx => ?_⟩
  · obtain ⟨k, -, rfl⟩ := List.mem_map.1 hl
    rfl
  · obtain ⟨k, -, rfl⟩ := List.mem_map.1 hx
    refine ⟨rfl, fun l hl => ?_⟩
    obtain ⟨j, -, rfl⟩ := List.mem_map.1 hl
    rfl
  · obtain ⟨k, hk, rfl⟩ := List.mem_map.1 hx
    obtain ⟨-, -, -, -, -, -, -, -, h, -⟩ := HQ k (List.mem_range.1 hk)
    refine ⟨rfl, fun e => ?_⟩
    have e' : (Q k).by' = [] := e
    rw [e'] at h
    exact absurd h (by decide)
theorem line_len {w : List UInt8} (hw : w.length ≤ 14) {ns : List Int} (h : SmL ns) : (lineS w ns).length ≤ 15 * (ns.length + 1) := by
  have := joinC_len 32 14 (w :: ns.map itoa) (fun a ha => by
    rcases List.mem_cons.1 ha with rfl | ha
    · exact hw
    · obtain ⟨n, hn, rfl⟩ := List.mem_map.1 ha
      exact itoa_len (h n hn))
  unfold lineS
  simpa using this
theorem szL_map {α : Type} (f : α → List UInt8) (m : Nat) : ∀ L : List α, (∀ x ∈ L, (f x).length ≤ m) → szL (L.map f) ≤ L.length * (m + 1)
  | [], _ => by simp [szL_nil]
  | x :: L, h => by
    have h1 := h x (by simp)
    have h2 := szL_map f m L fun y hy => h y (by simp [hy])
    rw [List.map_cons, szL_cons, List.length_cons, Nat.add_mul]
    omega
theorem szL_flat {α : Type} (f : α → List (List UInt8)) (m : Nat) : ∀ L : List α, (∀ x ∈ L, szL (f x) ≤ m) → szL (L.flatMap f) ≤ L.length * m
  | [], _ => by simp [szL_nil]
  | x :: L, h => by
    have h1 := h x (by simp)
    have h2 := szL_flat f m L fun y hy => h y (by simp [hy])
    rw [List.flatMap_cons, szL_append, List.length_cons, Nat.add_mul]
    omega
/-- The size of a document: so many lines, so long. -/
theorem size_doc {D : DocS} (F : DocF D) (N : DocN D) {a b e m : Nat} (hf : D.fades.length ≤ a) (ht : D.terms.length ≤ b) (hb : ∀ x ∈ D.terms, x.bs.length ≤ 2) (hp : D.pkts.length ≤ e) (hm : ∀ x ∈ D.pkts, x.2.length ≤ m) : szL (textS D) ≤ 400 + a * 91 + b * 700 + e * (77 + 2 * m) := by
  have w8 : wNetwork.length ≤ 14 ∧ wPatience.length ≤ 14 ∧ wRule.length ≤ 14 ∧ wOuter.length ≤ 14 ∧ wFade.length ≤ 14 ∧ wTerminal.length ≤ 14 ∧ wBearer.length ≤ 14 ∧ wPacket.length ≤ 14 := by decide
  obtain ⟨v1, v2, v3, v4, v5, v6, v7, v8⟩ := w8
  have h0 := line_len v1 N.h0
  have h1 := line_len v2 N.h1
  have h2 := line_len v3 N.h2
  have h3 := line_len v4 N.h3
  rw [F.h0] at h0; rw [F.h1] at h1; rw [F.h2] at h2; rw [F.h3] at h3
  have hfs := szL_map (lineS wFade) 90 D.fades fun x hx => by
    have := line_len v5 (N.f x hx)
    rw [F.f x hx] at this
    omega
  have hts := szL_flat termS 700 D.terms fun x hx => by
    have g1 := line_len v6 (N.t x hx).1
    rw [(F.t x hx).1] at g1
    have g2 := szL_map (lineS wBearer) 240 x.bs fun l hl => by
      have := line_len v7 ((N.t x hx).2 l hl)
      rw [(F.t x hx).2 l hl] at this
      omega
    have g3 := Nat.mul_le_mul_right 241 (hb x hx)
    show szL (lineS wTerminal x.ns :: x.bs.map (lineS wBearer)) ≤ 700
    rw [szL_cons]
    omega
  have hps := szL_map pktS (76 + 2 * m) D.pkts fun x hx => by
    have g1 := line_len v8 (N.p x hx)
    rw [(F.p x hx).1] at g1
    have g2 : (pktS x).length = (lineS wPacket x.1).length + (1 + (hexS x.2).length) := by
      show (lineS wPacket x.1 ++ 32 :: hexS x.2).length = _
      rw [List.length_append, List.length_cons]
      omega
    rw [hexS_len] at g2
    have := hm x hx
    omega
  rw [szL_text]
  have k1 := Nat.mul_le_mul_right 91 hf
  have k2 := Nat.mul_le_mul_right 700 ht
  have k3 := Nat.mul_le_mul_right (77 + 2 * m) hp
  have k4 : 76 + 2 * m + 1 = 77 + 2 * m := by omega
  rw [k4] at hps
  omega
theorem size_net {c : Cf} {X : Nat → Ch.Fd} {T : Nat → Te} {i n : Nat} {Q : Nat → Tr} {tk : Int} (H : CfB c X T i) (hi : 1 ≤ i ∧ i ≤ 3) (htk : tk ≤ 100) (hn : n ≤ 20) (HQ : ∀ k, k < n → TrB tk c.tn (Q k)) : szL (textS (docOf c X T n Q)) ≤ 100000 := by
  have ht := H.tn
  have hf := H.fn
  have := size_doc (a := 180) (b := 3) (e := 20) (m := 1040) (docF_net H hi.1 HQ) (docN_net H hi.2 htk HQ) (by show ((List.range c.fn).map _).length ≤ 180; simp; omega) (by show ((List.range c.tn).map _).length ≤ 3; simp; omega) (fun x hx => by
    obtain ⟨k, hk, rfl⟩ := List.mem_map.1 hx
    have := (H.t k (List.mem_range.1 hk)).n
    show ((List.range (T k).bn).map _).length ≤ 2
    simp
    omega) (by show ((List.range n).map _).length ≤ 20; simp; omega) (fun x hx => by
    obtain ⟨k, hk, rfl⟩ := List.mem_map.1 hx
    obtain ⟨-, -, -, -, -, -, -, -, -, h⟩ := HQ k (List.mem_range.1 hk)
    exact h)
  omega
end Go.Proofs.YtgflfdnajchjaaaGreatDoor
