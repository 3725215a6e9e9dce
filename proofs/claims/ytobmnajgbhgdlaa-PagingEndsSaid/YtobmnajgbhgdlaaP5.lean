/- Layer 36: the reference's Tick. -/
import Derived.Test.YtobmnajgbhgdlaaP4
import Derived.Deep.AppendLies
namespace Go.Proofs.Ytobmnajgbhgdlaa
set_option linter.unusedVariables false
set_option linter.unusedSimpArgs false
open Go.RowKit Go.Sort
attribute [local go_sem] gcell

structure Tr (base : Nat) (wr : World) (p c l : Value) (P : List Pg) (A B : List Int) : Prop where
  rp : OwnP wr base p P
  rc : OwnI wr base c A
  rl : OwnI wr base l B
section
variable {base : Nat} {w0 wr w' : World} {p c l v : Value} {P : List Pg} {A B : List Int}
theorem Tri.tr (T : Tri w0 wr p c l P A B) : Tr w0.heap.size wr p c l P A B := ⟨T.rp, T.rc, T.rl⟩
theorem Tr.set (T : Tr base wr p c l P A B) {z o : Nat} (hz : z < base) (u : Value) : Tr base (wr.setCell ⟨z, o, none⟩ u) p c l P A B :=
  ⟨own_setb T.rp hz u, own_setb T.rc hz u, own_setb T.rl hz u⟩
theorem Tr.rows (T : Tr base wr p c l P A B) : ∃ a1 c1 a2 c2 a3 c3, p = .slice a1 P.length c1 ∧ c = .slice a2 A.length c2 ∧ l = .slice a3 B.length c3 ∧ CapOk P.length c1 ∧ (a1 = none → P.length = 0) ∧ R3 wr a1 P.length (pI P) (pS P) (pC P) ∧ Row wr a2 A.length (nI A) ∧ Row wr a3 B.length (nI B) := by
  obtain ⟨a1, c1, b, rfl, h1', h2, h3⟩ := own_cellsK T.rp
  have h1 : CapOk P.length c1 := ⟨h1', own_cap T.rp⟩
  obtain ⟨a2, c2, rfl, _, h5⟩ := own_row T.rc
  obtain ⟨a3, c3, rfl, _, h7⟩ := own_row T.rl
  refine ⟨a1, c1, a2, c2, a3, c3, rfl, rfl, rfl, h1, fun h => ?_, R3.of_cells h3 fun h0 => (h2 h0).1, h5, h7⟩
  rcases Nat.eq_zero_or_pos P.length with h0 | h0
  · exact h0
  · rw [(h2 h0).1] at h; cases h
theorem far_cell {B o : Nat} {u : Value} (hg : wr.grownBy w' v.ownBlock) (hn : v.ownBlock ≠ some B) (h : wr.cell? ⟨B, o, none⟩ = some u) : w'.cell? ⟨B, o, none⟩ = some u := by
  rw [hg.cell_far ⟨B, o, none⟩ (lt_of_cell h) (Ne.symm hn)]; exact h
theorem far_frozen {B o : Nat} {u : Value} (hg : wr.grownBy w' v.ownBlock) (hn : v.ownBlock ≠ some B) (h : wr.cell? ⟨B, o, none⟩ = some u) (hf : wr.frozen? ⟨B, o, none⟩ = false) : w'.frozen? ⟨B, o, none⟩ = false := by
  rw [hg.frozen_far ⟨B, o, none⟩ (lt_of_cell h) (Ne.symm hn)]; exact hf
theorem own_ne {e s n B : Nat} {xs : List Value} (h : wr.ownsRow base e s v n xs) (hB : wr.heap.size ≤ B) : v.ownBlock ≠ some B := fun e => by have := (h.lt B e).2; omega
theorem own_setn {base e s n z o : Nat} {v : Value} {xs : List Value} (h : wr.ownsRow base e s v n xs) (hz : v.ownBlock ≠ some z) (u : Value) : (wr.setCell ⟨z, o, none⟩ u).ownsRow base e s v n xs :=
  h.kept (row := some z) ⟨rfl, rfl, rfl, by simp, fun k hk hne => by
    have : z ≠ k := fun e => hne (by rw [e])
    simp [World.setCell, Array.getElem?_modify, this]⟩ (.inr hz)
theorem Tri.setn (T : Tri w0 wr p c l P A B) {z o : Nat} (hz : w0.heap.size ≤ z) (h1 : p.ownBlock ≠ some z) (h2 : c.ownBlock ≠ some z) (h3 : l.ownBlock ≠ some z) (u : Value) : Tri w0 (wr.setCell ⟨z, o, none⟩ u) p c l P A B :=
  ⟨own_setn T.rp h1 u, own_setn T.rc h2 u, own_setn T.rl h3 u, T.a1, T.a2, T.a3, T.bel.setCell (p := ⟨z, o, none⟩) hz u⟩
theorem Tr.at' {a1 a2 a3 : Option Addr} {c1 c2 c3 : Nat} (T : Tr base wr (.slice a1 P.length c1) (.slice a2 A.length c2) (.slice a3 B.length c3) P A B) : R3 wr a1 P.length (pI P) (pS P) (pC P) ∧ Row wr a2 A.length (nI A) ∧ Row wr a3 B.length (nI B) := by
  obtain ⟨_, _, _, _, _, _, e1, e2, e3, _, _, h1, h2, h3⟩ := T.rows
  cases e1
  cases e2
  cases e3
  exact ⟨h1, h2, h3⟩
theorem ck_ok {cy mo tr : Int} {n : Nat} {I S C : Nat → Int} (h : ckP cy mo tr n I S C = 0) : (1 ≤ cy ∧ cy ≤ 256 ∧ 1 ≤ mo ∧ mo ≤ 16 ∧ 1 ≤ tr ∧ tr ≤ 32) ∧ n ≤ 16 ∧ ∀ k, k < n → 0 ≤ C k ∧ C k ≤ tr := by
  unfold ckP at h
  split at h
  · cases h
  · rename_i h1
    split at h
    · cases h
    · rename_i h2
      split at h
      · cases h
      · rename_i h3
        have h1' : pok cy mo tr = true := by simpa using h1
        refine ⟨of_decide_eq_true h1', by omega, fun k hk => ?_⟩
        have hb : badP tr I S C k = false := by
          cases hb : badP tr I S C k with
          | false => rfl
          | true => exact absurd (anyB_true hk hb) h3
        unfold badP at hb
        simp at hb
        omega
end

set_option maxRecDepth 100000 in
set_option maxHeartbeats 8000000 in
theorem tick17 (cy mo tr t : Int) (a : Option Addr) (n c : Nat) (I S C : Nat → Int) (w : World) (H : R3 w a n I S C) (hc : n ≤ c) (hn : c ≤ 9223372036854775807) (h0 : a = none → n = 0) :
    Calls Try.prog 17 #[gv cy mo tr a n c, .int .i64 t] w (TickR cy mo tr t n I S C w) := by
  have hb0 : Below w.heap.size w ((w.alloc (.cells #[.int .i64 cy, .int .i64 mo, .int .i64 tr, .slice a n c] 25)).alloc (.cells #[.int .i64 0, .int .i64 0, .int .i64 0, .slice none 0 0] 25)) := ((Below.refl _ _).alloc (Nat.le_refl _) _).alloc (by simp) _
  have K1 := Lib.hid (check26 cy mo tr a n c I S C _ (H.mono hb0) hc hn)
  have HB0 := Lib.hid hb0
  have HR := Lib.hid H
  have H0 := Lib.hid h0
  have hz : ((w.alloc (.cells #[.int .i64 cy, .int .i64 mo, .int .i64 tr, .slice a n c] 25)).alloc (.cells #[.int .i64 0, .int .i64 0, .int .i64 0, .slice none 0 0] 25)).heap.size = w.heap.size + 2 := by simp
  clear H hb0 h0
  unfold gv at *
  go_enter Try.func17, Try.ntmps17
  go_wp2_with fail
  refine K1.out.mono ?_
  rintro e w1 ⟨rfl, hb⟩
  have t0 := up hb (b := w.heap.size) (o := 0) (v := .int .i64 cy) (by simp [go_sem])
  have t1 := up hb (b := w.heap.size) (o := 1) (v := .int .i64 mo) (by simp [go_sem])
  have t2 := up hb (b := w.heap.size) (o := 2) (v := .int .i64 tr) (by simp [go_sem])
  have t3 := up hb (b := w.heap.size) (o := 3) (v := .slice a n c) (by simp [go_sem])
  have tf := upf hb (b := w.heap.size) (o := 3) (by simp <;> omega) (by simp [go_sem])
  have u0 := up hb (b := w.heap.size + 1) (o := 0) (v := .int .i64 0) (by simp [go_sem])
  have u1 := up hb (b := w.heap.size + 1) (o := 1) (v := .int .i64 0) (by simp [go_sem])
  have u2 := up hb (b := w.heap.size + 1) (o := 2) (v := .int .i64 0) (by simp [go_sem])
  have u3 := up hb (b := w.heap.size + 1) (o := 3) (v := .slice none 0 0) (by simp [go_sem])
  have v0 := upf hb (b := w.heap.size + 1) (o := 0) (by simp <;> omega) (by simp [go_sem])
  have v1 := upf hb (b := w.heap.size + 1) (o := 1) (by simp <;> omega) (by simp [go_sem])
  have v2 := upf hb (b := w.heap.size + 1) (o := 2) (by simp <;> omega) (by simp [go_sem])
  have v3 := upf hb (b := w.heap.size + 1) (o := 3) (by simp <;> omega) (by simp [go_sem])
  have hs1 : w.heap.size + 2 ≤ w1.heap.size := by have := hb.size; omega
  have HB1 := Lib.hid (bthen HB0.out hb (by omega))
  clear hb K1 HB0 hz
  have herr : ∀ x, tkE cy mo tr t n I S C = x → x ≠ 0 → ∀ W, Below w.heap.size w W → TickR cy mo tr t n I S C w (.returned (.tuple #[.agg #[.int .i64 cy, .int .i64 mo, .int .i64 tr, .slice a n c], .slice none 0 0, .slice none 0 0, .int .i64 x])) W := fun x hx hx0 W hW =>
    ⟨pl I S C n, [], [], a, none, none, c, 0, 0, by unfold tkO; rw [hx, if_neg hx0], by rw [hx, pl_len]; rfl, by rw [pl_len]; exact ⟨hc, hn⟩, by rw [pl_len]; exact H0.out, by rw [pl_len]; exact (HR.out.mono hW).congr fun k hk => pl_at I S C hk, Row.zero _ _ _, Row.zero _ _ _, hW⟩
  have HERR := Lib.hid herr
  clear herr
  by_cases hck : ckP cy mo tr n I S C = 0
  · by_cases htk : tks t = true
    · have HE := Lib.hid (show tkE cy mo tr t n I S C = 0 by unfold tkE; rw [if_neg (by simp [hck]), if_neg (by simp [htk])])
      have ht := of_decide_eq_true htk
      have HT0 := Lib.hid (Tri.start (w0 := w1) (wr := w1) (Below.refl _ _))
      rw [hck]
      have hok := ck_ok hck
      clear hck htk
      go_upto_region 9 with fail
      go_loopw [9, 10, 11, 12] (fun s9 s10 s11 s12 wr => ∃ i : Nat, s12 = .int .i64 i ∧ i ≤ n ∧ Tri w1 wr s9 s10 s11 (tkL cy mo tr t I S C i).1 (tkL cy mo tr t I S C i).2.1 (tkL cy mo tr t I S C i).2.2) (fun _ _ _ s12 _ => n - (intOf s12).toNat)
      case atStart => exact ⟨0, rfl, Nat.zero_le _, HT0.out⟩
      case round =>
        obtain ⟨i, rfl, hi, hT⟩ := hrel
        have hsr := hT.bel.size
        have s0 := up hT.bel t0
        have s1 := up hT.bel t1
        have s2 := up hT.bel t2
        have s3 := up hT.bel t3
        by_cases hlt : i < n
        · obtain ⟨hP6, hA6, hB6⟩ := tkL_len cy mo tr t I S C i
          have hst : tkL cy mo tr t I S C (i + 1) = tkS cy mo tr t (I i, S i, C i) (tkL cy mo tr t I S C i) := rfl
          obtain ⟨a1, c1, a2, c2, a3, c3, rfl, rfl, rfl, -, -, -, -, -⟩ := hT.rows
          obtain ⟨b, m, h1, h2⟩ := (HR.out.mono (bthen' HB1.out (show Below w1.heap.size w1 wr from hT.bel)))
          obtain rfl := h1 (by omega)
          obtain ⟨p0, p1, p2⟩ := h2 i hlt
          obtain ⟨q1, q2⟩ := hok.2.2 i hlt
          have i1 : (0 : Int) ≤ (i : Int) := by omega
          have i2 : (i : Int) < (n : Int) := by omega
          have i3 : (i : Int) ≤ (c : Int) := by omega
          obtain ⟨⟨-, -, -, -, r1, r2⟩, hs16, -⟩ := hok
          have K2 := Lib.hid fun W => occ27 cy (I i) t W
          have HST := Lib.hid hst
          clear h1 h2 hst
          generalize tkL cy mo tr t I S C i = X at *
          obtain ⟨P, A, B⟩ := X
          dsimp only at *
          have HT := Lib.hid hT
          clear hT
          generalize I i = ik at *
          generalize S i = sk at *
          generalize C i = ck at *
          have hP6 : P.length + 1 ≤ 1000000 := by omega
          have hB6 : B.length + 1 ≤ 1000000 := by omega
          have hA6' : A.length + 1 ≤ 1000000 := by omega
          go_upto_region 12 with fail
          have hbn : Below wr.heap.size wr (wr.alloc (.cells #[.int .i64 ik, .int .i64 sk, .int .i64 ck] 54)) := (Below.refl _ _).alloc (Nat.le_refl _) _
          have e0 : (wr.alloc (.cells #[.int .i64 ik, .int .i64 sk, .int .i64 ck] 54)).cell? ⟨wr.heap.size, 0, none⟩ = some (.int .i64 ik) := by simp [go_sem]
          have e1 : (wr.alloc (.cells #[.int .i64 ik, .int .i64 sk, .int .i64 ck] 54)).cell? ⟨wr.heap.size, 1, none⟩ = some (.int .i64 sk) := by simp [go_sem]
          have e2 : (wr.alloc (.cells #[.int .i64 ik, .int .i64 sk, .int .i64 ck] 54)).cell? ⟨wr.heap.size, 2, none⟩ = some (.int .i64 ck) := by simp [go_sem]
          have ef : (wr.alloc (.cells #[.int .i64 ik, .int .i64 sk, .int .i64 ck] 54)).frozen? ⟨wr.heap.size, 2, none⟩ = false := by simp [go_sem]
          replace s0 := up hbn s0
          replace s1 := up hbn s1
          replace s2 := up hbn s2
          replace s3 := up hbn s3
          have HT2 := Lib.hid (HT.out.mono hbn)
          have n1 := own_ne HT.out.rp (Nat.le_refl _)
          have n2 := own_ne HT.out.rc (Nat.le_refl _)
          have n3 := own_ne HT.out.rl (Nat.le_refl _)
          have hbs : wr.heap.size < (wr.alloc (.cells #[.int .i64 ik, .int .i64 sk, .int .i64 ck] 54)).heap.size := by simp
          have N1 := Lib.hid n1
          have N2 := Lib.hid n2
          have N3 := Lib.hid n3
          clear hbn HT n1 n2 n3 p0 p1 p2 t0 t1 t2 t3
          generalize wr.alloc (.cells #[.int .i64 ik, .int .i64 sk, .int .i64 ck] 54) = w2 at *
          generalize wr.heap.size = Bx at *
          by_cases ho : occ cy ik t = true
          · rw [ho] at K2
            by_cases hc : ck = tr
            · subst hc
              have HX := Lib.hid (show tkL cy mo ck t I S C (i + 1) = (P, A, B ++ [ik]) by rw [HST.out]; unfold tkS; rw [if_pos ho, if_pos rfl])
              go_wp2_with (first | (go_at_call 27; refine (K2.out _).mono ?_; rintro e w3 ⟨rfl, hb3⟩; have d0 := up hb3 e0; have d1 := up hb3 e1; have d2 := up hb3 e2; have df := upf hb3 hbs ef; have hb4 := lt_of_cell d2; have HT3 := Lib.hid (HT2.out.mono hb3); have t0 := up hb3 s0; have t1 := up hb3 s1; have t2 := up hb3 s2; have t3 := up hb3 s3; have hs3 : w1.heap.size ≤ w3.heap.size := HT3.out.bel.size; clear hb3 e0 e1 e2 s0 s1 s2 s3) | (at_builtin; refine wpList_append1_at w3 w1 w1.heap.size rfl (.tmp 55) (.tmp 58) 32 rfl 3 (.int .i64 0) 8 Try.underlying32 intInfo rfl (by decide) _ B.length (iv (nI (B ++ [ik]))) rfl _ rfl (OwnI.put ik HT3.out.rl) HT3.out.bel hs3 (nI_new B ik).symm rfl hB6 ?_; intro v' w5 hown hB5 hs5 hg5 ha5; have HT5 := Lib.hid (HT3.out.pushL hown hB5 hg5 ha5); clear hown hB5 hs5 hg5 ha5))
              go_roundw
              case rel => exact ⟨i + 1, by go_num, by omega, by rw [HX.out]; exact HT5.out⟩
              case measure => simp [intOf]; omega
            · have hc' : (ck == tr) = false := beq_eq_false_iff_ne.2 hc
              by_cases hm : (A.length : Int) < mo
              · have HX := Lib.hid (show tkL cy mo tr t I S C (i + 1) = (P ++ [(ik, sk, ck + 1)], A ++ [ik], B) by rw [HST.out]; unfold tkS; rw [if_pos ho, if_neg hc, if_pos hm])
                go_upto_region 18 with (first | (go_at_call 27; refine (K2.out _).mono ?_; rintro e w3 ⟨rfl, hb3⟩; have d0 := up hb3 e0; have d1 := up hb3 e1; have d2 := up hb3 e2; have df := upf hb3 hbs ef; have hb4 := lt_of_cell d2; have HT3 := Lib.hid (HT2.out.mono hb3); have t0 := up hb3 s0; have t1 := up hb3 s1; have t2 := up hb3 s2; have t3 := up hb3 s3; have hs3 : w1.heap.size ≤ w3.heap.size := HT3.out.bel.size; clear hb3 e0 e1 e2 s0 s1 s2 s3) | (at_builtin; refine wpList_append1_at w3 w1 w1.heap.size rfl (.tmp 69) (.tmp 72) 32 rfl 3 (.int .i64 0) 8 Try.underlying32 intInfo rfl (by decide) _ A.length (iv (nI (A ++ [ik]))) rfl _ rfl (OwnI.put ik HT3.out.rc) HT3.out.bel hs3 (nI_new A ik).symm rfl hA6' ?_; intro v' w4 hown hB4 hs4 hg4 ha4; have f0 := far_cell hg4 N2.out d0; have f1 := far_cell hg4 N2.out d1; have f2 := far_cell hg4 N2.out d2; have ff := far_frozen hg4 N2.out d2 df; have z4 : w1.heap.size ≤ w4.heap.size := hB4.size; have nv : v'.ownBlock ≠ some Bx := (by rcases ha4 with h | h; exact h ▸ N2.out; rw [h]; simp; omega); have HT4 := Lib.hid ((HT3.out.pushC hown hB4 hg4 ha4).setn (o := 2) hsr N1.out nv N3.out (.int .i64 (ck + 1))); clear hown hB4 hs4 hg4 ha4 nv d0 d1 d2 df))
                have k0 : (w4.setCell ⟨Bx, 2, none⟩ (.int .i64 (ck + 1))).cell? ⟨Bx, 0, none⟩ = some (.int .i64 ik) := by rw [cell_set, if_neg (by simp)]; exact f0
                have k1 : (w4.setCell ⟨Bx, 2, none⟩ (.int .i64 (ck + 1))).cell? ⟨Bx, 1, none⟩ = some (.int .i64 sk) := by rw [cell_set, if_neg (by simp)]; exact f1
                have k2 : (w4.setCell ⟨Bx, 2, none⟩ (.int .i64 (ck + 1))).cell? ⟨Bx, 2, none⟩ = some (.int .i64 (ck + 1)) := by rw [cell_set, if_pos rfl, f2]; rfl
                clear f0 f1 f2 ff
                generalize w4.setCell ⟨Bx, 2, none⟩ (.int .i64 (ck + 1)) = w5 at *
                go_wp2_with (at_builtin; refine wpList_append_elem w5 w1 w1.heap.size rfl (.tmp 78) (.tmp 80) 23 rfl 54 pz 3 24 Try.underlying23 pInfo rfl (by decide) (by decide) _ P.length (pgl P) rfl #[.int .i64 ik, .int .i64 sk, .int .i64 (ck + 1)] rfl rfl (one3 _ _ _) (pgl (P ++ [(ik, sk, ck + 1)])) (fun j hj => pgl_keep P _ hj) (fun j hj => pgl_new P ik sk (ck + 1) hj) HT4.out.rp HT4.out.bel HT4.out.bel.size hP6 ?_; intro v' w6 hown hB6' hs6 hg6 ha6; have HT6 := Lib.hid (HT4.out.pushP hown hB6' hg6 ha6); clear hown hB6' hs6 hg6 ha6)
                go_roundw
                case rel => exact ⟨i + 1, by go_num, by omega, by rw [HX.out]; exact HT6.out⟩
                case measure => simp [intOf]; omega
              · have HX := Lib.hid (show tkL cy mo tr t I S C (i + 1) = (P ++ [(ik, sk, ck)], A, B) by rw [HST.out]; unfold tkS; rw [if_pos ho, if_neg hc, if_neg hm])
                go_wp2_with (first | (go_at_call 27; refine (K2.out _).mono ?_; rintro e w3 ⟨rfl, hb3⟩; have d0 := up hb3 e0; have d1 := up hb3 e1; have d2 := up hb3 e2; have df := upf hb3 hbs ef; have hb4 := lt_of_cell d2; have HT3 := Lib.hid (HT2.out.mono hb3); have t0 := up hb3 s0; have t1 := up hb3 s1; have t2 := up hb3 s2; have t3 := up hb3 s3; have hs3 : w1.heap.size ≤ w3.heap.size := HT3.out.bel.size; clear hb3 e0 e1 e2 s0 s1 s2 s3) | (at_builtin; refine wpList_append_elem w3 w1 w1.heap.size rfl (.tmp 78) (.tmp 80) 23 rfl 54 pz 3 24 Try.underlying23 pInfo rfl (by decide) (by decide) _ P.length (pgl P) rfl #[.int .i64 ik, .int .i64 sk, .int .i64 (ck)] rfl rfl (one3 _ _ _) (pgl (P ++ [(ik, sk, ck)])) (fun j hj => pgl_keep P _ hj) (fun j hj => pgl_new P ik sk (ck) hj) HT3.out.rp HT3.out.bel HT3.out.bel.size hP6 ?_; intro v' w6 hown hB6' hs6 hg6 ha6; have HT6 := Lib.hid (HT3.out.pushP hown hB6' hg6 ha6); clear hown hB6' hs6 hg6 ha6))
                go_roundw
                case rel => exact ⟨i + 1, by go_num, by omega, by rw [HX.out]; exact HT6.out⟩
                case measure => simp [intOf]; omega
          · have ho' : occ cy ik t = false := by simpa using ho
            rw [ho'] at K2
            have HX := Lib.hid (show tkL cy mo tr t I S C (i + 1) = (P ++ [(ik, sk, ck)], A, B) by rw [HST.out]; unfold tkS; rw [if_neg ho])
            go_wp2_with (first | (go_at_call 27; refine (K2.out _).mono ?_; rintro e w3 ⟨rfl, hb3⟩; have d0 := up hb3 e0; have d1 := up hb3 e1; have d2 := up hb3 e2; have df := upf hb3 hbs ef; have hb4 := lt_of_cell d2; have HT3 := Lib.hid (HT2.out.mono hb3); have t0 := up hb3 s0; have t1 := up hb3 s1; have t2 := up hb3 s2; have t3 := up hb3 s3; have hs3 : w1.heap.size ≤ w3.heap.size := HT3.out.bel.size; clear hb3 e0 e1 e2 s0 s1 s2 s3) | (at_builtin; refine wpList_append_elem w3 w1 w1.heap.size rfl (.tmp 78) (.tmp 80) 23 rfl 54 pz 3 24 Try.underlying23 pInfo rfl (by decide) (by decide) _ P.length (pgl P) rfl #[.int .i64 ik, .int .i64 sk, .int .i64 (ck)] rfl rfl (one3 _ _ _) (pgl (P ++ [(ik, sk, ck)])) (fun j hj => pgl_keep P _ hj) (fun j hj => pgl_new P ik sk (ck) hj) HT3.out.rp HT3.out.bel HT3.out.bel.size hP6 ?_; intro v' w6 hown hB6' hs6 hg6 ha6; have HT6 := Lib.hid (HT3.out.pushP hown hB6' hg6 ha6); clear hown hB6' hs6 hg6 ha6))
            go_roundw
            case rel => exact ⟨i + 1, by go_num, by omega, by rw [HX.out]; exact HT6.out⟩
            case measure => simp [intOf]; omega
        · have hin : i = n := by omega
          have HX := Lib.hid (show tkO cy mo tr t n I S C = tkL cy mo tr t I S C i by unfold tkO; rw [if_pos HE.out, hin])
          obtain ⟨a1, c1, a2, c2, a3, c3, rfl, rfl, rfl, g1, g2, -, -, -⟩ := hT.rows
          have x0 := up hT.bel u0
          have x1 := up hT.bel u1
          have x2 := up hT.bel u2
          have x3 := up hT.bel u3
          have y0 := upf hT.bel (by omega) v0
          have y1 := upf hT.bel (by omega) v1
          have y2 := upf hT.bel (by omega) v2
          have y3 := upf hT.bel (by omega) v3
          have yf := upf hT.bel (by omega) tf
          have HBE := Lib.hid (bthen HB1.out (show Below w1.heap.size w1 wr from hT.bel) (by omega))
          generalize tkL cy mo tr t I S C i = X at *
          obtain ⟨P, A, B⟩ := X
          dsimp only at *
          have HT := Lib.hid hT
          have HG1 := Lib.hid g1
          have HG2 := Lib.hid g2
          clear hT g1 g2 t0 t1 t2 t3 u0 u1 u2 u3 v0 v1 v2 v3 tf
          go_wp2_with fail
          refine bodyPost_ret (v := .tuple #[.agg #[.int .i64 cy, .int .i64 mo, .int .i64 tr, .slice a1 P.length c1], .slice a2 A.length c2, .slice a3 B.length c3, .int .i64 0]) (by simp [results, Try.results17, go_sem, cell_set, s0, s1, s2, s3, x0, x1, x2, x3]) rfl ?_
          obtain ⟨k1, k2, k3⟩ := (((((HT.out.tr.set (z := w.heap.size) (o := 3) (by omega) (.slice a1 P.length c1)).set (z := w.heap.size + 1) (o := 0) (by omega) (.int .i64 cy)).set (z := w.heap.size + 1) (o := 1) (by omega) (.int .i64 mo)).set (z := w.heap.size + 1) (o := 2) (by omega) (.int .i64 tr)).set (z := w.heap.size + 1) (o := 3) (by omega) (.slice a1 P.length c1)).at'
          exact ⟨P, A, B, a1, a2, a3, c1, c2, c3, HX.out.symm, by rw [HE.out]; rfl, HG1.out, HG2.out, k1, k2, k3, (((((HBE.out.setCell (p := ⟨w.heap.size, 3, none⟩) (Nat.le_refl _) _).setCell (p := ⟨w.heap.size + 1, 0, none⟩) (Nat.le_succ _) _).setCell (p := ⟨w.heap.size + 1, 1, none⟩) (Nat.le_succ _) _).setCell (p := ⟨w.heap.size + 1, 2, none⟩) (Nat.le_succ _) _).setCell (p := ⟨w.heap.size + 1, 3, none⟩) (Nat.le_succ _) _)⟩
    · have HE := Lib.hid (show tkE cy mo tr t n I S C = 3 by unfold tkE; rw [if_neg (by simp [hck]), if_pos (by simpa using htk)])
      rw [hck]
      have ht : ¬ (0 ≤ t ∧ t ≤ 1048576) := fun h => htk (decide_eq_true h)
      clear hck htk
      by_cases h1 : t < 0
      · clear ht
        go_wp2_with fail
        refine bodyPost_ret (v := .tuple #[.agg #[.int .i64 cy, .int .i64 mo, .int .i64 tr, .slice a n c], .slice none 0 0, .slice none 0 0, .int .i64 3]) (by simp [results, Try.results17, go_sem, cell_set, u0, u1, u2, u3]) rfl ?_
        exact HERR.out 3 HE.out (by decide) _ ((((HB1.out.setCell (p := ⟨w.heap.size + 1, 0, none⟩) (Nat.le_succ _) _).setCell (p := ⟨w.heap.size + 1, 1, none⟩) (Nat.le_succ _) _).setCell (p := ⟨w.heap.size + 1, 2, none⟩) (Nat.le_succ _) _).setCell (p := ⟨w.heap.size + 1, 3, none⟩) (Nat.le_succ _) _)
      · have h2 : 1048576 < t := by omega
        clear ht
        go_wp2_with fail
        refine bodyPost_ret (v := .tuple #[.agg #[.int .i64 cy, .int .i64 mo, .int .i64 tr, .slice a n c], .slice none 0 0, .slice none 0 0, .int .i64 3]) (by simp [results, Try.results17, go_sem, cell_set, u0, u1, u2, u3]) rfl ?_
        exact HERR.out 3 HE.out (by decide) _ ((((HB1.out.setCell (p := ⟨w.heap.size + 1, 0, none⟩) (Nat.le_succ _) _).setCell (p := ⟨w.heap.size + 1, 1, none⟩) (Nat.le_succ _) _).setCell (p := ⟨w.heap.size + 1, 2, none⟩) (Nat.le_succ _) _).setCell (p := ⟨w.heap.size + 1, 3, none⟩) (Nat.le_succ _) _)
  · have q : (ckP cy mo tr n I S C == 0) = false := beq_eq_false_iff_ne.2 hck
    have q2 : (ckP cy mo tr n I S C != 0) = true := by rw [bne_iff_ne]; exact hck
    have HE := Lib.hid (show tkE cy mo tr t n I S C = ckP cy mo tr n I S C by unfold tkE; rw [if_pos hck])
    have HNZ := Lib.hid hck
    generalize ckP cy mo tr n I S C = x at *
    clear hck
    go_wp2_with fail
    refine bodyPost_ret (v := .tuple #[.agg #[.int .i64 cy, .int .i64 mo, .int .i64 tr, .slice a n c], .slice none 0 0, .slice none 0 0, .int .i64 x]) (by simp [results, Try.results17, go_sem, cell_set, u0, u1, u2, u3]) rfl ?_
    exact HERR.out x HE.out HNZ.out _ ((((HB1.out.setCell (p := ⟨w.heap.size + 1, 0, none⟩) (Nat.le_succ _) _).setCell (p := ⟨w.heap.size + 1, 1, none⟩) (Nat.le_succ _) _).setCell (p := ⟨w.heap.size + 1, 2, none⟩) (Nat.le_succ _) _).setCell (p := ⟨w.heap.size + 1, 3, none⟩) (Nat.le_succ _) _)
end Go.Proofs.Ytobmnajgbhgdlaa
