/- Layer 36: the program's Tick, walked. -/
import Derived.Test.YtobmnajgbhgdlaaP6
import Derived.WalkMore
namespace Go.Proofs.Ytobmnajgbhgdlaa
set_option linter.unusedVariables false
set_option linter.unusedSimpArgs false
open Go.RowKit Go.Sort
attribute [local go_sem] gcell
theorem blA (w : World) (o : Obj) : Below w.heap.size w (w.alloc o) := (Below.refl _ _).alloc (Nat.le_refl _) _

set_option maxRecDepth 100000 in
set_option maxHeartbeats 8000000 in
theorem tick8 (cy mo tr t : Int) (a : Option Addr) (n c : Nat) (I S C : Nat → Int) (w : World) (H : R3 w a n I S C) (hc : n ≤ c) (hn : c ≤ 9223372036854775807) (h0 : a = none → n = 0) (hn1 : n ≤ 1000) :
    Calls Try.prog 8 #[gv cy mo tr a n c, .int .i64 t] w (TickR cy mo tr t n I S C w) := by
  have hb0 : Below w.heap.size w ((w.alloc (.cells #[.int .i64 cy, .int .i64 mo, .int .i64 tr, .slice a n c] 25)).alloc (.cells #[.int .i64 0, .int .i64 0, .int .i64 0, .slice none 0 0] 25)) := ((Below.refl _ _).alloc (Nat.le_refl _) _).alloc (by simp) _
  have K0 := Lib.hid (clone20 cy mo tr _ a n c I S C hn1 h0 (H.mono hb0))
  have HB0 := Lib.hid hb0
  have HR := Lib.hid H
  have hz : ((w.alloc (.cells #[.int .i64 cy, .int .i64 mo, .int .i64 tr, .slice a n c] 25)).alloc (.cells #[.int .i64 0, .int .i64 0, .int .i64 0, .slice none 0 0] 25)).heap.size = w.heap.size + 2 := by simp
  clear H hb0
  unfold gv at *
  go_enter Try.func8, Try.ntmps8
  go_wp2_with fail
  refine wp_scope_straight ?_
  go_wp2_with fail
  refine K0.out.mono ?_
  rintro e w1 ⟨a', c', b', rfl, hca, hva, hb⟩
  unfold gv at *
  have t0 := up hb (b := w.heap.size) (o := 0) (v := .int .i64 cy) (by simp [go_sem])
  have t1 := up hb (b := w.heap.size) (o := 1) (v := .int .i64 mo) (by simp [go_sem])
  have t2 := up hb (b := w.heap.size) (o := 2) (v := .int .i64 tr) (by simp [go_sem])
  have t3 := up hb (b := w.heap.size) (o := 3) (v := .slice a n c) (by simp [go_sem])
  have u0 := up hb (b := w.heap.size + 1) (o := 0) (v := .int .i64 0) (by simp [go_sem])
  have u1 := up hb (b := w.heap.size + 1) (o := 1) (v := .int .i64 0) (by simp [go_sem])
  have u2 := up hb (b := w.heap.size + 1) (o := 2) (v := .int .i64 0) (by simp [go_sem])
  have u3 := up hb (b := w.heap.size + 1) (o := 3) (v := .slice none 0 0) (by simp [go_sem])
  have v0 := upf hb (b := w.heap.size + 1) (o := 0) (by simp <;> omega) (by simp [go_sem])
  have v1 := upf hb (b := w.heap.size + 1) (o := 1) (by simp <;> omega) (by simp [go_sem])
  have v2 := upf hb (b := w.heap.size + 1) (o := 2) (by simp <;> omega) (by simp [go_sem])
  have v3 := upf hb (b := w.heap.size + 1) (o := 3) (by simp <;> omega) (by simp [go_sem])
  have hs1 : w.heap.size + 2 ≤ w1.heap.size := by have := hb.size; omega
  have HB1 := Lib.hid (bthen HB0.out hb (by omega))
  have r3 : R3 w1 a' n I S C := R3.of_vat (fun h => (hva h).1) (fun h => (hva h).2.2)
  have ha0 : a' = none → n = 0 := fun e => by
    rcases Nat.eq_zero_or_pos n with h | h
    · exact h
    · rw [(hva h).1] at e; cases e
  have R1 := Lib.hid r3
  have A0 := Lib.hid ha0
  have hv2 : 0 < n → w1.heap.size ≠ b' ∧ w.heap.size + 1 ≠ b' := fun h => by
    have h1 := (hva h).2.1
    have h2 := (hva h).2.2.lt
    omega
  have HV := Lib.hid hva
  have HV2 := Lib.hid hv2
  have herr : ∀ x, tkE cy mo tr t n I S C = x → x ≠ 0 → ∀ W, Below w.heap.size w W → R3 W a' n I S C → TickR cy mo tr t n I S C w (.returned (.tuple #[.agg #[.int .i64 cy, .int .i64 mo, .int .i64 tr, .slice a' n c'], .slice none 0 0, .slice none 0 0, .int .i64 x])) W := fun x hx hx0 W hW r =>
    ⟨pl I S C n, [], [], a', none, none, c', 0, 0, by unfold tkO; rw [hx, if_neg hx0], by rw [hx, pl_len]; rfl, by rw [pl_len]; exact hca, by rw [pl_len]; exact A0.out, by rw [pl_len]; exact r.congr fun k hk => pl_at I S C hk, Row.zero _ _ _, Row.zero _ _ _, hW⟩
  have HERR := Lib.hid herr
  clear hb K0 HB0 hz hva r3 ha0 herr hv2
  have T0 := Lib.hid t0
  have T1 := Lib.hid t1
  have T2 := Lib.hid t2
  have T3 := Lib.hid t3
  have U0 := Lib.hid u0
  have V0 := Lib.hid v0
  have U1 := Lib.hid u1
  have V1 := Lib.hid v1
  have U2 := Lib.hid u2
  have V2 := Lib.hid v2
  have U3 := Lib.hid u3
  have V3 := Lib.hid v3
  go_upto_region 2 with fail
  have hbn : Below w1.heap.size w1 (w1.alloc (.cells #[.int .i64 cy, .int .i64 mo, .int .i64 tr, .slice a' n c'] 25)) := blA _ _
  have e0 : (w1.alloc (.cells #[.int .i64 cy, .int .i64 mo, .int .i64 tr, .slice a' n c'] 25)).cell? ⟨w1.heap.size, 0, none⟩ = some (.int .i64 cy) := by simp [go_sem]
  have e1 : (w1.alloc (.cells #[.int .i64 cy, .int .i64 mo, .int .i64 tr, .slice a' n c'] 25)).cell? ⟨w1.heap.size, 1, none⟩ = some (.int .i64 mo) := by simp [go_sem]
  have e2 : (w1.alloc (.cells #[.int .i64 cy, .int .i64 mo, .int .i64 tr, .slice a' n c'] 25)).cell? ⟨w1.heap.size, 2, none⟩ = some (.int .i64 tr) := by simp [go_sem]
  have e3 : (w1.alloc (.cells #[.int .i64 cy, .int .i64 mo, .int .i64 tr, .slice a' n c'] 25)).cell? ⟨w1.heap.size, 3, none⟩ = some (.slice a' n c') := by simp [go_sem]
  have ef : (w1.alloc (.cells #[.int .i64 cy, .int .i64 mo, .int .i64 tr, .slice a' n c'] 25)).frozen? ⟨w1.heap.size, 3, none⟩ = false := by simp [go_sem]
  have hlt : w1.heap.size < (w1.alloc (.cells #[.int .i64 cy, .int .i64 mo, .int .i64 tr, .slice a' n c'] 25)).heap.size := by simp
  have HBN := Lib.hid hbn
  have K1 := Lib.hid (check21 cy mo tr a n c I S C _ (HR.out.mono (bthen' HB1.out hbn)) hc hn)
  replace t0 := up hbn t0
  replace t1 := up hbn t1
  replace t2 := up hbn t2
  replace t3 := up hbn t3
  replace u0 := up hbn u0
  replace u1 := up hbn u1
  replace u2 := up hbn u2
  replace u3 := up hbn u3
  replace v0 := upf hbn (by omega) v0
  replace v1 := upf hbn (by omega) v1
  replace v2 := upf hbn (by omega) v2
  replace v3 := upf hbn (by omega) v3
  clear hbn
  generalize (w1.alloc (.cells #[.int .i64 cy, .int .i64 mo, .int .i64 tr, .slice a' n c'] 25)) = w2 at *
  unfold gv at *
  go_wp2_with fail
  refine K1.out.mono ?_
  rintro e w3 ⟨rfl, hb⟩
  replace t0 := up hb t0
  replace t1 := up hb t1
  replace t2 := up hb t2
  replace t3 := up hb t3
  replace u0 := up hb u0
  replace u1 := up hb u1
  replace u2 := up hb u2
  replace u3 := up hb u3
  replace e0 := up hb e0
  replace e1 := up hb e1
  replace e2 := up hb e2
  replace e3 := up hb e3
  replace v0 := upf hb (by omega) v0
  replace v1 := upf hb (by omega) v1
  replace v2 := upf hb (by omega) v2
  replace v3 := upf hb (by omega) v3
  replace ef := upf hb hlt ef
  have HB3 := Lib.hid (bthen' HBN.out hb)
  have HBW := Lib.hid (bthen' HB1.out HB3.out)
  have hs3 : w1.heap.size < w3.heap.size := lt_of_cell e0
  clear hb K1 HBN
  by_cases hck : ckP cy mo tr n I S C = 0
  · have K2 := Lib.hid (ticks22 t w3)
    by_cases htk : tks t = true
    · have HE := Lib.hid (show tkE cy mo tr t n I S C = 0 by unfold tkE; rw [if_neg (by simp [hck]), if_neg (by simp [htk])])
      have hok := ck_ok hck
      rw [hck]
      rw [htk] at K2
      clear hck htk
      go_upto_region 8 with (go_at_call 22; refine K2.out.mono ?_; rintro e wz ⟨rfl, rfl⟩)
      have HQ0 := Lib.hid (show Qd w1.heap.size cy mo tr w1 (wz.setCell ⟨w1.heap.size, 3, none⟩ (.slice none 0 0)) (.slice none 0 0) (.slice none 0 0) (.slice none 0 0) [] [] [] from
        ⟨Tri.start (HB3.out.setCell (p := ⟨w1.heap.size, 3, none⟩) (Nat.le_refl _) _), (fun h => by cases h), (fun h => by cases h), (fun h => by cases h), by rw [cell_set, if_neg (by simp)]; exact e0, by rw [cell_set, if_neg (by simp)]; exact e1, by rw [cell_set, if_neg (by simp)]; exact e2, by rw [cell_set, if_pos rfl, e3]; rfl, by rw [World.frozen?_setCell]; exact ef⟩)
      clear t0 t1 t2 t3 u0 u1 u2 u3 v0 v1 v2 v3 e0 e1 e2 e3 ef hs3 K2 HBW HB3
      generalize wz.setCell ⟨w1.heap.size, 3, none⟩ (.slice none 0 0) = w9 at *
      have t3 := up HQ0.out.T.bel T3.out
      go_wp2_with fail
      refine wp_label ?_
      go_wp2_with fail
      clear t3
      go_loopw [10, 11, 30] (fun s10 s11 s30 wr => ∃ (i : Nat) (p : Value), s30 = .int .i64 i ∧ i ≤ n ∧ Qd w1.heap.size cy mo tr w1 wr p s10 s11 (tkL cy mo tr t I S C i).1 (tkL cy mo tr t I S C i).2.1 (tkL cy mo tr t I S C i).2.2) (fun _ _ s30 _ => n - (intOf s30).toNat)
      case atStart => exact ⟨0, _, rfl, Nat.zero_le _, HQ0.out⟩
      case round =>
        obtain ⟨i, p, rfl, hi, hQ⟩ := hrel
        have hT := hQ.T
        have hsr := hT.bel.size
        have s0 := up hT.bel T0.out
        have s1 := up hT.bel T1.out
        have s2 := up hT.bel T2.out
        have s3 := up hT.bel T3.out
        by_cases hlt : i < n
        · obtain ⟨hP6, hA6, hB6⟩ := tkL_len cy mo tr t I S C i
          have hst : tkL cy mo tr t I S C (i + 1) = tkS cy mo tr t (I i, S i, C i) (tkL cy mo tr t I S C i) := rfl
          obtain ⟨a1, c1, a2, c2, a3, c3, rfl, rfl, rfl, -, -, -, -, -⟩ := hT.rows
          obtain ⟨b, m, h1, h2⟩ := (HR.out.mono (bthen' HB1.out (show Below w1.heap.size w1 wr from hT.bel)))
          obtain rfl := h1 (by omega)
          obtain ⟨p0, p1, p2⟩ := h2 i hlt
          obtain ⟨q1, q2⟩ := hok.2.2 i hlt
          have i1 : (0 : Int) ≤ (i : Int) := by omega
          have i2 : (i : Int) < (n : Int) := by omega
          have i3 : (i : Int) ≤ (c : Int) := by omega
          obtain ⟨⟨-, -, -, -, r1, r2⟩, hs16, -⟩ := hok
          have K3 := Lib.hid fun W => occ19 cy (I i) t W
          have HST := Lib.hid hst
          clear h1 h2 hst hT
          generalize tkL cy mo tr t I S C i = X at *
          obtain ⟨P, A, B⟩ := X
          dsimp only at *
          have HQ := Lib.hid hQ
          clear hQ
          generalize I i = ik at *
          generalize S i = sk at *
          generalize C i = ck at *
          have hP6 : P.length + 1 ≤ 1000000 := by omega
          have hB6 : B.length + 1 ≤ 1000000 := by omega
          have hA6' : A.length + 1 ≤ 1000000 := by omega
          go_upto_region 12 with fail
          have hbn : Below wr.heap.size wr (wr.alloc (.cells #[.int .i64 ik, .int .i64 sk, .int .i64 ck] 54)) := blA _ _
          have k0 : (wr.alloc (.cells #[.int .i64 ik, .int .i64 sk, .int .i64 ck] 54)).cell? ⟨wr.heap.size, 0, none⟩ = some (.int .i64 ik) := by simp [go_sem]
          have k1 : (wr.alloc (.cells #[.int .i64 ik, .int .i64 sk, .int .i64 ck] 54)).cell? ⟨wr.heap.size, 1, none⟩ = some (.int .i64 sk) := by simp [go_sem]
          have k2 : (wr.alloc (.cells #[.int .i64 ik, .int .i64 sk, .int .i64 ck] 54)).cell? ⟨wr.heap.size, 2, none⟩ = some (.int .i64 ck) := by simp [go_sem]
          have kf : (wr.alloc (.cells #[.int .i64 ik, .int .i64 sk, .int .i64 ck] 54)).frozen? ⟨wr.heap.size, 2, none⟩ = false := by simp [go_sem]
          replace s0 := up hbn s0
          replace s1 := up hbn s1
          replace s2 := up hbn s2
          replace s3 := up hbn s3
          have HQ2 := Lib.hid (HQ.out.mono hbn)
          have hDB : wr.heap.size ≠ w1.heap.size := by have := lt_of_cell HQ.out.d0; omega
          have N1 := Lib.hid (own_ne HQ.out.T.rp (Nat.le_refl _))
          have N2 := Lib.hid (own_ne HQ.out.T.rc (Nat.le_refl _))
          have N3 := Lib.hid (own_ne HQ.out.T.rl (Nat.le_refl _))
          have hbs : wr.heap.size < (wr.alloc (.cells #[.int .i64 ik, .int .i64 sk, .int .i64 ck] 54)).heap.size := by simp
          clear hbn HQ p0 p1 p2
          generalize (wr.alloc (.cells #[.int .i64 ik, .int .i64 sk, .int .i64 ck] 54)) = w2' at *
          generalize wr.heap.size = Bx at *
          by_cases ho : occ cy ik t = true
          · rw [ho] at K3
            by_cases hc' : ck = tr
            · subst hc'
              have HX := Lib.hid (show tkL cy mo ck t I S C (i + 1) = (P, A, B ++ [ik]) by rw [HST.out]; unfold tkS; rw [if_pos ho, if_pos rfl])
              go_wp2_with (first | (go_at_call 19; refine (K3.out _).mono ?_; rintro e w4 ⟨rfl, hb3⟩; have d0 := up hb3 k0; have d1 := up hb3 k1; have d2 := up hb3 k2; have df := upf hb3 hbs kf; have hb4 := lt_of_cell d2; have HQ3 := Lib.hid (HQ2.out.mono hb3); have t0 := up hb3 s0; have t1 := up hb3 s1; have t2 := up hb3 s2; have t3 := up hb3 s3; have g3 := HQ3.out.d3; have hs4 : w1.heap.size ≤ w4.heap.size := HQ3.out.T.bel.size; clear hb3 k0 k1 k2 kf s0 s1 s2 s3) | (at_builtin; refine wpList_append1_at w4 w1 w1.heap.size rfl (.tmp 46) (.tmp 49) 32 rfl 3 (.int .i64 0) 8 Try.underlying32 intInfo rfl (by decide) _ B.length (iv (nI (B ++ [ik]))) rfl _ rfl (OwnI.put ik HQ3.out.T.rl) HQ3.out.T.bel hs4 (nI_new B ik).symm rfl hB6 ?_; intro v' w5 hown hB5 hs5 hg5 ha5; have HQ5 := Lib.hid (HQ3.out.pushL hown hB5 hg5 ha5); clear hown hB5 hs5 hg5 ha5))
              go_roundw
              case rel => exact ⟨i + 1, _, by go_num, by omega, by rw [HX.out]; exact HQ5.out⟩
              case measure => simp [intOf]; omega
            · have hcc : (ck == tr) = false := beq_eq_false_iff_ne.2 hc'
              by_cases hm : (A.length : Int) < mo
              · have HX := Lib.hid (show tkL cy mo tr t I S C (i + 1) = (P ++ [(ik, sk, ck + 1)], A ++ [ik], B) by rw [HST.out]; unfold tkS; rw [if_pos ho, if_neg hc', if_pos hm])
                go_upto_region 17 with (go_at_call 19; refine (K3.out _).mono ?_; rintro e w4 ⟨rfl, hb3⟩; have d0 := up hb3 k0; have d1 := up hb3 k1; have d2 := up hb3 k2; have df := upf hb3 hbs kf; have hb4 := lt_of_cell d2; have HQ3 := Lib.hid (HQ2.out.mono hb3); have t0 := up hb3 s0; have t1 := up hb3 s1; have t2 := up hb3 s2; have t3 := up hb3 s3; have g3 := HQ3.out.d3; have hs4 : w1.heap.size ≤ w4.heap.size := HQ3.out.T.bel.size; clear hb3 k0 k1 k2 kf s0 s1 s2 s3)
                have k0 : (w4.setCell ⟨Bx, 2, none⟩ (.int .i64 (ck + 1))).cell? ⟨Bx, 0, none⟩ = some (.int .i64 ik) := by rw [cell_set, if_neg (by simp)]; exact d0
                have k1 : (w4.setCell ⟨Bx, 2, none⟩ (.int .i64 (ck + 1))).cell? ⟨Bx, 1, none⟩ = some (.int .i64 sk) := by rw [cell_set, if_neg (by simp)]; exact d1
                have k2 : (w4.setCell ⟨Bx, 2, none⟩ (.int .i64 (ck + 1))).cell? ⟨Bx, 2, none⟩ = some (.int .i64 (ck + 1)) := by rw [cell_set, if_pos rfl, d2]; rfl
                have HQ4 := Lib.hid (HQ3.out.setn (o := 2) hsr hDB N1.out N2.out N3.out (.int .i64 (ck + 1)))
                clear d0 d1 d2 df t0 t1 t2 t3 g3
                generalize (w4.setCell ⟨Bx, 2, none⟩ (.int .i64 (ck + 1))) = w5 at *
                go_wp2_with (first | (at_builtin; refine wpList_append1_at w5 w1 w1.heap.size rfl (.tmp 61) (.tmp 64) 32 rfl 3 (.int .i64 0) 8 Try.underlying32 intInfo rfl (by decide) _ A.length (iv (nI (A ++ [ik]))) rfl _ rfl (OwnI.put ik HQ4.out.T.rc) HQ4.out.T.bel HQ4.out.T.bel.size (nI_new A ik).symm rfl hA6' ?_; intro v' w7 hown hB4 hs7 hg4 ha4; have f0 := far_cell hg4 N2.out k0; have f1 := far_cell hg4 N2.out k1; have f2 := far_cell hg4 N2.out k2; have HQ7 := Lib.hid (HQ4.out.pushC hown hB4 hg4 ha4); have j0 := HQ7.out.d3; clear hown hB4 hs7 hg4 ha4 k0 k1 k2) | (at_builtin; refine wpList_append_elem w7 w1 w1.heap.size rfl (.tmp 67) (.tmp 69) 23 rfl 54 pz 3 24 Try.underlying23 pInfo rfl (by decide) (by decide) _ P.length (pgl P) rfl #[.int .i64 ik, .int .i64 sk, .int .i64 (ck + 1)] rfl rfl (one3 _ _ _) (pgl (P ++ [(ik, sk, ck + 1)])) (fun j hj => pgl_keep P _ hj) (fun j hj => pgl_new P ik sk (ck + 1) hj) HQ7.out.T.rp HQ7.out.T.bel HQ7.out.T.bel.size hP6 ?_; intro v' w6 hown hB6' hs6 hg6 ha6; obtain ⟨a4, c4, b4, rfl, -, -, -⟩ := own_cellsK hown; have HQ6 := Lib.hid (HQ7.out.pushP (Nat.le_refl _) hown hB6' hg6 ha6); have j3 := far_cell hg6 HQ7.out.n1 HQ7.out.d3; have jf := far_frozen hg6 HQ7.out.n1 HQ7.out.d3 HQ7.out.df; clear hown hB6' hs6 hg6 ha6))
                go_roundw
                case rel => exact ⟨i + 1, _, by go_num, by omega, by rw [HX.out]; exact HQ6.out⟩
                case measure => simp [intOf]; omega
              · have HX := Lib.hid (show tkL cy mo tr t I S C (i + 1) = (P ++ [(ik, sk, ck)], A, B) by rw [HST.out]; unfold tkS; rw [if_pos ho, if_neg hc', if_neg hm])
                go_wp2_with (first | (go_at_call 19; refine (K3.out _).mono ?_; rintro e w4 ⟨rfl, hb3⟩; have d0 := up hb3 k0; have d1 := up hb3 k1; have d2 := up hb3 k2; have df := upf hb3 hbs kf; have hb4 := lt_of_cell d2; have HQ3 := Lib.hid (HQ2.out.mono hb3); have t0 := up hb3 s0; have t1 := up hb3 s1; have t2 := up hb3 s2; have t3 := up hb3 s3; have g3 := HQ3.out.d3; have hs4 : w1.heap.size ≤ w4.heap.size := HQ3.out.T.bel.size; clear hb3 k0 k1 k2 kf s0 s1 s2 s3) | (at_builtin; refine wpList_append_elem w4 w1 w1.heap.size rfl (.tmp 67) (.tmp 69) 23 rfl 54 pz 3 24 Try.underlying23 pInfo rfl (by decide) (by decide) _ P.length (pgl P) rfl #[.int .i64 ik, .int .i64 sk, .int .i64 (ck)] rfl rfl (one3 _ _ _) (pgl (P ++ [(ik, sk, ck)])) (fun j hj => pgl_keep P _ hj) (fun j hj => pgl_new P ik sk (ck) hj) HQ3.out.T.rp HQ3.out.T.bel HQ3.out.T.bel.size hP6 ?_; intro v' w6 hown hB6' hs6 hg6 ha6; obtain ⟨a4, c4, b4, rfl, -, -, -⟩ := own_cellsK hown; have HQ6 := Lib.hid (HQ3.out.pushP (Nat.le_refl _) hown hB6' hg6 ha6); have j3 := far_cell hg6 HQ3.out.n1 HQ3.out.d3; have jf := far_frozen hg6 HQ3.out.n1 HQ3.out.d3 HQ3.out.df; clear hown hB6' hs6 hg6 ha6))
                go_roundw
                case rel => exact ⟨i + 1, _, by go_num, by omega, by rw [HX.out]; exact HQ6.out⟩
                case measure => simp [intOf]; omega
          · have ho' : occ cy ik t = false := by simpa using ho
            rw [ho'] at K3
            have HX := Lib.hid (show tkL cy mo tr t I S C (i + 1) = (P ++ [(ik, sk, ck)], A, B) by rw [HST.out]; unfold tkS; rw [if_neg ho])
            go_wp2_with (first | (go_at_call 19; refine (K3.out _).mono ?_; rintro e w4 ⟨rfl, hb3⟩; have d0 := up hb3 k0; have d1 := up hb3 k1; have d2 := up hb3 k2; have df := upf hb3 hbs kf; have hb4 := lt_of_cell d2; have HQ3 := Lib.hid (HQ2.out.mono hb3); have t0 := up hb3 s0; have t1 := up hb3 s1; have t2 := up hb3 s2; have t3 := up hb3 s3; have g3 := HQ3.out.d3; have hs4 : w1.heap.size ≤ w4.heap.size := HQ3.out.T.bel.size; clear hb3 k0 k1 k2 kf s0 s1 s2 s3) | (at_builtin; refine wpList_append_elem w4 w1 w1.heap.size rfl (.tmp 67) (.tmp 69) 23 rfl 54 pz 3 24 Try.underlying23 pInfo rfl (by decide) (by decide) _ P.length (pgl P) rfl #[.int .i64 ik, .int .i64 sk, .int .i64 (ck)] rfl rfl (one3 _ _ _) (pgl (P ++ [(ik, sk, ck)])) (fun j hj => pgl_keep P _ hj) (fun j hj => pgl_new P ik sk (ck) hj) HQ3.out.T.rp HQ3.out.T.bel HQ3.out.T.bel.size hP6 ?_; intro v' w6 hown hB6' hs6 hg6 ha6; obtain ⟨a4, c4, b4, rfl, -, -, -⟩ := own_cellsK hown; have HQ6 := Lib.hid (HQ3.out.pushP (Nat.le_refl _) hown hB6' hg6 ha6); have j3 := far_cell hg6 HQ3.out.n1 HQ3.out.d3; have jf := far_frozen hg6 HQ3.out.n1 HQ3.out.d3 HQ3.out.df; clear hown hB6' hs6 hg6 ha6))
            go_roundw
            case rel => exact ⟨i + 1, _, by go_num, by omega, by rw [HX.out]; exact HQ6.out⟩
            case measure => simp [intOf]; omega
        · have hin : i = n := by omega
          have HX := Lib.hid (show tkO cy mo tr t n I S C = tkL cy mo tr t I S C i by unfold tkO; rw [if_pos HE.out, hin])
          obtain ⟨a1, c1, a2, c2, a3, c3, rfl, rfl, rfl, g1, g2, -, -, -⟩ := hT.rows
          have x0 := up hT.bel U0.out
          have x1 := up hT.bel U1.out
          have x2 := up hT.bel U2.out
          have x3 := up hT.bel U3.out
          have y0 := upf hT.bel (by omega) V0.out
          have y1 := upf hT.bel (by omega) V1.out
          have y2 := upf hT.bel (by omega) V2.out
          have y3 := upf hT.bel (by omega) V3.out
          have l0 := hQ.d0
          have l1 := hQ.d1
          have l2 := hQ.d2
          have l3 := hQ.d3
          have HBE := Lib.hid (bthen HB1.out (show Below w1.heap.size w1 wr from hT.bel) (by omega))
          generalize tkL cy mo tr t I S C i = X at *
          obtain ⟨P, A, B⟩ := X
          dsimp only at *
          have HT := Lib.hid hT
          have HG1 := Lib.hid g1
          have HG2 := Lib.hid g2
          clear hT hQ g1 g2
          go_wp2_with fail
          refine bodyPost_ret (v := .tuple #[.agg #[.int .i64 cy, .int .i64 mo, .int .i64 tr, .slice a1 P.length c1], .slice a2 A.length c2, .slice a3 B.length c3, .int .i64 0]) (by simp [results, Try.results8, go_sem, cell_set, x0, x1, x2, x3]) rfl ?_
          obtain ⟨k1, k2, k3⟩ := ((((HT.out.tr.set (z := w.heap.size + 1) (o := 0) (by omega) (.int .i64 cy)).set (z := w.heap.size + 1) (o := 1) (by omega) (.int .i64 mo)).set (z := w.heap.size + 1) (o := 2) (by omega) (.int .i64 tr)).set (z := w.heap.size + 1) (o := 3) (by omega) (.slice a1 P.length c1)).at'
          exact ⟨P, A, B, a1, a2, a3, c1, c2, c3, HX.out.symm, by rw [HE.out]; rfl, HG1.out, HG2.out, k1, k2, k3, ((((HBE.out.setCell (p := ⟨w.heap.size + 1, 0, none⟩) (Nat.le_succ _) _).setCell (p := ⟨w.heap.size + 1, 1, none⟩) (Nat.le_succ _) _).setCell (p := ⟨w.heap.size + 1, 2, none⟩) (Nat.le_succ _) _).setCell (p := ⟨w.heap.size + 1, 3, none⟩) (Nat.le_succ _) _)⟩
    · have htk' : tks t = false := by simpa using htk
      have HE := Lib.hid (show tkE cy mo tr t n I S C = 3 by unfold tkE; rw [if_neg (by simp [hck]), if_pos htk'])
      rw [hck]
      rw [htk'] at K2
      clear hck htk htk'
      go_wp2_with (go_at_call 22; refine K2.out.mono ?_; rintro e wz ⟨rfl, rfl⟩)
      refine bodyPost_ret (v := .tuple #[.agg #[.int .i64 cy, .int .i64 mo, .int .i64 tr, .slice a' n c'], .slice none 0 0, .slice none 0 0, .int .i64 3]) (by simp [results, Try.results8, go_sem, cell_set, u0, u1, u2, u3]) rfl ?_
      exact HERR.out 3 HE.out (by decide) _ ((((HBW.out.setCell (p := ⟨w.heap.size + 1, 0, none⟩) (Nat.le_succ _) _).setCell (p := ⟨w.heap.size + 1, 1, none⟩) (Nat.le_succ _) _).setCell (p := ⟨w.heap.size + 1, 2, none⟩) (Nat.le_succ _) _).setCell (p := ⟨w.heap.size + 1, 3, none⟩) (Nat.le_succ _) _) (R3.of_vat (fun h => (HV.out h).1) fun h => ((((((HV.out h).2.2.mono HB3.out).far (HV2.out h).2).far (HV2.out h).2).far (HV2.out h).2).far (HV2.out h).2))
  · have q : (ckP cy mo tr n I S C == 0) = false := beq_eq_false_iff_ne.2 hck
    have q2 : (ckP cy mo tr n I S C != 0) = true := by rw [bne_iff_ne]; exact hck
    have HE := Lib.hid (show tkE cy mo tr t n I S C = ckP cy mo tr n I S C by unfold tkE; rw [if_pos hck])
    have HNZ := Lib.hid hck
    generalize ckP cy mo tr n I S C = x at *
    clear hck
    go_wp2_with fail
    refine bodyPost_ret (v := .tuple #[.agg #[.int .i64 cy, .int .i64 mo, .int .i64 tr, .slice a' n c'], .slice none 0 0, .slice none 0 0, .int .i64 x]) (by simp [results, Try.results8, go_sem, cell_set, u0, u1, u2, u3]) rfl ?_
    exact HERR.out x HE.out HNZ.out _ ((((HBW.out.setCell (p := ⟨w.heap.size + 1, 0, none⟩) (Nat.le_succ _) _).setCell (p := ⟨w.heap.size + 1, 1, none⟩) (Nat.le_succ _) _).setCell (p := ⟨w.heap.size + 1, 2, none⟩) (Nat.le_succ _) _).setCell (p := ⟨w.heap.size + 1, 3, none⟩) (Nat.le_succ _) _) (R3.of_vat (fun h => (HV.out h).1) fun h => ((((((HV.out h).2.2.mono HB3.out).far (HV2.out h).2).far (HV2.out h).2).far (HV2.out h).2).far (HV2.out h).2))
end Go.Proofs.Ytobmnajgbhgdlaa
