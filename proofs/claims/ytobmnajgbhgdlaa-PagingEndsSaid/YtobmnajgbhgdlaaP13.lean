/- Layer 36: the reference's Answer. -/
import Derived.Test.YtobmnajgbhgdlaaP12
namespace Go.Proofs.Ytobmnajgbhgdlaa
set_option linter.unusedVariables false
set_option linter.unusedSimpArgs false
open Go.RowKit Go.Sort
attribute [local go_sem] gcell
set_option maxRecDepth 100000 in
set_option maxHeartbeats 8000000 in
theorem answer15 (cy mo tr id : Int) (a : Option Addr) (n c : Nat) (I S C : Nat → Int) (w : World) (H : R3 w a n I S C) (hc : n ≤ c) (hn : c ≤ 9223372036854775807) (h0 : a = none → n = 0) :
    Calls Try.prog 15 #[gv cy mo tr a n c, .int .i64 id] w (AnswerR cy mo tr id n I S C w) := by
  have hb0 : Below w.heap.size w ((w.alloc (.cells #[.int .i64 cy, .int .i64 mo, .int .i64 tr, .slice a n c] 25)).alloc (.cells #[.int .i64 0, .int .i64 0, .int .i64 0, .slice none 0 0] 25)) := ((Below.refl _ _).alloc (Nat.le_refl _) _).alloc (by simp) _
  have K1 := Lib.hid (check26 cy mo tr a n c I S C _ (H.mono hb0) hc hn)
  have HB0 := Lib.hid hb0
  have HR := Lib.hid H
  have H0 := Lib.hid h0
  have hz : ((w.alloc (.cells #[.int .i64 cy, .int .i64 mo, .int .i64 tr, .slice a n c] 25)).alloc (.cells #[.int .i64 0, .int .i64 0, .int .i64 0, .slice none 0 0] 25)).heap.size = w.heap.size + 2 := by simp
  clear H hb0 h0
  unfold gv at *
  go_enter Try.func15, Try.ntmps15
  go_wp2_with fail
  refine K1.out.mono ?_
  rintro e w1 ⟨rfl, hb⟩
  have t0 := up hb (b := w.heap.size) (o := 0) (v := .int .i64 cy) (by simp [go_sem])
  have t1 := up hb (b := w.heap.size) (o := 1) (v := .int .i64 mo) (by simp [go_sem])
  have t2 := up hb (b := w.heap.size) (o := 2) (v := .int .i64 tr) (by simp [go_sem])
  have t3 := up hb (b := w.heap.size) (o := 3) (v := .slice a n c) (by simp [go_sem])
  have tf := upf hb (b := w.heap.size) (o := 3) (by simp <;> omega) (by simp [go_sem])
  have u0 := up hb (b := w.heap.size + 1) (o := 0) (v := .int .i64 0) (by simp [go_sem])
  have u1 := up hb (b := w.heap.size + 1) (o := 1) (v := .int .i64 0) (by simp [go_sem])
  have u2 := up hb (b := w.heap.size + 1) (o := 2) (v := .int .i64 0) (by simp [go_sem])
  have u3 := up hb (b := w.heap.size + 1) (o := 3) (v := .slice none 0 0) (by simp [go_sem])
  have v0 := upf hb (b := w.heap.size + 1) (o := 0) (by simp <;> omega) (by simp [go_sem])
  have v1 := upf hb (b := w.heap.size + 1) (o := 1) (by simp <;> omega) (by simp [go_sem])
  have v2 := upf hb (b := w.heap.size + 1) (o := 2) (by simp <;> omega) (by simp [go_sem])
  have v3 := upf hb (b := w.heap.size + 1) (o := 3) (by simp <;> omega) (by simp [go_sem])
  have hs1 : w.heap.size + 2 ≤ w1.heap.size := by have := hb.size; omega
  have HB1 := Lib.hid (bthen HB0.out hb (by omega))
  clear hb K1 HB0 hz
  have herr : anOk cy mo tr id n I S C = false → ∀ W, Below w.heap.size w W → AnswerR cy mo tr id n I S C w (.returned (.tuple #[.agg #[.int .i64 cy, .int .i64 mo, .int .i64 tr, .slice a n c], .bool false])) W := fun hx W hW => AnswerR.err hx ⟨hc, hn⟩ H0.out (HR.out.mono hW) hW
  have HERR := Lib.hid herr
  clear herr
  have HE := Lib.hid (show anOk cy mo tr id n I S C = (decide (ckP cy mo tr n I S C = 0) && hs I id n) from rfl)
  by_cases hck : ckP cy mo tr n I S C = 0
  · have hn16 : n ≤ 16 := (ck_ok hck).2.1
    have K3 := Lib.hid (has29 a n c I S C id w1 (HR.out.mono HB1.out) (by unfold maxLen; omega))
    rw [hck]
    by_cases g : hs I id n = true
    · have HF := Lib.hid (show anOk cy mo tr id n I S C = true by rw [HE.out, g, decide_eq_true hck]; rfl)
      rw [g] at K3
      clear g hck
      go_upto_region 5 with (go_at_call 29; refine K3.out.mono ?_; rintro e w5 ⟨rfl, hb⟩; replace t0 := up hb t0; replace t1 := up hb t1; replace t2 := up hb t2; replace t3 := up hb t3; replace u0 := up hb u0; replace u1 := up hb u1; replace u2 := up hb u2; replace u3 := up hb u3; replace v0 := upf hb (by omega) v0; replace v1 := upf hb (by omega) v1; replace v2 := upf hb (by omega) v2; replace v3 := upf hb (by omega) v3; replace tf := upf hb (by omega) tf; have HB5 := Lib.hid (bthen HB1.out hb (by omega)); clear hb K3)
      have HT0 := Lib.hid (show OwnP w5 w5.heap.size (.slice none 0 0) [] from own_nilK _ _ _ _ _)
      go_loopw [6, 7] (fun s6 s7 wr => ∃ i : Nat, s7 = .int .i64 i ∧ i ≤ n ∧ Below w5.heap.size w5 wr ∧ OwnP wr w5.heap.size s6 (fl I S C id i)) (fun _ s7 _ => n - (intOf s7).toNat)
      case atStart => exact ⟨0, rfl, Nat.zero_le _, Below.refl _ _, HT0.out⟩
      case round =>
        obtain ⟨i, rfl, hi, hB, hO⟩ := hrel
        have hsr := hB.size
        have HBX := Lib.hid (bthen HB5.out (show Below w5.heap.size w5 wr from hB) (by have := HB5.out.size; omega))
        have s0 := up hB t0
        have s1 := up hB t1
        have s2 := up hB t2
        have s3 := up hB t3
        have sf := upf hB (by have := lt_of_cell t0; omega) tf
        have x0 := up hB u0
        have x1 := up hB u1
        have x2 := up hB u2
        have x3 := up hB u3
        have y0 := upf hB (by have := lt_of_cell u0; omega) v0
        have y1 := upf hB (by have := lt_of_cell u0; omega) v1
        have y2 := upf hB (by have := lt_of_cell u0; omega) v2
        have y3 := upf hB (by have := lt_of_cell u0; omega) v3
        have hl := fl_len I S C id i
        have hl6 : (fl I S C id i).length + 1 ≤ 1000000 := by omega
        have hst : fl I S C id (i + 1) = if I i = id then fl I S C id i else fl I S C id i ++ [(I i, S i, C i)] := rfl
        have HST := Lib.hid hst
        have HBI := Lib.hid hB
        have hs0 : w.heap.size + 2 ≤ w5.heap.size := lt_of_cell u0
        clear hst hl
        by_cases hlt : i < n
        · obtain ⟨b, m, h1, h2⟩ := HR.out.mono HBX.out
          obtain rfl := h1 (by omega)
          obtain ⟨p0, p1, p2⟩ := h2 i hlt
          have i1 : (0 : Int) ≤ (i : Int) := by omega
          have i2 : (i : Int) < (n : Int) := by omega
          have i3 : (i : Int) ≤ (c : Int) := by omega
          obtain ⟨a1, c1, b1, rfl, -, -, -⟩ := own_cellsK hO
          have HO := Lib.hid hO
          clear h1 h2 hO hB t0 t1 t2 t3 tf u0 u1 u2 u3 v0 v1 v2 v3
          by_cases he : I i = id
          · have g1 : (I i == id) = true := beq_iff_eq.2 he
            have g2 : (I i != id) = false := by simp [bne, g1]
            have HX := Lib.hid (show fl I S C id (i + 1) = fl I S C id i by rw [HST.out, if_pos he])
            clear he
            go_wp2
            go_roundw
            case rel => exact ⟨i + 1, by go_num, by omega, HBI.out, by rw [HX.out]; exact HO.out⟩
            case measure => simp [intOf]; omega
          · have g1 : (I i == id) = false := beq_eq_false_iff_ne.2 he
            have g2 : (I i != id) = true := by simp [bne, g1]
            have HX := Lib.hid (show fl I S C id (i + 1) = fl I S C id i ++ [(I i, S i, C i)] by rw [HST.out, if_neg he])
            clear he
            generalize fl I S C id i = P at *
            generalize I i = ik at *
            generalize S i = sk at *
            generalize C i = ck at *
            go_wp2_with (at_builtin; refine wpList_append_elem wr w5 w5.heap.size rfl (.tmp 34) (.tmp 40) 23 rfl 54 pz 3 24 Try.underlying23 pInfo rfl (by decide) (by decide) _ P.length (pgl P) rfl #[.int .i64 ik, .int .i64 sk, .int .i64 ck] rfl rfl (one3 _ _ _) (pgl (P ++ [(ik, sk, ck)])) (fun j hj => pgl_keep P _ hj) (fun j hj => pgl_new P ik sk ck hj) HO.out HBI.out hsr hl6 ?_; intro v' w6 hown hB6 hs6 hg6 ha6; have HO6 := Lib.hid (OwnP.of hown); have HB6 := Lib.hid hB6; clear hown hB6 hs6 hg6 ha6)
            go_roundw
            case rel => exact ⟨i + 1, by go_num, by omega, HB6.out, by rw [HX.out]; exact HO6.out⟩
            case measure => simp [intOf]; omega
        · obtain rfl : i = n := by omega
          obtain ⟨a1, c1, b1, rfl, k1, k2, k3⟩ := own_cellsK hO
          have HO := Lib.hid hO
          have HC := Lib.hid (show CapOk (fl I S C id i).length c1 from ⟨k1, own_cap HO.out⟩)
          have HA0 := Lib.hid (fun (e : a1 = none) => show (fl I S C id i).length = 0 by
            rcases Nat.eq_zero_or_pos (fl I S C id i).length with h | h
            · exact h
            · rw [(k2 h).1] at e; cases e)
          clear hO hB t0 t1 t2 t3 tf u0 u1 u2 u3 v0 v1 v2 v3 k1 k2 k3
          go_wp2
          refine bodyPost_ret (v := .tuple #[.agg #[.int .i64 cy, .int .i64 mo, .int .i64 tr, .slice a1 (fl I S C id i).length c1], .bool true]) (by simp [results, Try.results15, go_sem, cell_set, x0, x1, x2, x3]) rfl ?_
          have HO9 := own_setb (own_setb (own_setb (own_setb (own_setb HO.out (show w.heap.size < w5.heap.size by omega) (o := 3) (.slice a1 (fl I S C id i).length c1)) (show w.heap.size + 1 < w5.heap.size by omega) (o := 0) (.int .i64 cy)) (show w.heap.size + 1 < w5.heap.size by omega) (o := 1) (.int .i64 mo)) (show w.heap.size + 1 < w5.heap.size by omega) (o := 2) (.int .i64 tr)) (show w.heap.size + 1 < w5.heap.size by omega) (o := 3) (.slice a1 (fl I S C id i).length c1)
          obtain ⟨_, _, b2, e1, m1, m2, m3⟩ := own_cellsK HO9
          cases e1
          exact ⟨fl I S C id i, a1, c1, by unfold anO; rw [HF.out, if_pos rfl], by rw [HF.out]; rfl, HC.out, HA0.out, R3.of_cells m3 fun h => (m2 h).1, (((((HBX.out.setCell (p := ⟨w.heap.size, 3, none⟩) (Nat.le_refl _) _).setCell (p := ⟨w.heap.size + 1, 0, none⟩) (Nat.le_succ _) _).setCell (p := ⟨w.heap.size + 1, 1, none⟩) (Nat.le_succ _) _).setCell (p := ⟨w.heap.size + 1, 2, none⟩) (Nat.le_succ _) _).setCell (p := ⟨w.heap.size + 1, 3, none⟩) (Nat.le_succ _) _)⟩
    · have g' : hs I id n = false := by simpa using g
      have HF := Lib.hid (show anOk cy mo tr id n I S C = false by rw [HE.out, g', Bool.and_false])
      rw [g'] at K3
      clear g g' hck
      go_wp2_with (go_at_call 29; refine K3.out.mono ?_; rintro e w5 ⟨rfl, hb⟩; replace t0 := up hb t0; replace t1 := up hb t1; replace t2 := up hb t2; replace t3 := up hb t3; replace u0 := up hb u0; replace u1 := up hb u1; replace u2 := up hb u2; replace u3 := up hb u3; replace v0 := upf hb (by omega) v0; replace v1 := upf hb (by omega) v1; replace v2 := upf hb (by omega) v2; replace v3 := upf hb (by omega) v3; replace tf := upf hb (by omega) tf; have HB5 := Lib.hid (bthen HB1.out hb (by omega)); clear hb K3)
      refine bodyPost_ret (v := .tuple #[.agg #[.int .i64 cy, .int .i64 mo, .int .i64 tr, .slice a n c], .bool false]) (by simp [results, Try.results15, go_sem, cell_set, u0, u1, u2, u3]) rfl ?_
      exact HERR.out HF.out _ ((((HB5.out.setCell (p := ⟨w.heap.size + 1, 0, none⟩) (Nat.le_succ _) _).setCell (p := ⟨w.heap.size + 1, 1, none⟩) (Nat.le_succ _) _).setCell (p := ⟨w.heap.size + 1, 2, none⟩) (Nat.le_succ _) _).setCell (p := ⟨w.heap.size + 1, 3, none⟩) (Nat.le_succ _) _)
  · have q : (ckP cy mo tr n I S C == 0) = false := beq_eq_false_iff_ne.2 hck
    have q2 : (ckP cy mo tr n I S C != 0) = true := by rw [bne_iff_ne]; exact hck
    have HF := Lib.hid (show anOk cy mo tr id n I S C = false by rw [HE.out, decide_eq_false hck, Bool.false_and])
    generalize ckP cy mo tr n I S C = x at *
    clear hck
    go_wp2_with fail
    refine bodyPost_ret (v := .tuple #[.agg #[.int .i64 cy, .int .i64 mo, .int .i64 tr, .slice a n c], .bool false]) (by simp [results, Try.results15, go_sem, cell_set, u0, u1, u2, u3]) rfl ?_
    exact HERR.out HF.out _ ((((HB1.out.setCell (p := ⟨w.heap.size + 1, 0, none⟩) (Nat.le_succ _) _).setCell (p := ⟨w.heap.size + 1, 1, none⟩) (Nat.le_succ _) _).setCell (p := ⟨w.heap.size + 1, 2, none⟩) (Nat.le_succ _) _).setCell (p := ⟨w.heap.size + 1, 3, none⟩) (Nat.le_succ _) _)
end Go.Proofs.Ytobmnajgbhgdlaa
