/- Layer 34: what a demand wants, what covers it, its mean. -/
import Derived.Test.YtdcogbokcbpnnaaD0
import Derived.Deep.DeepCutAuto
import Derived.Deep.CutBlock
namespace Go.Proofs.Ytdcogbokcbpnnaa
set_option linter.unusedVariables false
set_option linter.unusedSimpArgs false
open Go.RowKit Go.Sort
attribute [local go_sem] gcell
theorem blk (w : World) (o : Obj) : Below w.heap.size w (w.alloc o) := (Below.refl _ _).alloc (Nat.le_refl _) _
section
variable {w0 w : World} {T O H : Nat} {la : Option Addr} {n lc R : Nat} {L : Nat → Dm} {s : St}
set_option maxRecDepth 100000 in
set_option maxHeartbeats 4000000 in
theorem mean45 (X : Tb w0 w T O H la n lc R L s) (i : Nat) (hi : i < n) (hn : n ≤ 4) (hm : 0 ≤ (L i).mn ∧ (L i).mn ≤ 67108864) : Calls Try.prog 45 #[.pointer (some ⟨T, 0, none⟩), .int .i64 i] w fun e w' => e = .returned (.agg #[.int .i64 ((L i).mn + 4 * bytes (L i).q (s.hs i))]) ∧ Below w.heap.size w w' := by
  have K := Lib.hid fun W (hb : Below w.heap.size w W) => bytes52 (X.mono hb) i hi hn
  obtain ⟨t0, t1, t2, t3⟩ := X.cells
  obtain ⟨b, m, h1, h2⟩ := X.row
  obtain rfl := h1 (by omega)
  obtain ⟨-, -, -, c3, -, -, -⟩ := h2 i hi
  have lT := X.t.lt
  have lb := lt_of_cell c3
  have bb := bytes_bd (L i).q (s.hs i)
  clear h1 h2 X t1 t2 t3
  generalize bytes (L i).q (s.hs i) = bv at *
  generalize (L i).mn = mv at *
  have i1 : (0 : Int) ≤ (i : Int) := by omega
  have i2 : (i : Int) < (n : Int) := by omega
  go_enter Try.func45, Try.ntmps45
  go_wp2_with fail
  refine wp_region_grown_tail 15 (by kernel_rfl) (by kernel_rfl) ?_
  simp only [List.take_succ_cons, List.take_zero, List.drop_succ_cons, List.drop_zero]
  repeat (go_big_quiet_step (first | (go_at_call 52; exact Calls.regrown_of (K.out _ (bthen' (blk _ _) (below_regrown _ _ _))))))
  refine wpQuiet_nil ?_
  intro w4 hw4
  have hb4 := below_of_regrown hw4
  have f4 := upf hb4 (b := w.heap.size) (o := 0) (by simp) (by simp [go_sem])
  have x4 := up hb4 (b := w.heap.size) (o := 0) (v := .int .i64 0) (by simp [go_sem])
  have HB4 := Lib.hid (bthen' (blk w _) hb4)
  have y4 : (w4.setCell ⟨w.heap.size, 0, none⟩ (.int .i64 (mv + 4 * bv))).cell? ⟨w.heap.size, 0, none⟩ = some (.int .i64 (mv + 4 * bv)) := by rw [cell_set, if_pos rfl, x4]; rfl
  clear hw4 hb4 K
  go_wp2
  refine bodyPost_ret (v := .agg #[.int .i64 (mv + 4 * bv)]) (by simp [results, Try.results45, go_sem, y4]) rfl ⟨rfl, HB4.out.setCell (Nat.le_refl _) _⟩
set_option maxRecDepth 100000 in
set_option maxHeartbeats 4000000 in
theorem cover46 (X : Tb w0 w T O H la n lc R L s) (i : Nat) (hi : i < n) (hn : n ≤ 4) (hs : 0 ≤ s.hs i ∧ s.hs i ≤ 12) (hl : s.left ≤ 12) : Calls Try.prog 46 #[.pointer (some ⟨T, 0, none⟩), .int .i64 i] w fun e w' => e = .returned (.int .i64 (coverP (L i) (s.hs i) s.left)) ∧ Below w.heap.size w w' := by
  obtain ⟨t0, t1, t2, t3⟩ := X.cells
  obtain ⟨b, m, h1, h2⟩ := X.row
  obtain rfl := h1 (by omega)
  obtain ⟨c0, -, c2, -, -, -, -⟩ := h2 i hi
  have d0 := X.h.c i hi
  unfold iv at d0
  have lT := X.t.lt
  have lb := lt_of_cell c0
  have lH := X.h.lt
  clear h1 h2 X t1
  have HC := Lib.hid (show coverP (L i) (s.hs i) s.left = if firstK (fun k => decide ((L i).by' ≤ bytes (L i).q (s.hs i + k))) s.left = 0 then s.left else firstK (fun k => decide ((L i).by' ≤ bytes (L i).q (s.hs i + k))) s.left from rfl)
  generalize coverP (L i) (s.hs i) s.left = cv at *
  generalize s.hs i = hv at *
  generalize (L i).q = qv at *
  generalize (L i).by' = yv at *
  generalize s.left = lv at *
  have i1 : (0 : Int) ≤ (i : Int) := by omega
  have i2 : (i : Int) < (n : Int) := by omega
  go_enter Try.func46, Try.ntmps46
  go_wp2_with fail
  go_loopw [5] (fun s5 wr => ∃ k : Nat, s5 = .int .i64 k ∧ 1 ≤ k ∧ k ≤ lv + 1 ∧ (∀ j : Nat, 1 ≤ j → j < k → decide (yv ≤ bytes qv (hv + j)) = false) ∧ Below w.heap.size w wr) (fun s5 _ => lv + 1 - (intOf s5).toNat)
  case atStart => exact ⟨1, rfl, Nat.le_refl _, by omega, fun j a b => by omega, Below.refl _ _⟩
  case round =>
    obtain ⟨k, rfl, hk1, hk2, hf, hB⟩ := hrel
    have HF := Lib.hid hf
    have HB := Lib.hid hB
    clear hf
    by_cases hlt : k ≤ lv
    · have hlt' : (k : Int) ≤ (lv : Int) := by omega
      have T0 := up hB t0
      have T2 := up hB t2
      have T3 := up hB t3
      have C0 := up hB c0
      have C2 := up hB c2
      have D0 := up hB d0
      have LT := Nat.lt_of_lt_of_le lT hB.size
      have LB := Nat.lt_of_lt_of_le lb hB.size
      have LH := Nat.lt_of_lt_of_le lH hB.size
      clear hB
      go_wp2_with fail
      refine wp_region_quiet_below (by kernel_rfl) (by kernel_rfl) ?_
      repeat (go_big_quiet_step (first | (go_at_call 53; exact Calls.regrown_of (bytes53 _ _ _))))
      refine wpQuiet_nil ?_
      intro w2 hw2
      have hB2 := below_of_regrown hw2
      have HB2 := Lib.hid (bthen' HB.out hB2)
      clear hw2 hB2
      by_cases hy : yv ≤ bytes qv (hv + k)
      · have q1 : decide (yv ≤ bytes qv (hv + k)) = true := by simp [hy]
        go_wp2
        go_ret
        refine ⟨ret_int ?_, HB2.out⟩
        rw [HC.out, firstK_at hk1 hlt HF.out q1, if_neg (by omega)]
      · have q1 : decide (yv ≤ bytes qv (hv + k)) = false := by simp; omega
        go_wp2
        go_roundw
        case rel => exact ⟨k + 1, by go_num, by omega, by omega, fun j a b => by
          rcases Nat.lt_or_eq_of_le (Nat.le_of_lt_succ b) with h | rfl
          · exact HF.out j a h
          · exact q1, HB2.out⟩
        case measure => simp [intOf]; omega
    · have : k = lv + 1 := by omega
      subst this
      have T2 := up hB t2
      clear hB
      go_wp2
      go_ret
      refine ⟨ret_int ?_, HB.out⟩
      rw [HC.out, firstK_none.2 fun j a b => HF.out j a (by omega), if_pos rfl]
set_option maxRecDepth 100000 in
set_option maxHeartbeats 4000000 in
theorem wants41 (X : Tb w0 w T O H la n lc R L s) (i : Nat) (hi : i < n) (hn : n ≤ 4) (hs : 0 ≤ s.hs i ∧ s.hs i ≤ 12) (hl : s.left ≤ 12) : Calls Try.prog 41 #[.pointer (some ⟨T, 0, none⟩), .int .i64 i] w fun e w' => e = .returned (.int .i64 (wantsP (L i) (s.hs i) s.left)) ∧ Below w.heap.size w w' := by
  have K := Lib.hid fun W (hb : Below w.heap.size w W) => bytes52 (X.mono hb) i hi hn
  obtain ⟨t0, t1, t2, t3⟩ := X.cells
  obtain ⟨b, m, h1, h2⟩ := X.row
  obtain rfl := h1 (by omega)
  obtain ⟨c0, c1, c2, c3, c4, c5, c6⟩ := h2 i hi
  have d0 := X.h.c i hi
  unfold iv at d0
  have lT := X.t.lt
  have lb := lt_of_cell c0
  have lH := X.h.lt
  clear h1 h2 X t1
  have HC := Lib.hid (show wantsP (L i) (s.hs i) s.left = if 0 < (L i).ag ∨ (L i).by' ≤ bytes (L i).q (s.hs i) then 0 else firstK (fun k => decide (bytes (L i).q (s.hs i) < bytes (L i).q (s.hs i + k))) s.left from rfl)
  generalize wantsP (L i) (s.hs i) s.left = cv at *
  generalize s.hs i = hv at *
  generalize (L i).q = qv at *
  generalize (L i).ag = gv at *
  generalize (L i).by' = yv at *
  generalize (L i).mn = mv at *
  generalize (L i).ow = ov at *
  generalize (L i).dl = dv at *
  generalize (L i).cl = kv at *
  generalize s.left = lv at *
  have i1 : (0 : Int) ≤ (i : Int) := by omega
  have i2 : (i : Int) < (n : Int) := by omega
  go_enter Try.func41, Try.ntmps41
  go_upto_region 2 with fail
  have hb1 : Below w.heap.size w (w.alloc (.cells #[.int .i64 qv, .int .i64 gv, .int .i64 yv, .int .i64 mv, .int .i64 ov, .int .i64 dv, .int .i64 kv] 41)) := blk _ _
  have e0 : (w.alloc (.cells #[.int .i64 qv, .int .i64 gv, .int .i64 yv, .int .i64 mv, .int .i64 ov, .int .i64 dv, .int .i64 kv] 41)).cell? ⟨w.heap.size, 0, none⟩ = some (.int .i64 qv) := by simp [go_sem]
  have e1 : (w.alloc (.cells #[.int .i64 qv, .int .i64 gv, .int .i64 yv, .int .i64 mv, .int .i64 ov, .int .i64 dv, .int .i64 kv] 41)).cell? ⟨w.heap.size, 1, none⟩ = some (.int .i64 gv) := by simp [go_sem]
  have e2 : (w.alloc (.cells #[.int .i64 qv, .int .i64 gv, .int .i64 yv, .int .i64 mv, .int .i64 ov, .int .i64 dv, .int .i64 kv] 41)).cell? ⟨w.heap.size, 2, none⟩ = some (.int .i64 yv) := by simp [go_sem]
  have t2' := up hb1 t2
  have t3' := up hb1 t3
  have d0' := up hb1 d0
  have K1 := Lib.hid fun W (hb : Below (w.alloc (.cells #[.int .i64 qv, .int .i64 gv, .int .i64 yv, .int .i64 mv, .int .i64 ov, .int .i64 dv, .int .i64 kv] 41)).heap.size (w.alloc (.cells #[.int .i64 qv, .int .i64 gv, .int .i64 yv, .int .i64 mv, .int .i64 ov, .int .i64 dv, .int .i64 kv] 41)) W) => K.out W (bthen' hb1 hb)
  have HB1 := Lib.hid hb1
  have zD : w.heap.size < (w.alloc (.cells #[.int .i64 qv, .int .i64 gv, .int .i64 yv, .int .i64 mv, .int .i64 ov, .int .i64 dv, .int .i64 kv] 41)).heap.size := lt_of_cell e0
  have zT := Nat.lt_of_lt_of_le lT hb1.size
  have zH := Nat.lt_of_lt_of_le lH hb1.size
  clear hb1 t0 t2 t3 d0 c0 c1 c2 c3 c4 c5 c6 K lT lH lb
  generalize (w.alloc (.cells #[.int .i64 qv, .int .i64 gv, .int .i64 yv, .int .i64 mv, .int .i64 ov, .int .i64 dv, .int .i64 kv] 41)) = w1 at *
  generalize hD : w.heap.size = D at *
  have HD := Lib.hid hD
  clear hD
  by_cases hg : 0 < gv
  · have q1 : decide (0 < gv) = true := by simp [hg]
    go_wp2_with fail
    refine wp_region_quiet_below (by kernel_rfl) (by kernel_rfl) ?_
    repeat (go_big_quiet_step (fail))
    refine wpQuiet_nil ?_
    intro w2 hw2
    have HB2 := Lib.hid (bthen HB1.out (below_of_regrown hw2) (Nat.le_of_lt zD))
    clear hw2
    go_wp2
    go_ret
    exact ⟨ret_int (by rw [HC.out, if_pos (.inl hg)]; rfl), by rw [HD.out]; exact HB2.out⟩
  · have q1 : decide (0 < gv) = false := by simp; omega
    generalize hB : bytes qv hv = B at *
    go_wp2_with fail
    refine wp_region_quiet_below (by kernel_rfl) (by kernel_rfl) ?_
    repeat (go_big_quiet_step (first | (go_at_call 52; exact Calls.regrown_of (K1.out _ (below_regrown _ _ _)))))
    refine wpQuiet_nil ?_
    intro w2 hw2
    have hb2 := below_of_regrown hw2
    have HB2 := Lib.hid (bthen HB1.out hb2 (Nat.le_of_lt zD))
    clear hw2
    by_cases hy : yv ≤ B
    · have q2 : decide (yv ≤ B) = true := by simp [hy]
      go_wp2
      go_ret
      exact ⟨ret_int (by rw [HC.out, if_pos (.inr hy)]; rfl), by rw [HD.out]; exact HB2.out⟩
    · have q2 : decide (yv ≤ B) = false := by simp; omega
      have HC2 := Lib.hid (show cv = firstK (fun k => decide (B < bytes qv (hv + k))) lv by rw [HC.out, if_neg (by omega)])
      have z0 := up hb2 e0
      have z1 := up hb2 t2'
      have z2 := up hb2 t3'
      have z3 := up hb2 d0'
      have K2 := Lib.hid fun W (hb : Below w2.heap.size w2 W) => K1.out W (bthen' hb2 hb)
      have yD := Nat.lt_of_lt_of_le zD hb2.size
      have yT := Nat.lt_of_lt_of_le zT hb2.size
      have yH := Nat.lt_of_lt_of_le zH hb2.size
      clear hb2 e0 e1 e2 t2' t3' d0' K1 HB1 zD zT zH HC q1 hg
      go_wp2_with fail
      go_loopw [6] (fun s6 wr => ∃ k : Nat, s6 = .int .i64 k ∧ 1 ≤ k ∧ k ≤ lv + 1 ∧ (∀ j : Nat, 1 ≤ j → j < k → decide (B < bytes qv (hv + j)) = false) ∧ Below w2.heap.size w2 wr) (fun s6 _ => lv + 1 - (intOf s6).toNat)
      case atStart => exact ⟨1, rfl, Nat.le_refl _, by omega, fun j a b => by omega, Below.refl _ _⟩
      case round =>
        obtain ⟨k, rfl, hk1, hk2, hf, hB⟩ := hrel
        have HF := Lib.hid hf
        have HB := Lib.hid hB
        clear hf
        by_cases hlt : k ≤ lv
        · have hlt' : (k : Int) ≤ (lv : Int) := by omega
          have T2 := up hB z1
          have T3 := up hB z2
          have C0 := up hB z0
          have D0 := up hB z3
          have LD := Nat.lt_of_lt_of_le yD hB.size
          have LT := Nat.lt_of_lt_of_le yT hB.size
          have LH := Nat.lt_of_lt_of_le yH hB.size
          have K3 := Lib.hid fun W (hb : Below wr.heap.size wr W) => K2.out W (bthen' hB hb)
          clear hB
          go_wp2_with fail
          refine wp_region_quiet_below (by kernel_rfl) (by kernel_rfl) ?_
          repeat (go_big_quiet_step (first | (go_at_call 53; exact Calls.regrown_of (bytes53 _ _ _)) | (go_at_call 52; exact Calls.regrown_of (K3.out _ (below_regrown _ _ _)))))
          refine wpQuiet_nil ?_
          intro w3 hw3
          have HB3 := Lib.hid (bthen' HB.out (below_of_regrown hw3))
          clear hw3
          by_cases hy2 : B < bytes qv (hv + k)
          · have q1 : decide (B < bytes qv (hv + k)) = true := by simp [hy2]
            go_wp2
            go_ret
            refine ⟨ret_int ?_, by rw [HD.out]; exact bthen HB2.out HB3.out (by omega)⟩
            rw [HC2.out, firstK_at hk1 hlt HF.out q1]
          · have q1 : decide (B < bytes qv (hv + k)) = false := by simp; omega
            go_wp2
            go_roundw
            case rel => exact ⟨k + 1, by go_num, by omega, by omega, fun j a b => by
              rcases Nat.lt_or_eq_of_le (Nat.le_of_lt_succ b) with h | rfl
              · exact HF.out j a h
              · exact q1, HB3.out⟩
            case measure => simp [intOf]; omega
        · have : k = lv + 1 := by omega
          subst this
          have T2 := up hB z1
          clear hB
          go_wp2
          go_ret
          refine ⟨ret_int ?_, by rw [HD.out]; exact bthen HB2.out HB.out (by omega)⟩
          rw [HC2.out, firstK_none.2 fun j a b => HF.out j a (by omega)]
          rfl
end
end Go.Proofs.Ytdcogbokcbpnnaa
