/- Layer 36: the reference's Call, walked. -/
import Derived.Test.YtobmnajgbhgdlaaP9
import Derived.Test.YtobmnajgbhgdlaaCopyA
namespace Go.Proofs.Ytobmnajgbhgdlaa
set_option linter.unusedVariables false
set_option linter.unusedSimpArgs false
open Go.RowKit Go.Sort
attribute [local go_sem] gcell

set_option maxRecDepth 100000 in
set_option maxHeartbeats 8000000 in
theorem call16 (cy mo tr id t : Int) (a : Option Addr) (n c : Nat) (I S C : Nat → Int) (w : World) (H : R3 w a n I S C) (hc : n ≤ c) (hn : c ≤ 9223372036854775807) (h0 : a = none → n = 0) :
    Calls Try.prog 16 #[gv cy mo tr a n c, .int .i64 id, .int .i64 t] w (CallR cy mo tr id t n I S C w) := by
  have hb0 : Below w.heap.size w ((w.alloc (.cells #[.int .i64 cy, .int .i64 mo, .int .i64 tr, .slice a n c] 25)).alloc (.cells #[.int .i64 0, .int .i64 0, .int .i64 0, .slice none 0 0] 25)) := ((Below.refl _ _).alloc (Nat.le_refl _) _).alloc (by simp) _
  have K1 := Lib.hid (check26 cy mo tr a n c I S C _ (H.mono hb0) hc hn)
  have HB0 := Lib.hid hb0
  have HR := Lib.hid H
  have H0 := Lib.hid h0
  have hz : ((w.alloc (.cells #[.int .i64 cy, .int .i64 mo, .int .i64 tr, .slice a n c] 25)).alloc (.cells #[.int .i64 0, .int .i64 0, .int .i64 0, .slice none 0 0] 25)).heap.size = w.heap.size + 2 := by simp
  clear H hb0 h0
  unfold gv at *
  go_enter Try.func16, Try.ntmps16
  go_wp2_with fail
  refine K1.out.mono ?_
  rintro e w1 ⟨rfl, hb⟩
  have t0 := up hb (b := w.heap.size) (o := 0) (v := .int .i64 cy) (by simp [go_sem])
  have t1 := up hb (b := w.heap.size) (o := 1) (v := .int .i64 mo) (by simp [go_sem])
  have t2 := up hb (b := w.heap.size) (o := 2) (v := .int .i64 tr) (by simp [go_sem])
  have t3 := up hb (b := w.heap.size) (o := 3) (v := .slice a n c) (by simp [go_sem])
  have tf := upf hb (b := w.heap.size) (o := 3) (by simp <;> omega) (by simp [go_sem])
  have u0 := up hb (b := w.heap.size + 1) (o := 0) (v := .int .i64 0) (by simp [go_sem])
  have u1 := up hb (b := w.heap.size + 1) (o := 1) (v := .int .i64 0) (by simp [go_sem])
  have u2 := up hb (b := w.heap.size + 1) (o := 2) (v := .int .i64 0) (by simp [go_sem])
  have u3 := up hb (b := w.heap.size + 1) (o := 3) (v := .slice none 0 0) (by simp [go_sem])
  have v0 := upf hb (b := w.heap.size + 1) (o := 0) (by simp <;> omega) (by simp [go_sem])
  have v1 := upf hb (b := w.heap.size + 1) (o := 1) (by simp <;> omega) (by simp [go_sem])
  have v2 := upf hb (b := w.heap.size + 1) (o := 2) (by simp <;> omega) (by simp [go_sem])
  have v3 := upf hb (b := w.heap.size + 1) (o := 3) (by simp <;> omega) (by simp [go_sem])
  have hs1 : w.heap.size + 2 ≤ w1.heap.size := by have := hb.size; omega
  have HB1 := Lib.hid (bthen HB0.out hb (by omega))
  clear hb K1 HB0 hz
  have herr : ∀ x, clE cy mo tr id t n I S C = x → x ≠ 0 → ∀ W, Below w.heap.size w W → CallR cy mo tr id t n I S C w (.returned (.tuple #[.agg #[.int .i64 cy, .int .i64 mo, .int .i64 tr, .slice a n c], .int .i64 x])) W := fun x hx hx0 W hW => CallR.err hx hx0 ⟨hc, hn⟩ H0.out (HR.out.mono hW) hW
  have HERR := Lib.hid herr
  clear herr
  by_cases hck : ckP cy mo tr n I S C = 0
  · have HCK := Lib.hid hck
    have hn16 : n ≤ 16 := (ck_ok hck).2.1
    rw [hck]
    clear hck
    by_cases ba : id < 0
    · have HE := Lib.hid (show clE cy mo tr id t n I S C = 3 by unfold clE; rw [if_neg (by simp [HCK.out]), if_pos (show badC id t = true from decide_eq_true (by omega))])
      go_wp2_with fail
      refine bodyPost_ret (v := .tuple #[.agg #[.int .i64 cy, .int .i64 mo, .int .i64 tr, .slice a n c], .int .i64 3]) (by simp [results, Try.results16, go_sem, cell_set, u0, u1, u2, u3]) rfl ?_
      exact HERR.out 3 HE.out (by decide) _ ((((HB1.out.setCell (p := ⟨w.heap.size + 1, 0, none⟩) (Nat.le_succ _) _).setCell (p := ⟨w.heap.size + 1, 1, none⟩) (Nat.le_succ _) _).setCell (p := ⟨w.heap.size + 1, 2, none⟩) (Nat.le_succ _) _).setCell (p := ⟨w.heap.size + 1, 3, none⟩) (Nat.le_succ _) _)
    · skip
      by_cases bb : 65536 ≤ id
      · have HE := Lib.hid (show clE cy mo tr id t n I S C = 3 by unfold clE; rw [if_neg (by simp [HCK.out]), if_pos (show badC id t = true from decide_eq_true (by omega))])
        go_wp2_with fail
        refine bodyPost_ret (v := .tuple #[.agg #[.int .i64 cy, .int .i64 mo, .int .i64 tr, .slice a n c], .int .i64 3]) (by simp [results, Try.results16, go_sem, cell_set, u0, u1, u2, u3]) rfl ?_
        exact HERR.out 3 HE.out (by decide) _ ((((HB1.out.setCell (p := ⟨w.heap.size + 1, 0, none⟩) (Nat.le_succ _) _).setCell (p := ⟨w.heap.size + 1, 1, none⟩) (Nat.le_succ _) _).setCell (p := ⟨w.heap.size + 1, 2, none⟩) (Nat.le_succ _) _).setCell (p := ⟨w.heap.size + 1, 3, none⟩) (Nat.le_succ _) _)
      · skip
        by_cases bc : t < 0
        · have HE := Lib.hid (show clE cy mo tr id t n I S C = 3 by unfold clE; rw [if_neg (by simp [HCK.out]), if_pos (show badC id t = true from decide_eq_true (by omega))])
          go_wp2_with fail
          refine bodyPost_ret (v := .tuple #[.agg #[.int .i64 cy, .int .i64 mo, .int .i64 tr, .slice a n c], .int .i64 3]) (by simp [results, Try.results16, go_sem, cell_set, u0, u1, u2, u3]) rfl ?_
          exact HERR.out 3 HE.out (by decide) _ ((((HB1.out.setCell (p := ⟨w.heap.size + 1, 0, none⟩) (Nat.le_succ _) _).setCell (p := ⟨w.heap.size + 1, 1, none⟩) (Nat.le_succ _) _).setCell (p := ⟨w.heap.size + 1, 2, none⟩) (Nat.le_succ _) _).setCell (p := ⟨w.heap.size + 1, 3, none⟩) (Nat.le_succ _) _)
        · skip
          by_cases bd : 1048576 < t
          · have HE := Lib.hid (show clE cy mo tr id t n I S C = 3 by unfold clE; rw [if_neg (by simp [HCK.out]), if_pos (show badC id t = true from decide_eq_true (by omega))])
            go_wp2_with fail
            refine bodyPost_ret (v := .tuple #[.agg #[.int .i64 cy, .int .i64 mo, .int .i64 tr, .slice a n c], .int .i64 3]) (by simp [results, Try.results16, go_sem, cell_set, u0, u1, u2, u3]) rfl ?_
            exact HERR.out 3 HE.out (by decide) _ ((((HB1.out.setCell (p := ⟨w.heap.size + 1, 0, none⟩) (Nat.le_succ _) _).setCell (p := ⟨w.heap.size + 1, 1, none⟩) (Nat.le_succ _) _).setCell (p := ⟨w.heap.size + 1, 2, none⟩) (Nat.le_succ _) _).setCell (p := ⟨w.heap.size + 1, 3, none⟩) (Nat.le_succ _) _)
          · skip
            have HBAD := Lib.hid (show badC id t = false from decide_eq_false (by omega))
            have K3 := Lib.hid (has29 a n c I S C id w1 (HR.out.mono HB1.out) (by unfold maxLen; omega))
            by_cases g : hs I id n = true
            · have HE := Lib.hid (show clE cy mo tr id t n I S C = 12 by unfold clE; rw [if_neg (by simp [HCK.out]), if_neg (by simp [HBAD.out]), if_pos g])
              rw [g] at K3
              clear g
              go_wp2_with (go_at_call 29; refine K3.out.mono ?_; rintro e w5 ⟨rfl, hb⟩; replace t0 := up hb t0; replace t1 := up hb t1; replace t2 := up hb t2; replace t3 := up hb t3; replace u0 := up hb u0; replace u1 := up hb u1; replace u2 := up hb u2; replace u3 := up hb u3; replace v0 := upf hb (by omega) v0; replace v1 := upf hb (by omega) v1; replace v2 := upf hb (by omega) v2; replace v3 := upf hb (by omega) v3; replace tf := upf hb (by omega) tf; have HB5 := Lib.hid (bthen HB1.out hb (by omega)); clear hb K3)
              refine bodyPost_ret (v := .tuple #[.agg #[.int .i64 cy, .int .i64 mo, .int .i64 tr, .slice a n c], .int .i64 12]) (by simp [results, Try.results16, go_sem, cell_set, u0, u1, u2, u3]) rfl ?_
              exact HERR.out 12 HE.out (by decide) _ ((((HB5.out.setCell (p := ⟨w.heap.size + 1, 0, none⟩) (Nat.le_succ _) _).setCell (p := ⟨w.heap.size + 1, 1, none⟩) (Nat.le_succ _) _).setCell (p := ⟨w.heap.size + 1, 2, none⟩) (Nat.le_succ _) _).setCell (p := ⟨w.heap.size + 1, 3, none⟩) (Nat.le_succ _) _)
            · have g' : hs I id n = false := by simpa using g
              have HNG := Lib.hid g'
              rw [g'] at K3
              clear g g'
              by_cases g16 : n = 16
              · have HE := Lib.hid (show clE cy mo tr id t n I S C = 13 by unfold clE; rw [if_neg (by simp [HCK.out]), if_neg (by simp [HBAD.out]), if_neg (by simp [HNG.out]), if_pos g16])
                have g17 : ((n : Int) == 16) = true := beq_iff_eq.2 (by omega)
                clear g16
                go_wp2_with (go_at_call 29; refine K3.out.mono ?_; rintro e w5 ⟨rfl, hb⟩; replace t0 := up hb t0; replace t1 := up hb t1; replace t2 := up hb t2; replace t3 := up hb t3; replace u0 := up hb u0; replace u1 := up hb u1; replace u2 := up hb u2; replace u3 := up hb u3; replace v0 := upf hb (by omega) v0; replace v1 := upf hb (by omega) v1; replace v2 := upf hb (by omega) v2; replace v3 := upf hb (by omega) v3; replace tf := upf hb (by omega) tf; have HB5 := Lib.hid (bthen HB1.out hb (by omega)); clear hb K3)
                refine bodyPost_ret (v := .tuple #[.agg #[.int .i64 cy, .int .i64 mo, .int .i64 tr, .slice a n c], .int .i64 13]) (by simp [results, Try.results16, go_sem, cell_set, u0, u1, u2, u3]) rfl ?_
                exact HERR.out 13 HE.out (by decide) _ ((((HB5.out.setCell (p := ⟨w.heap.size + 1, 0, none⟩) (Nat.le_succ _) _).setCell (p := ⟨w.heap.size + 1, 1, none⟩) (Nat.le_succ _) _).setCell (p := ⟨w.heap.size + 1, 2, none⟩) (Nat.le_succ _) _).setCell (p := ⟨w.heap.size + 1, 3, none⟩) (Nat.le_succ _) _)
              · have HE := Lib.hid (show clE cy mo tr id t n I S C = 0 by unfold clE; rw [if_neg (by simp [HCK.out]), if_neg (by simp [HBAD.out]), if_neg (by simp [HNG.out]), if_neg g16])
                have g17 : ((n : Int) == 16) = false := beq_eq_false_iff_ne.2 (by omega)
                have hn6 : n + 1 ≤ 1000000 := by omega
                clear g16
                go_wp2_with (first | (go_at_call 29; refine K3.out.mono ?_; rintro e w5 ⟨rfl, hb⟩; replace t0 := up hb t0; replace t1 := up hb t1; replace t2 := up hb t2; replace t3 := up hb t3; replace u0 := up hb u0; replace u1 := up hb u1; replace u2 := up hb u2; replace u3 := up hb u3; replace v0 := upf hb (by omega) v0; replace v1 := upf hb (by omega) v1; replace v2 := upf hb (by omega) v2; replace v3 := upf hb (by omega) v3; replace tf := upf hb (by omega) tf; have HB5 := Lib.hid (bthen HB1.out hb (by omega)); have HR5 := Lib.hid (HR.out.mono HB5.out).rowK; have hs5 : w.heap.size + 2 ≤ w5.heap.size := lt_of_cell u0; have t3a := up (blA w5 (.cells #[] 54)) t3; clear hb K3) | (at_builtin; refine wpList_append_copyA w5 rfl (.tmp 43) (.tmp 45) 23 rfl 54 pz 3 24 Try.underlying23 pInfo rfl (by decide) (by decide) n c a H0.out (pf I S C) rfl rfl HR5.out (pf_one I S C) (by omega) ?_; intro v1' w6 hown hb6 hl6; replace t0 := up hb6 t0; replace t1 := up hb6 t1; replace t2 := up hb6 t2; replace t3 := up hb6 t3; replace u0 := up hb6 u0; replace u1 := up hb6 u1; replace u2 := up hb6 u2; replace u3 := up hb6 u3; replace v0 := upf hb6 (by omega) v0; replace v1 := upf hb6 (by omega) v1; replace v2 := upf hb6 (by omega) v2; replace v3 := upf hb6 (by omega) v3; replace tf := upf hb6 (by omega) tf; have HB6 := Lib.hid (bthen HB5.out hb6 (by omega)); have HO6 := Lib.hid (own_base hown (show w.heap.size + 2 ≤ w5.heap.size by omega)); obtain ⟨a3, c3, b3, rfl, -, -, -⟩ := own_cellsK hown; clear hown hb6 hl6) | (at_builtin; refine wpList_append_elem w6 w w.heap.size rfl (.tmp 46) (.tmp 50) 23 rfl 54 pz 3 24 Try.underlying23 pInfo rfl (by decide) (by decide) _ n (pf I S C) rfl #[.int .i64 id, .int .i64 t, .int .i64 0] rfl rfl (one3 _ _ _) (pgl (pl I S C n ++ [(id, t, 0)])) (fun j hj => pgl_pl I S C n _ hj) (fun j hj => pgl_plx I S C n id t 0 hj) (own_base HO6.out (show w.heap.size ≤ w.heap.size + 2 by omega)) HB6.out HB6.out.size hn6 ?_; intro v' w7 hown hB7 hs7 hg7 ha7; have NE1 := Lib.hid (own_off HO6.out (show w.heap.size < w.heap.size + 2 by omega)); have NE2 := Lib.hid (own_off HO6.out (show w.heap.size + 1 < w.heap.size + 2 by omega)); obtain ⟨a4, c4, b4, rfl, -, -, -⟩ := own_cellsK hown; have j0 := far_cell hg7 NE1.out t0; have j1 := far_cell hg7 NE1.out t1; have j2 := far_cell hg7 NE1.out t2; have j3 := far_cell hg7 NE1.out t3; have jf := far_frozen hg7 NE1.out t3 tf; have k0 := far_cell hg7 NE2.out u0; have k1 := far_cell hg7 NE2.out u1; have k2 := far_cell hg7 NE2.out u2; have k3 := far_cell hg7 NE2.out u3; have y0 := far_frozen hg7 NE2.out u0 v0; have y1 := far_frozen hg7 NE2.out u1 v1; have y2 := far_frozen hg7 NE2.out u2 v2; have y3 := far_frozen hg7 NE2.out u3 v3; have MO := Lib.hid hown; have MB := Lib.hid hB7; have M1 := Lib.hid (ne_new NE1.out (lt_of_cell t0) ha7); have M2 := Lib.hid (ne_new NE2.out (lt_of_cell u0) ha7); clear hown hB7 hs7 hg7 ha7))
                refine bodyPost_ret (v := .tuple #[.agg #[.int .i64 cy, .int .i64 mo, .int .i64 tr, .slice a4 (n + 1) c4], .int .i64 0]) (by simp [results, Try.results16, go_sem, cell_set, k0, k1, k2, k3]) rfl ?_
                exact CallR.ok HE.out (own_setn (own_setn (own_setn (own_setn (own_setn MO.out M1.out _) M2.out _) M2.out _) M2.out _) M2.out _) (((((MB.out.setCell (p := ⟨w.heap.size, 3, none⟩) (Nat.le_refl _) _).setCell (p := ⟨w.heap.size + 1, 0, none⟩) (Nat.le_succ _) _).setCell (p := ⟨w.heap.size + 1, 1, none⟩) (Nat.le_succ _) _).setCell (p := ⟨w.heap.size + 1, 2, none⟩) (Nat.le_succ _) _).setCell (p := ⟨w.heap.size + 1, 3, none⟩) (Nat.le_succ _) _)
  · have q : (ckP cy mo tr n I S C == 0) = false := beq_eq_false_iff_ne.2 hck
    have q2 : (ckP cy mo tr n I S C != 0) = true := by rw [bne_iff_ne]; exact hck
    have HE := Lib.hid (show clE cy mo tr id t n I S C = ckP cy mo tr n I S C by unfold clE; rw [if_pos hck])
    have HNZ := Lib.hid hck
    generalize ckP cy mo tr n I S C = x at *
    clear hck
    go_wp2_with fail
    refine bodyPost_ret (v := .tuple #[.agg #[.int .i64 cy, .int .i64 mo, .int .i64 tr, .slice a n c], .int .i64 x]) (by simp [results, Try.results16, go_sem, cell_set, u0, u1, u2, u3]) rfl ?_
    exact HERR.out x HE.out HNZ.out _ ((((HB1.out.setCell (p := ⟨w.heap.size + 1, 0, none⟩) (Nat.le_succ _) _).setCell (p := ⟨w.heap.size + 1, 1, none⟩) (Nat.le_succ _) _).setCell (p := ⟨w.heap.size + 1, 2, none⟩) (Nat.le_succ _) _).setCell (p := ⟨w.heap.size + 1, 3, none⟩) (Nat.le_succ _) _)
end Go.Proofs.Ytobmnajgbhgdlaa
