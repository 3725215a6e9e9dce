/- Layer 36: the program's Tick, walked: Call. -/
import Derived.Test.YtobmnajgbhgdlaaP8
namespace Go.Proofs.Ytobmnajgbhgdlaa
set_option linter.unusedVariables false
set_option linter.unusedSimpArgs false
open Go.RowKit Go.Sort
attribute [local go_sem] gcell
theorem own_base {w : World} {base base' e s n : Nat} {v : Value} {xs : List Value} (h : w.ownsRow base e s v n xs) (hb : base' ≤ base) : w.ownsRow base' e s v n xs := by
  obtain ⟨h1, h2 | ⟨g, cap, cur, k1, k2, k3⟩⟩ := h
  · exact ⟨h1, .inl h2⟩
  · exact ⟨h1, .inr ⟨g, cap, cur, k1, Nat.le_trans hb k2, k3⟩⟩
theorem own_loc {w : World} {base e s n c : Nat} {a : Option Addr} {xs : List Value} (h : w.ownsRow base e s (.slice a n c) n xs) {x : Addr} (hx : a = some x) : base ≤ x.block := (h.lt x.block (by rw [hx]; rfl)).1
theorem own_off {w : World} {base e s n z : Nat} {v : Value} {xs : List Value} (h : w.ownsRow base e s v n xs) (hz : z < base) : v.ownBlock ≠ some z := fun e => by have := (h.lt z e).1; omega
theorem pgl_pl (I S C : Nat → Int) (n : Nat) (x : Pg) {j : Nat} (h : j < n * 3) : pgl (pl I S C n ++ [x]) j = pf I S C j := by
  rw [pgl_keep _ _ (by rw [pl_len]; exact h)]
  obtain ⟨e1, e2, e3⟩ := pl_at I S C (show j / 3 < n by omega)
  unfold pgl pf
  rw [e1, e2, e3]
theorem pgl_plx (I S C : Nat → Int) (n : Nat) (i s c : Int) {j : Nat} (h : j < 3) : (#[.int .i64 i, .int .i64 s, .int .i64 c] : Array Value)[j]? = some (pgl (pl I S C n ++ [(i, s, c)]) (n * 3 + j)) := by
  have := pgl_new (pl I S C n) i s c h
  rw [pl_len] at this
  exact this
theorem pl_snoc_len (I S C : Nat → Int) (n : Nat) (x : Pg) : (pl I S C n ++ [x]).length = n + 1 := by rw [List.length_append, pl_len]; rfl
/-- A call that is taken. -/
theorem CallR.ok {cy mo tr id t : Int} {n base c1 : Nat} {I S C : Nat → Int} {w w' : World} {a1 : Option Addr} (hx : clE cy mo tr id t n I S C = 0) (h : w'.ownsRow base 54 3 (.slice a1 (n + 1) c1) (n + 1) ((List.range ((n + 1) * 3)).map (pgl (pl I S C n ++ [(id, t, 0)])))) (hb : Below w.heap.size w w') :
    CallR cy mo tr id t n I S C w (.returned (.tuple #[gv cy mo tr a1 (n + 1) c1, .int .i64 0])) w' := by
  obtain ⟨a', c', b, h1, h2, h3, h4⟩ := own_cellsK h
  cases h1
  refine ⟨pl I S C n ++ [(id, t, 0)], a1, c1, by unfold clO; rw [hx, if_pos rfl], by rw [hx, pl_snoc_len], by rw [pl_snoc_len]; exact ⟨h2, own_cap h⟩, fun e => ?_, by rw [pl_snoc_len]; exact R3.of_cells h4 fun h0 => (h3 h0).1, hb⟩
  rw [(h3 (by omega)).1] at e; cases e
set_option maxRecDepth 100000 in
set_option maxHeartbeats 8000000 in
theorem call7n (cy mo tr id t : Int) (a : Option Addr) (n c : Nat) (I S C : Nat → Int) (w : World) (H : R3 w a n I S C) (hc : n ≤ c) (hn : c ≤ 9223372036854775807) (h0 : a = none → n = 0) (hn1 : n ≤ 1000) :
    Calls Try.prog 7 #[gv cy mo tr a n c, .int .i64 id, .int .i64 t] w (CallN cy mo tr id t n I S C w) := by
  have hb0 : Below w.heap.size w ((w.alloc (.cells #[.int .i64 cy, .int .i64 mo, .int .i64 tr, .slice a n c] 25)).alloc (.cells #[.int .i64 0, .int .i64 0, .int .i64 0, .slice none 0 0] 25)) := ((Below.refl _ _).alloc (Nat.le_refl _) _).alloc (by simp) _
  have K0 := Lib.hid (clone20o cy mo tr _ a n c I S C hn1 h0 (H.mono hb0))
  have HB0 := Lib.hid hb0
  have HR := Lib.hid H
  have hz : ((w.alloc (.cells #[.int .i64 cy, .int .i64 mo, .int .i64 tr, .slice a n c] 25)).alloc (.cells #[.int .i64 0, .int .i64 0, .int .i64 0, .slice none 0 0] 25)).heap.size = w.heap.size + 2 := by simp
  clear H hb0
  unfold gv at *
  go_enter Try.func7, Try.ntmps7
  go_wp2_with fail
  refine K0.out.mono ?_
  rintro e w1 ⟨a', c', rfl, hown0, hb⟩
  obtain ⟨hca, b', hva0⟩ := own_vat hown0
  have hva : 0 < n → a' = some ⟨b', 0, none⟩ ∧ w.heap.size + 2 ≤ b' ∧ VAt w1 b' (n * 3) (pf I S C) := fun h => ⟨(hva0 h).1, by have := (hva0 h).2.1; omega, (hva0 h).2.2⟩
  have HOW := Lib.hid (own_base hown0 (show w.heap.size + 2 ≤ _ by omega))
  clear hown0
  clear hva0
  unfold gv at *
  have t0 := up hb (b := w.heap.size) (o := 0) (v := .int .i64 cy) (by simp [go_sem])
  have t1 := up hb (b := w.heap.size) (o := 1) (v := .int .i64 mo) (by simp [go_sem])
  have t2 := up hb (b := w.heap.size) (o := 2) (v := .int .i64 tr) (by simp [go_sem])
  have t3 := up hb (b := w.heap.size) (o := 3) (v := .slice a n c) (by simp [go_sem])
  have u0 := up hb (b := w.heap.size + 1) (o := 0) (v := .int .i64 0) (by simp [go_sem])
  have u1 := up hb (b := w.heap.size + 1) (o := 1) (v := .int .i64 0) (by simp [go_sem])
  have u2 := up hb (b := w.heap.size + 1) (o := 2) (v := .int .i64 0) (by simp [go_sem])
  have u3 := up hb (b := w.heap.size + 1) (o := 3) (v := .slice none 0 0) (by simp [go_sem])
  have v0 := upf hb (b := w.heap.size + 1) (o := 0) (by simp <;> omega) (by simp [go_sem])
  have v1 := upf hb (b := w.heap.size + 1) (o := 1) (by simp <;> omega) (by simp [go_sem])
  have v2 := upf hb (b := w.heap.size + 1) (o := 2) (by simp <;> omega) (by simp [go_sem])
  have v3 := upf hb (b := w.heap.size + 1) (o := 3) (by simp <;> omega) (by simp [go_sem])
  have hs1 : w.heap.size + 2 ≤ w1.heap.size := by have := hb.size; omega
  have HB1 := Lib.hid (bthen HB0.out hb (by omega))
  have r3 : R3 w1 a' n I S C := R3.of_vat (fun h => (hva h).1) (fun h => (hva h).2.2)
  have ha0 : a' = none → n = 0 := fun e => by
    rcases Nat.eq_zero_or_pos n with h | h
    · exact h
    · rw [(hva h).1] at e; cases e
  have R1 := Lib.hid r3
  have A0 := Lib.hid ha0
  have hv2 : 0 < n → w1.heap.size ≠ b' ∧ w.heap.size + 1 ≠ b' := fun h => by
    have h1 := (hva h).2.1
    have h2 := (hva h).2.2.lt
    omega
  have HV := Lib.hid hva
  have HV2 := Lib.hid hv2
  have herr : ∀ x, clE cy mo tr id t n I S C = x → x ≠ 0 → ∀ W, Below w.heap.size w W → R3 W a' n I S C → CallN cy mo tr id t n I S C w (.returned (.tuple #[.agg #[.int .i64 cy, .int .i64 mo, .int .i64 tr, .slice a' n c'], .int .i64 x])) W := fun x hx hx0 W hW r => (CallR.err hx hx0 hca A0.out r hW).n fun y hy => own_loc (own_base HOW.out (show w.heap.size ≤ w.heap.size + 2 by omega)) hy
  have HERR := Lib.hid herr
  clear hb K0 HB0 hz hva r3 ha0 herr hv2
  go_upto_region 2 with fail
  have hbn : Below w1.heap.size w1 (w1.alloc (.cells #[.int .i64 cy, .int .i64 mo, .int .i64 tr, .slice a' n c'] 25)) := blA _ _
  have e0 : (w1.alloc (.cells #[.int .i64 cy, .int .i64 mo, .int .i64 tr, .slice a' n c'] 25)).cell? ⟨w1.heap.size, 0, none⟩ = some (.int .i64 cy) := by simp [go_sem]
  have e1 : (w1.alloc (.cells #[.int .i64 cy, .int .i64 mo, .int .i64 tr, .slice a' n c'] 25)).cell? ⟨w1.heap.size, 1, none⟩ = some (.int .i64 mo) := by simp [go_sem]
  have e2 : (w1.alloc (.cells #[.int .i64 cy, .int .i64 mo, .int .i64 tr, .slice a' n c'] 25)).cell? ⟨w1.heap.size, 2, none⟩ = some (.int .i64 tr) := by simp [go_sem]
  have e3 : (w1.alloc (.cells #[.int .i64 cy, .int .i64 mo, .int .i64 tr, .slice a' n c'] 25)).cell? ⟨w1.heap.size, 3, none⟩ = some (.slice a' n c') := by simp [go_sem]
  have ef : (w1.alloc (.cells #[.int .i64 cy, .int .i64 mo, .int .i64 tr, .slice a' n c'] 25)).frozen? ⟨w1.heap.size, 3, none⟩ = false := by simp [go_sem]
  have hlt : w1.heap.size < (w1.alloc (.cells #[.int .i64 cy, .int .i64 mo, .int .i64 tr, .slice a' n c'] 25)).heap.size := by simp
  have HBN := Lib.hid hbn
  have K1 := Lib.hid (check21 cy mo tr a n c I S C _ (HR.out.mono (bthen' HB1.out hbn)) hc hn)
  replace t0 := up hbn t0
  replace t1 := up hbn t1
  replace t2 := up hbn t2
  replace t3 := up hbn t3
  replace u0 := up hbn u0
  replace u1 := up hbn u1
  replace u2 := up hbn u2
  replace u3 := up hbn u3
  replace v0 := upf hbn (by omega) v0
  replace v1 := upf hbn (by omega) v1
  replace v2 := upf hbn (by omega) v2
  replace v3 := upf hbn (by omega) v3
  clear hbn
  generalize (w1.alloc (.cells #[.int .i64 cy, .int .i64 mo, .int .i64 tr, .slice a' n c'] 25)) = w2 at *
  unfold gv at *
  go_wp2_with fail
  refine K1.out.mono ?_
  rintro e w3 ⟨rfl, hb⟩
  replace t0 := up hb t0
  replace t1 := up hb t1
  replace t2 := up hb t2
  replace t3 := up hb t3
  replace u0 := up hb u0
  replace u1 := up hb u1
  replace u2 := up hb u2
  replace u3 := up hb u3
  replace e0 := up hb e0
  replace e1 := up hb e1
  replace e2 := up hb e2
  replace e3 := up hb e3
  replace v0 := upf hb (by omega) v0
  replace v1 := upf hb (by omega) v1
  replace v2 := upf hb (by omega) v2
  replace v3 := upf hb (by omega) v3
  replace ef := upf hb hlt ef
  have HB3 := Lib.hid (bthen' HBN.out hb)
  have HBW := Lib.hid (bthen' HB1.out HB3.out)
  have hs3 : w1.heap.size < w3.heap.size := lt_of_cell e0
  clear hb K1 HBN
  by_cases hck : ckP cy mo tr n I S C = 0
  · have K2 := Lib.hid (ticks22 t w3)
    have HCK := Lib.hid hck
    rw [hck]
    clear hck
    by_cases b1 : id < 0
    · have HE := Lib.hid (show clE cy mo tr id t n I S C = 3 by unfold clE; rw [if_neg (by simp [HCK.out]), if_pos (show badC id t = true from decide_eq_true (by omega))])
      go_wp2_with (go_at_call 22; refine K2.out.mono ?_; rintro e wz ⟨rfl, rfl⟩)
      refine bodyPost_ret (v := .tuple #[.agg #[.int .i64 cy, .int .i64 mo, .int .i64 tr, .slice a' n c'], .int .i64 3]) (by simp [results, Try.results7, go_sem, cell_set, u0, u1, u2, u3]) rfl ?_
      exact HERR.out 3 HE.out (by decide) _ ((((HBW.out.setCell (p := ⟨w.heap.size + 1, 0, none⟩) (Nat.le_succ _) _).setCell (p := ⟨w.heap.size + 1, 1, none⟩) (Nat.le_succ _) _).setCell (p := ⟨w.heap.size + 1, 2, none⟩) (Nat.le_succ _) _).setCell (p := ⟨w.heap.size + 1, 3, none⟩) (Nat.le_succ _) _) (R3.of_vat (fun h => (HV.out h).1) fun h => ((((((HV.out h).2.2.mono HB3.out).far (HV2.out h).2).far (HV2.out h).2).far (HV2.out h).2).far (HV2.out h).2))
    · by_cases b2 : 65536 ≤ id
      · have HE := Lib.hid (show clE cy mo tr id t n I S C = 3 by unfold clE; rw [if_neg (by simp [HCK.out]), if_pos (show badC id t = true from decide_eq_true (by omega))])
        go_wp2_with (go_at_call 22; refine K2.out.mono ?_; rintro e wz ⟨rfl, rfl⟩)
        refine bodyPost_ret (v := .tuple #[.agg #[.int .i64 cy, .int .i64 mo, .int .i64 tr, .slice a' n c'], .int .i64 3]) (by simp [results, Try.results7, go_sem, cell_set, u0, u1, u2, u3]) rfl ?_
        exact HERR.out 3 HE.out (by decide) _ ((((HBW.out.setCell (p := ⟨w.heap.size + 1, 0, none⟩) (Nat.le_succ _) _).setCell (p := ⟨w.heap.size + 1, 1, none⟩) (Nat.le_succ _) _).setCell (p := ⟨w.heap.size + 1, 2, none⟩) (Nat.le_succ _) _).setCell (p := ⟨w.heap.size + 1, 3, none⟩) (Nat.le_succ _) _) (R3.of_vat (fun h => (HV.out h).1) fun h => ((((((HV.out h).2.2.mono HB3.out).far (HV2.out h).2).far (HV2.out h).2).far (HV2.out h).2).far (HV2.out h).2))
      · by_cases htk : tks t = true
        · rw [htk] at K2
          have b3 := of_decide_eq_true htk
          have HBAD := Lib.hid (show badC id t = false from decide_eq_false (by omega))
          have K3 := Lib.hid (find23 a n c I S C id w3 (HR.out.mono HBW.out) (by unfold maxLen; omega))
          clear htk
          by_cases g : 0 ≤ fi I id n
          · have HE := Lib.hid (show clE cy mo tr id t n I S C = 12 by unfold clE; rw [if_neg (by simp [HCK.out]), if_neg (by simp [HBAD.out]), if_pos (show hs I id n = true from decide_eq_true g)])
            go_wp2_with (first | (go_at_call 22; refine K2.out.mono ?_; rintro e wz ⟨rfl, rfl⟩) | (go_at_call 23; refine K3.out.mono ?_; rintro e w5 ⟨rfl, hb⟩; replace t0 := up hb t0; replace t1 := up hb t1; replace t2 := up hb t2; replace t3 := up hb t3; replace u0 := up hb u0; replace u1 := up hb u1; replace u2 := up hb u2; replace u3 := up hb u3; replace e0 := up hb e0; replace e1 := up hb e1; replace e2 := up hb e2; replace e3 := up hb e3; replace v0 := upf hb (by omega) v0; replace v1 := upf hb (by omega) v1; replace v2 := upf hb (by omega) v2; replace v3 := upf hb (by omega) v3; replace ef := upf hb (by omega) ef; have HB5 := Lib.hid (HB3.out.trans (hb.mono (by omega))); have HBV := Lib.hid (bthen HBW.out hb (by have := HBW.out.size; omega)); clear hb K3))
            refine bodyPost_ret (v := .tuple #[.agg #[.int .i64 cy, .int .i64 mo, .int .i64 tr, .slice a' n c'], .int .i64 12]) (by simp [results, Try.results7, go_sem, cell_set, u0, u1, u2, u3]) rfl ?_
            exact HERR.out 12 HE.out (by decide) _ ((((HBV.out.setCell (p := ⟨w.heap.size + 1, 0, none⟩) (Nat.le_succ _) _).setCell (p := ⟨w.heap.size + 1, 1, none⟩) (Nat.le_succ _) _).setCell (p := ⟨w.heap.size + 1, 2, none⟩) (Nat.le_succ _) _).setCell (p := ⟨w.heap.size + 1, 3, none⟩) (Nat.le_succ _) _) (R3.of_vat (fun h => (HV.out h).1) fun h => ((((((HV.out h).2.2.mono HB5.out).far (HV2.out h).2).far (HV2.out h).2).far (HV2.out h).2).far (HV2.out h).2))
          · have HNG := Lib.hid (show hs I id n = false from decide_eq_false g)
            by_cases g16 : n = 16
            · have HE := Lib.hid (show clE cy mo tr id t n I S C = 13 by unfold clE; rw [if_neg (by simp [HCK.out]), if_neg (by simp [HBAD.out]), if_neg (by simp [HNG.out]), if_pos g16])
              have HN := Lib.hid g16
              have g17 : ((n : Int) == 16) = true := beq_iff_eq.2 (by omega)
              clear g16
              go_wp2_with (first | (go_at_call 22; refine K2.out.mono ?_; rintro e wz ⟨rfl, rfl⟩) | (go_at_call 23; refine K3.out.mono ?_; rintro e w5 ⟨rfl, hb⟩; replace t0 := up hb t0; replace t1 := up hb t1; replace t2 := up hb t2; replace t3 := up hb t3; replace u0 := up hb u0; replace u1 := up hb u1; replace u2 := up hb u2; replace u3 := up hb u3; replace e0 := up hb e0; replace e1 := up hb e1; replace e2 := up hb e2; replace e3 := up hb e3; replace v0 := upf hb (by omega) v0; replace v1 := upf hb (by omega) v1; replace v2 := upf hb (by omega) v2; replace v3 := upf hb (by omega) v3; replace ef := upf hb (by omega) ef; have HB5 := Lib.hid (HB3.out.trans (hb.mono (by omega))); have HBV := Lib.hid (bthen HBW.out hb (by have := HBW.out.size; omega)); clear hb K3))
              refine bodyPost_ret (v := .tuple #[.agg #[.int .i64 cy, .int .i64 mo, .int .i64 tr, .slice a' n c'], .int .i64 13]) (by simp [results, Try.results7, go_sem, cell_set, u0, u1, u2, u3]) rfl ?_
              exact HERR.out 13 HE.out (by decide) _ ((((HBV.out.setCell (p := ⟨w.heap.size + 1, 0, none⟩) (Nat.le_succ _) _).setCell (p := ⟨w.heap.size + 1, 1, none⟩) (Nat.le_succ _) _).setCell (p := ⟨w.heap.size + 1, 2, none⟩) (Nat.le_succ _) _).setCell (p := ⟨w.heap.size + 1, 3, none⟩) (Nat.le_succ _) _) (R3.of_vat (fun h => (HV.out h).1) fun h => ((((((HV.out h).2.2.mono HB5.out).far (HV2.out h).2).far (HV2.out h).2).far (HV2.out h).2).far (HV2.out h).2))
            · have HE := Lib.hid (show clE cy mo tr id t n I S C = 0 by unfold clE; rw [if_neg (by simp [HCK.out]), if_neg (by simp [HBAD.out]), if_neg (by simp [HNG.out]), if_neg g16])
              have g17 : ((n : Int) == 16) = false := beq_eq_false_iff_ne.2 (by omega)
              have hn6 : n + 1 ≤ 1000000 := by omega
              have NE1 := Lib.hid (own_ne HOW.out (Nat.le_refl _))
              have NE2 := Lib.hid (own_off HOW.out (show w.heap.size + 1 < w.heap.size + 2 by omega))
              have HO3 := Lib.hid (own_base (own_keep HOW.out HB3.out) (show w.heap.size ≤ w.heap.size + 2 by omega))
              clear g16
              go_wp2_with (first | (go_at_call 22; refine K2.out.mono ?_; rintro e wz ⟨rfl, rfl⟩) | (go_at_call 23; refine K3.out.mono ?_; rintro e w5 ⟨rfl, hb⟩; replace t0 := up hb t0; replace t1 := up hb t1; replace t2 := up hb t2; replace t3 := up hb t3; replace u0 := up hb u0; replace u1 := up hb u1; replace u2 := up hb u2; replace u3 := up hb u3; replace e0 := up hb e0; replace e1 := up hb e1; replace e2 := up hb e2; replace e3 := up hb e3; replace v0 := upf hb (by omega) v0; replace v1 := upf hb (by omega) v1; replace v2 := upf hb (by omega) v2; replace v3 := upf hb (by omega) v3; replace ef := upf hb (by omega) ef; have HB5 := Lib.hid (HB3.out.trans (hb.mono (by omega))); have HBV := Lib.hid (bthen HBW.out hb (by have := HBW.out.size; omega)); have HO5 := Lib.hid (own_keep HO3.out hb); have HZ := Lib.hid (And.intro (lt_of_cell e0) (lt_of_cell u0)); clear hb K3) | (at_builtin; refine wpList_append_elem w5 w w.heap.size rfl (.tmp 45) (.tmp 49) 23 rfl 54 pz 3 24 Try.underlying23 pInfo rfl (by decide) (by decide) _ n (pf I S C) rfl #[.int .i64 id, .int .i64 t, .int .i64 0] rfl rfl (one3 _ _ _) (pgl (pl I S C n ++ [(id, t, 0)])) (fun j hj => pgl_pl I S C n _ hj) (fun j hj => pgl_plx I S C n id t 0 hj) HO5.out HBV.out HBV.out.size hn6 ?_; intro v' w6 hown hB6 hs6 hg6 ha6; obtain ⟨a4, c4, b4, rfl, -, -, -⟩ := own_cellsK hown; have j0 := far_cell hg6 NE1.out e0; have j1 := far_cell hg6 NE1.out e1; have j2 := far_cell hg6 NE1.out e2; have j3 := far_cell hg6 NE1.out e3; have jf := far_frozen hg6 NE1.out e3 ef; have k0 := far_cell hg6 NE2.out u0; have k1 := far_cell hg6 NE2.out u1; have k2 := far_cell hg6 NE2.out u2; have k3 := far_cell hg6 NE2.out u3; have y0 := far_frozen hg6 NE2.out u0 v0; have y1 := far_frozen hg6 NE2.out u1 v1; have y2 := far_frozen hg6 NE2.out u2 v2; have y3 := far_frozen hg6 NE2.out u3 v3; have MO := Lib.hid hown; have MB := Lib.hid hB6; have M1 := Lib.hid (ne_new NE1.out HZ.out.1 ha6); have M2 := Lib.hid (ne_new NE2.out HZ.out.2 ha6); clear hown hB6 hs6 hg6 ha6))
              refine bodyPost_ret (v := .tuple #[.agg #[.int .i64 cy, .int .i64 mo, .int .i64 tr, .slice a4 (n + 1) c4], .int .i64 0]) (by simp [results, Try.results7, go_sem, cell_set, k0, k1, k2, k3]) rfl ?_
              have hfin := fun (y : Addr) (hy : a4 = some y) => own_loc MO.out hy
              exact (CallR.ok HE.out (own_setn (own_setn (own_setn (own_setn (own_setn MO.out M1.out _) M2.out _) M2.out _) M2.out _) M2.out _) (((((MB.out.setCell (p := ⟨w1.heap.size, 3, none⟩) (show w.heap.size ≤ w1.heap.size by omega) _).setCell (p := ⟨w.heap.size + 1, 0, none⟩) (Nat.le_succ _) _).setCell (p := ⟨w.heap.size + 1, 1, none⟩) (Nat.le_succ _) _).setCell (p := ⟨w.heap.size + 1, 2, none⟩) (Nat.le_succ _) _).setCell (p := ⟨w.heap.size + 1, 3, none⟩) (Nat.le_succ _) _)).n fun y hy => hfin y hy
        · have htk' : tks t = false := by simpa using htk
          rw [htk'] at K2
          have b3 : ¬ (0 ≤ t ∧ t ≤ 1048576) := of_decide_eq_false htk'
          have HE := Lib.hid (show clE cy mo tr id t n I S C = 3 by unfold clE; rw [if_neg (by simp [HCK.out]), if_pos (show badC id t = true from decide_eq_true (by omega))])
          go_wp2_with (go_at_call 22; refine K2.out.mono ?_; rintro e wz ⟨rfl, rfl⟩)
          refine bodyPost_ret (v := .tuple #[.agg #[.int .i64 cy, .int .i64 mo, .int .i64 tr, .slice a' n c'], .int .i64 3]) (by simp [results, Try.results7, go_sem, cell_set, u0, u1, u2, u3]) rfl ?_
          exact HERR.out 3 HE.out (by decide) _ ((((HBW.out.setCell (p := ⟨w.heap.size + 1, 0, none⟩) (Nat.le_succ _) _).setCell (p := ⟨w.heap.size + 1, 1, none⟩) (Nat.le_succ _) _).setCell (p := ⟨w.heap.size + 1, 2, none⟩) (Nat.le_succ _) _).setCell (p := ⟨w.heap.size + 1, 3, none⟩) (Nat.le_succ _) _) (R3.of_vat (fun h => (HV.out h).1) fun h => ((((((HV.out h).2.2.mono HB3.out).far (HV2.out h).2).far (HV2.out h).2).far (HV2.out h).2).far (HV2.out h).2))
  · have q : (ckP cy mo tr n I S C == 0) = false := beq_eq_false_iff_ne.2 hck
    have q2 : (ckP cy mo tr n I S C != 0) = true := by rw [bne_iff_ne]; exact hck
    have HE := Lib.hid (show clE cy mo tr id t n I S C = ckP cy mo tr n I S C by unfold clE; rw [if_pos hck])
    have HNZ := Lib.hid hck
    generalize ckP cy mo tr n I S C = x at *
    clear hck
    go_wp2_with fail
    refine bodyPost_ret (v := .tuple #[.agg #[.int .i64 cy, .int .i64 mo, .int .i64 tr, .slice a' n c'], .int .i64 x]) (by simp [results, Try.results7, go_sem, cell_set, u0, u1, u2, u3]) rfl ?_
    exact HERR.out x HE.out HNZ.out _ ((((HBW.out.setCell (p := ⟨w.heap.size + 1, 0, none⟩) (Nat.le_succ _) _).setCell (p := ⟨w.heap.size + 1, 1, none⟩) (Nat.le_succ _) _).setCell (p := ⟨w.heap.size + 1, 2, none⟩) (Nat.le_succ _) _).setCell (p := ⟨w.heap.size + 1, 3, none⟩) (Nat.le_succ _) _) (R3.of_vat (fun h => (HV.out h).1) fun h => ((((((HV.out h).2.2.mono HB3.out).far (HV2.out h).2).far (HV2.out h).2).far (HV2.out h).2).far (HV2.out h).2))
theorem call7 (cy mo tr id t : Int) (a : Option Addr) (n c : Nat) (I S C : Nat → Int) (w : World) (H : R3 w a n I S C) (hc : n ≤ c) (hn : c ≤ 9223372036854775807) (h0 : a = none → n = 0) (hn1 : n ≤ 1000) :
    Calls Try.prog 7 #[gv cy mo tr a n c, .int .i64 id, .int .i64 t] w (CallR cy mo tr id t n I S C w) :=
  (call7n cy mo tr id t a n c I S C w H hc hn h0 hn1).mono fun _ _ h => h.r
end Go.Proofs.Ytobmnajgbhgdlaa
