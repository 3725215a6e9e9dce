/- Layer 36: Answer, both. -/
import Derived.Test.YtobmnajgbhgdlaaP11
namespace Go.Proofs.Ytobmnajgbhgdlaa
set_option linter.unusedVariables false
set_option linter.unusedSimpArgs false
open Go.RowKit Go.Sort
attribute [local go_sem] gcell

/-- Is the answer one that is waited for? -/
def anOk (cy mo tr id : Int) (n : Nat) (I S C : Nat → Int) : Bool := decide (ckP cy mo tr n I S C = 0) && hs I id n
/-- The pages of others. -/
def fl (I S C : Nat → Int) (id : Int) : Nat → List Pg
  | 0 => []
  | k + 1 => if I k = id then fl I S C id k else fl I S C id k ++ [(I k, S k, C k)]
theorem fl_len (I S C : Nat → Int) (id : Int) : ∀ k, (fl I S C id k).length ≤ k
  | 0 => Nat.le_refl _
  | k + 1 => by
    have := fl_len I S C id k
    unfold fl
    split
    · omega
    · rw [List.length_append, List.length_singleton]; omega
theorem pl_succ (I S C : Nat → Int) (n : Nat) : pl I S C (n + 1) = pl I S C n ++ [(I n, S n, C n)] := by unfold pl; rw [List.range_succ, List.map_append]; rfl
theorem fl_all {I S C : Nat → Int} {id : Int} : ∀ {n : Nat}, (∀ k, k < n → I k ≠ id) → fl I S C id n = pl I S C n
  | 0, _ => rfl
  | n + 1, h => by
    unfold fl
    rw [if_neg (h n (by omega)), fl_all fun k hk => h k (by omega), pl_succ]
theorem pl_congr {I S C I' S' C' : Nat → Int} {n : Nat} (h : ∀ k, k < n → I' k = I k ∧ S' k = S k ∧ C' k = C k) : pl I' S' C' n = pl I S C n :=
  List.map_congr_left fun k hk => by
    obtain ⟨e1, e2, e3⟩ := h k (List.mem_range.1 hk)
    rw [e1, e2, e3]
theorem fl_one {I S C : Nat → Int} {id : Int} {i : Nat} (hi : I i = id) : ∀ {n : Nat}, i < n → (∀ k, k < n → k ≠ i → I k ≠ id) → fl I S C id n = pl (sh i I) (sh i S) (sh i C) (n - 1)
  | 0, h, _ => absurd h (Nat.not_lt_zero _)
  | n + 1, h, hu => by
    unfold fl
    by_cases e : n = i
    · subst e
      rw [if_pos hi, fl_all fun k hk => hu k (by omega) (by omega)]
      exact (pl_congr fun k hk => ⟨if_pos (by omega), if_pos (by omega), if_pos (by omega)⟩).symm
    · rw [if_neg (hu n (by omega) e), fl_one hi (by omega) fun k hk hk2 => hu k (by omega) hk2]
      obtain ⟨m, rfl⟩ : ∃ m, n = m + 1 := ⟨n - 1, by omega⟩
      show pl _ _ _ m ++ _ = pl _ _ _ (m + 1)
      rw [pl_succ]
      unfold sh
      rw [if_neg (by omega), if_neg (by omega), if_neg (by omega)]
theorem ck_uniq {cy mo tr : Int} {n : Nat} {I S C : Nat → Int} (h : ckP cy mo tr n I S C = 0) {j k : Nat} (hk : k < n) (hj : j < k) : I j ≠ I k := by
  unfold ckP at h
  split at h
  · cases h
  · split at h
    · cases h
    · split at h
      · cases h
      · rename_i h3
        have hb : badP tr I S C k = false := by
          cases hb : badP tr I S C k with
          | false => rfl
          | true => exact absurd (anyB_true hk hb) h3
        unfold badP at hb
        simp only [Bool.or_eq_false_iff] at hb
        have h4 := of_decide_eq_false hb.2
        intro e
        exact h4 (by rcases fi_spec I (I k) k with ⟨_, g⟩ | ⟨i, g, _⟩
                     · exact absurd e (g j hj)
                     · rw [g]; omega)
/-- What is left behind an answer. -/
def anO (cy mo tr id : Int) (n : Nat) (I S C : Nat → Int) : List Pg := if anOk cy mo tr id n I S C = true then fl I S C id n else pl I S C n
def AnswerR (cy mo tr id : Int) (n : Nat) (I S C : Nat → Int) (w : World) (e : Ending) (w' : World) : Prop :=
  ∃ (P : List Pg) (a1 : Option Addr) (c1 : Nat), P = anO cy mo tr id n I S C ∧ e = .returned (.tuple #[gv cy mo tr a1 P.length c1, .bool (anOk cy mo tr id n I S C)]) ∧
    CapOk P.length c1 ∧ (a1 = none → P.length = 0) ∧ R3 w' a1 P.length (pI P) (pS P) (pC P) ∧ Below w.heap.size w w'
theorem AnswerR.err {cy mo tr id : Int} {n c1 : Nat} {I S C : Nat → Int} {w w' : World} {a1 : Option Addr} (hx : anOk cy mo tr id n I S C = false) (hc : CapOk n c1) (h0 : a1 = none → n = 0) (r : R3 w' a1 n I S C) (hb : Below w.heap.size w w') :
    AnswerR cy mo tr id n I S C w (.returned (.tuple #[gv cy mo tr a1 n c1, .bool false])) w' :=
  ⟨pl I S C n, a1, c1, by unfold anO; rw [hx, if_neg (by simp)], by rw [hx, pl_len], by rw [pl_len]; exact hc, by rw [pl_len]; exact h0, by rw [pl_len]; exact r.congr fun k hk => pl_at I S C hk, hb⟩
theorem AnswerR.ok {cy mo tr id : Int} {n m c1 : Nat} {I S C I' S' C' : Nat → Int} {w w' : World} {a1 : Option Addr} (hx : anOk cy mo tr id n I S C = true) (he : fl I S C id n = pl I' S' C' m) (hc : CapOk m c1) (h0 : a1 = none → m = 0) (r : R3 w' a1 m I' S' C') (hb : Below w.heap.size w w') :
    AnswerR cy mo tr id n I S C w (.returned (.tuple #[gv cy mo tr a1 m c1, .bool true])) w' :=
  ⟨pl I' S' C' m, a1, c1, by unfold anO; rw [hx, if_pos rfl, he], by rw [hx, pl_len], by rw [pl_len]; exact hc, by rw [pl_len]; exact h0, by rw [pl_len]; exact r.congr fun k hk => pl_at I' S' C' hk, hb⟩
set_option maxRecDepth 100000 in
set_option maxHeartbeats 8000000 in
theorem answer18 (cy mo tr id : Int) (a : Option Addr) (n c : Nat) (I S C : Nat → Int) (w : World) (H : R3 w a n I S C) (hc : n ≤ c) (hn : c ≤ 9223372036854775807) (h0 : a = none → n = 0) (hn1 : n ≤ 1000) :
    Calls Try.prog 18 #[gv cy mo tr a n c, .int .i64 id] w (AnswerR cy mo tr id n I S C w) := by
  have hb0 : Below w.heap.size w ((w.alloc (.cells #[.int .i64 cy, .int .i64 mo, .int .i64 tr, .slice a n c] 25)).alloc (.cells #[.int .i64 0, .int .i64 0, .int .i64 0, .slice none 0 0] 25)) := ((Below.refl _ _).alloc (Nat.le_refl _) _).alloc (by simp) _
  have K0 := Lib.hid (clone20o cy mo tr _ a n c I S C hn1 h0 (H.mono hb0))
  have HB0 := Lib.hid hb0
  have HR := Lib.hid H
  have hz : ((w.alloc (.cells #[.int .i64 cy, .int .i64 mo, .int .i64 tr, .slice a n c] 25)).alloc (.cells #[.int .i64 0, .int .i64 0, .int .i64 0, .slice none 0 0] 25)).heap.size = w.heap.size + 2 := by simp
  clear H hb0
  unfold gv at *
  go_enter Try.func18, Try.ntmps18
  go_wp2_with fail
  refine K0.out.mono ?_
  rintro e w1 ⟨a', c', rfl, hown0, hb⟩
  obtain ⟨hca, b', hva0⟩ := own_vat hown0
  have hva : 0 < n → a' = some ⟨b', 0, none⟩ ∧ w.heap.size + 2 ≤ b' ∧ VAt w1 b' (n * 3) (pf I S C) := fun h => ⟨(hva0 h).1, by have := (hva0 h).2.1; omega, (hva0 h).2.2⟩
  have HOW := Lib.hid (own_base hown0 (show w.heap.size + 2 ≤ _ by omega))
  clear hown0
  clear hva0
  unfold gv at *
  have t0 := up hb (b := w.heap.size) (o := 0) (v := .int .i64 cy) (by simp [go_sem])
  have t1 := up hb (b := w.heap.size) (o := 1) (v := .int .i64 mo) (by simp [go_sem])
  have t2 := up hb (b := w.heap.size) (o := 2) (v := .int .i64 tr) (by simp [go_sem])
  have t3 := up hb (b := w.heap.size) (o := 3) (v := .slice a n c) (by simp [go_sem])
  have u0 := up hb (b := w.heap.size + 1) (o := 0) (v := .int .i64 0) (by simp [go_sem])
  have u1 := up hb (b := w.heap.size + 1) (o := 1) (v := .int .i64 0) (by simp [go_sem])
  have u2 := up hb (b := w.heap.size + 1) (o := 2) (v := .int .i64 0) (by simp [go_sem])
  have u3 := up hb (b := w.heap.size + 1) (o := 3) (v := .slice none 0 0) (by simp [go_sem])
  have v0 := upf hb (b := w.heap.size + 1) (o := 0) (by simp <;> omega) (by simp [go_sem])
  have v1 := upf hb (b := w.heap.size + 1) (o := 1) (by simp <;> omega) (by simp [go_sem])
  have v2 := upf hb (b := w.heap.size + 1) (o := 2) (by simp <;> omega) (by simp [go_sem])
  have v3 := upf hb (b := w.heap.size + 1) (o := 3) (by simp <;> omega) (by simp [go_sem])
  have hs1 : w.heap.size + 2 ≤ w1.heap.size := by have := hb.size; omega
  have HB1 := Lib.hid (bthen HB0.out hb (by omega))
  have r3 : R3 w1 a' n I S C := R3.of_vat (fun h => (hva h).1) (fun h => (hva h).2.2)
  have ha0 : a' = none → n = 0 := fun e => by
    rcases Nat.eq_zero_or_pos n with h | h
    · exact h
    · rw [(hva h).1] at e; cases e
  have R1 := Lib.hid r3
  have A0 := Lib.hid ha0
  have hv2 : 0 < n → w1.heap.size ≠ b' ∧ w.heap.size + 1 ≠ b' := fun h => by
    have h1 := (hva h).2.1
    have h2 := (hva h).2.2.lt
    omega
  have HV := Lib.hid hva
  have HV2 := Lib.hid hv2
  have herr : anOk cy mo tr id n I S C = false → ∀ W, Below w.heap.size w W → R3 W a' n I S C → AnswerR cy mo tr id n I S C w (.returned (.tuple #[.agg #[.int .i64 cy, .int .i64 mo, .int .i64 tr, .slice a' n c'], .bool false])) W := fun hx W hW r => AnswerR.err hx hca A0.out r hW
  have HERR := Lib.hid herr
  clear hb K0 HB0 hz hva r3 ha0 herr hv2
  go_upto_region 2 with fail
  have hbn : Below w1.heap.size w1 (w1.alloc (.cells #[.int .i64 cy, .int .i64 mo, .int .i64 tr, .slice a' n c'] 25)) := blA _ _
  have e0 : (w1.alloc (.cells #[.int .i64 cy, .int .i64 mo, .int .i64 tr, .slice a' n c'] 25)).cell? ⟨w1.heap.size, 0, none⟩ = some (.int .i64 cy) := by simp [go_sem]
  have e1 : (w1.alloc (.cells #[.int .i64 cy, .int .i64 mo, .int .i64 tr, .slice a' n c'] 25)).cell? ⟨w1.heap.size, 1, none⟩ = some (.int .i64 mo) := by simp [go_sem]
  have e2 : (w1.alloc (.cells #[.int .i64 cy, .int .i64 mo, .int .i64 tr, .slice a' n c'] 25)).cell? ⟨w1.heap.size, 2, none⟩ = some (.int .i64 tr) := by simp [go_sem]
  have e3 : (w1.alloc (.cells #[.int .i64 cy, .int .i64 mo, .int .i64 tr, .slice a' n c'] 25)).cell? ⟨w1.heap.size, 3, none⟩ = some (.slice a' n c') := by simp [go_sem]
  have ef : (w1.alloc (.cells #[.int .i64 cy, .int .i64 mo, .int .i64 tr, .slice a' n c'] 25)).frozen? ⟨w1.heap.size, 3, none⟩ = false := by simp [go_sem]
  have hlt : w1.heap.size < (w1.alloc (.cells #[.int .i64 cy, .int .i64 mo, .int .i64 tr, .slice a' n c'] 25)).heap.size := by simp
  have HBN := Lib.hid hbn
  have K1 := Lib.hid (find23 a n c I S C id _ (HR.out.mono (bthen' HB1.out hbn)) (by unfold maxLen; omega))
  replace t0 := up hbn t0
  replace t1 := up hbn t1
  replace t2 := up hbn t2
  replace t3 := up hbn t3
  replace u0 := up hbn u0
  replace u1 := up hbn u1
  replace u2 := up hbn u2
  replace u3 := up hbn u3
  replace v0 := upf hbn (by omega) v0
  replace v1 := upf hbn (by omega) v1
  replace v2 := upf hbn (by omega) v2
  replace v3 := upf hbn (by omega) v3
  clear hbn
  generalize (w1.alloc (.cells #[.int .i64 cy, .int .i64 mo, .int .i64 tr, .slice a' n c'] 25)) = w2 at *
  unfold gv at *
  go_wp2_with fail
  refine K1.out.mono ?_
  rintro e w3 ⟨rfl, hb⟩
  replace t0 := up hb t0
  replace t1 := up hb t1
  replace t2 := up hb t2
  replace t3 := up hb t3
  replace u0 := up hb u0
  replace u1 := up hb u1
  replace u2 := up hb u2
  replace u3 := up hb u3
  replace v0 := upf hb (by omega) v0
  replace v1 := upf hb (by omega) v1
  replace v2 := upf hb (by omega) v2
  replace v3 := upf hb (by omega) v3
  replace e0 := up hb e0
  replace e1 := up hb e1
  replace e2 := up hb e2
  replace e3 := up hb e3
  replace ef := upf hb hlt ef
  have HB3 := Lib.hid (bthen' HBN.out hb)
  have HBW := Lib.hid (bthen' HB1.out HB3.out)
  have hs3 : w1.heap.size < w3.heap.size := lt_of_cell e0
  clear hb K1 HBN
  have K2 := Lib.hid (check21 cy mo tr a n c I S C w3 (HR.out.mono HBW.out) hc hn)
  have hcx : ckP cy mo tr n I S C = 0 ∨ ckP cy mo tr n I S C ≠ 0 := by omega
  have hfi : fi I id n < 0 ∨ 0 ≤ fi I id n := by omega
  have HFI := Lib.hid hfi
  have HCX := Lib.hid hcx
  have HE := Lib.hid (show anOk cy mo tr id n I S C = (decide (ckP cy mo tr n I S C = 0) && hs I id n) from rfl)
  have HS := Lib.hid (show hs I id n = decide (0 ≤ fi I id n) from rfl)
  clear hfi hcx
  unfold gv at *
  have HUQ := Lib.hid fun (h : ckP cy mo tr n I S C = 0) (i : Nat) (hi : i < n) (he : I i = id) => fl_one (S := S) (C := C) he hi fun k hk hne e => by
    rcases Nat.lt_or_gt_of_ne hne with h1 | h1
    · exact ck_uniq h hi h1 (e.trans he.symm)
    · exact ck_uniq h hk h1 (he.trans e.symm)
  rcases HCX.out with hck | hck
  · rw [hck] at K2
    rcases HFI.out with g | g
    · have HF := Lib.hid (show anOk cy mo tr id n I S C = false by rw [HE.out, HS.out, decide_eq_false (show ¬ 0 ≤ fi I id n by omega), Bool.and_false])
      clear hck
      go_wp2_with (go_at_call 21; refine K2.out.mono ?_; rintro e w5 ⟨rfl, hb⟩; replace t0 := up hb t0; replace t1 := up hb t1; replace t2 := up hb t2; replace t3 := up hb t3; replace u0 := up hb u0; replace u1 := up hb u1; replace u2 := up hb u2; replace u3 := up hb u3; replace v0 := upf hb (by omega) v0; replace v1 := upf hb (by omega) v1; replace v2 := upf hb (by omega) v2; replace v3 := upf hb (by omega) v3; replace e0 := up hb e0; replace e1 := up hb e1; replace e2 := up hb e2; replace e3 := up hb e3; replace ef := upf hb (by omega) ef; have HB5 := Lib.hid (HB3.out.trans (hb.mono (by omega))); have HBV := Lib.hid (bthen HBW.out hb (by have := HBW.out.size; omega)); clear hb K2)
      refine bodyPost_ret (v := .tuple #[.agg #[.int .i64 cy, .int .i64 mo, .int .i64 tr, .slice a' n c'], .bool false]) (by simp [results, Try.results18, go_sem, cell_set, u0, u1, u2, u3]) rfl ?_
      exact HERR.out HF.out _ ((((HBV.out.setCell (p := ⟨w.heap.size + 1, 0, none⟩) (Nat.le_succ _) _).setCell (p := ⟨w.heap.size + 1, 1, none⟩) (Nat.le_succ _) _).setCell (p := ⟨w.heap.size + 1, 2, none⟩) (Nat.le_succ _) _).setCell (p := ⟨w.heap.size + 1, 3, none⟩) (Nat.le_succ _) _) (R3.of_vat (fun h => (HV.out h).1) fun h => ((((((HV.out h).2.2.mono HB5.out).far (HV2.out h).2).far (HV2.out h).2).far (HV2.out h).2).far (HV2.out h).2))
    · have HF := Lib.hid (show anOk cy mo tr id n I S C = true by rw [HE.out, HS.out, decide_eq_true g, decide_eq_true hck]; rfl)
      obtain ⟨i, h1, h2, h3, -⟩ : ∃ j : Nat, fi I id n = j ∧ j < n ∧ I j = id ∧ ∀ k, k < j → I k ≠ id := by
        rcases fi_spec I id n with ⟨h1, _⟩ | h
        · omega
        · exact h
      have HFL := Lib.hid (HUQ.out hck i h2 h3)
      obtain ⟨k1, k2, k3⟩ := HV.out (by omega)
      obtain rfl := k1
      have hcm : c' ≤ 9223372036854775807 := own_cap HOW.out
      have NE1 := Lib.hid (own_ne HOW.out (Nat.le_refl _))
      have NE2 := Lib.hid (own_off HOW.out (show w.heap.size + 1 < w.heap.size + 2 by omega))
      have KD := Lib.hid fun (W : World) (h : Below w1.heap.size w1 W) => delete30 W b' n c' i I S C (k3.mono h) h2 hca.1 hcm
      have HIN := Lib.hid h2
      have g17 : decide ((i : Int) < 0) = false := decide_eq_false (by omega)
      have i0 : (0 : Int) ≤ (i : Int) := by omega
      have i1 : (i : Int) + 1 ≤ 9223372036854775807 := by omega
      rw [h1]
      clear hck g h1 h3 k3
      go_wp2_with (first | (go_at_call 21; refine K2.out.mono ?_; rintro e w5 ⟨rfl, hb⟩; replace t0 := up hb t0; replace t1 := up hb t1; replace t2 := up hb t2; replace t3 := up hb t3; replace u0 := up hb u0; replace u1 := up hb u1; replace u2 := up hb u2; replace u3 := up hb u3; replace v0 := upf hb (by omega) v0; replace v1 := upf hb (by omega) v1; replace v2 := upf hb (by omega) v2; replace v3 := upf hb (by omega) v3; replace e0 := up hb e0; replace e1 := up hb e1; replace e2 := up hb e2; replace e3 := up hb e3; replace ef := upf hb (by omega) ef; have HB5 := Lib.hid (HB3.out.trans (hb.mono (by omega))); have HBV := Lib.hid (bthen HBW.out hb (by have := HBW.out.size; omega)); clear hb K2) | (go_at_call 30; refine (KD.out _ HB5.out).mono ?_; rintro e w6 ⟨rfl, hQ, hg⟩; have j0 := far_cell (v := .slice (some ⟨b', 0, none⟩) n c') hg NE1.out e0; have j1 := far_cell (v := .slice (some ⟨b', 0, none⟩) n c') hg NE1.out e1; have j2 := far_cell (v := .slice (some ⟨b', 0, none⟩) n c') hg NE1.out e2; have j3 := far_cell (v := .slice (some ⟨b', 0, none⟩) n c') hg NE1.out e3; have jf := far_frozen (v := .slice (some ⟨b', 0, none⟩) n c') hg NE1.out e3 ef; have y0 := far_cell (v := .slice (some ⟨b', 0, none⟩) n c') hg NE2.out u0; have y1 := far_cell (v := .slice (some ⟨b', 0, none⟩) n c') hg NE2.out u1; have y2 := far_cell (v := .slice (some ⟨b', 0, none⟩) n c') hg NE2.out u2; have y3 := far_cell (v := .slice (some ⟨b', 0, none⟩) n c') hg NE2.out u3; have z0 := far_frozen (v := .slice (some ⟨b', 0, none⟩) n c') hg NE2.out u0 v0; have z1 := far_frozen (v := .slice (some ⟨b', 0, none⟩) n c') hg NE2.out u1 v1; have z2 := far_frozen (v := .slice (some ⟨b', 0, none⟩) n c') hg NE2.out u2 v2; have z3 := far_frozen (v := .slice (some ⟨b', 0, none⟩) n c') hg NE2.out u3 v3; have MB := Lib.hid (HBV.out.grown hg HBV.out.size (fun k hk => by cases hk; omega)); have MQ := Lib.hid hQ; clear hg hQ KD))
      refine bodyPost_ret (v := .tuple #[.agg #[.int .i64 cy, .int .i64 mo, .int .i64 tr, .slice (some ⟨b', 0, none⟩) (n - 1) c'], .bool true]) (by simp [results, Try.results18, go_sem, cell_set, y0, y1, y2, y3]) rfl ?_
      have hv2 := HV2.out (by omega)
      exact AnswerR.ok HF.out HFL.out ⟨by have := hca.1; omega, hcm⟩ (fun e => by cases e) (R3.of_vat (fun _ => rfl) fun h => ((((MQ.out.far hv2.1).far hv2.2).far hv2.2).far hv2.2).far hv2.2) (((((MB.out.setCell (p := ⟨w1.heap.size, 3, none⟩) (show w.heap.size ≤ w1.heap.size by omega) _).setCell (p := ⟨w.heap.size + 1, 0, none⟩) (Nat.le_succ _) _).setCell (p := ⟨w.heap.size + 1, 1, none⟩) (Nat.le_succ _) _).setCell (p := ⟨w.heap.size + 1, 2, none⟩) (Nat.le_succ _) _).setCell (p := ⟨w.heap.size + 1, 3, none⟩) (Nat.le_succ _) _)
  · have q : (ckP cy mo tr n I S C == 0) = false := beq_eq_false_iff_ne.2 hck
    have q2 : (ckP cy mo tr n I S C != 0) = true := by rw [bne_iff_ne]; exact hck
    have HF := Lib.hid (show anOk cy mo tr id n I S C = false by rw [HE.out, decide_eq_false hck, Bool.false_and])
    generalize ckP cy mo tr n I S C = x at *
    clear hck
    go_wp2_with (go_at_call 21; refine K2.out.mono ?_; rintro e w5 ⟨rfl, hb⟩; replace t0 := up hb t0; replace t1 := up hb t1; replace t2 := up hb t2; replace t3 := up hb t3; replace u0 := up hb u0; replace u1 := up hb u1; replace u2 := up hb u2; replace u3 := up hb u3; replace v0 := upf hb (by omega) v0; replace v1 := upf hb (by omega) v1; replace v2 := upf hb (by omega) v2; replace v3 := upf hb (by omega) v3; replace e0 := up hb e0; replace e1 := up hb e1; replace e2 := up hb e2; replace e3 := up hb e3; replace ef := upf hb (by omega) ef; have HB5 := Lib.hid (HB3.out.trans (hb.mono (by omega))); have HBV := Lib.hid (bthen HBW.out hb (by have := HBW.out.size; omega)); clear hb K2)
    refine bodyPost_ret (v := .tuple #[.agg #[.int .i64 cy, .int .i64 mo, .int .i64 tr, .slice a' n c'], .bool false]) (by simp [results, Try.results18, go_sem, cell_set, u0, u1, u2, u3]) rfl ?_
    exact HERR.out HF.out _ ((((HBV.out.setCell (p := ⟨w.heap.size + 1, 0, none⟩) (Nat.le_succ _) _).setCell (p := ⟨w.heap.size + 1, 1, none⟩) (Nat.le_succ _) _).setCell (p := ⟨w.heap.size + 1, 2, none⟩) (Nat.le_succ _) _).setCell (p := ⟨w.heap.size + 1, 3, none⟩) (Nat.le_succ _) _) (R3.of_vat (fun h => (HV.out h).1) fun h => ((((((HV.out h).2.2.mono HB5.out).far (HV2.out h).2).far (HV2.out h).2).far (HV2.out h).2).far (HV2.out h).2))
end Go.Proofs.Ytobmnajgbhgdlaa
