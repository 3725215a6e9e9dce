import Derived.Test.YtgflfdnajchjaaaGreatDoorJO
import Derived.Test.YtgflfdnajchjaaaGreatDoorJN
import Derived.Test.YtgflfdnajchjaaaGreatDoorJJ
import Derived.Test.YtgflfdnajchjaaaGreatDoorJR
/- Layer 45: the program's check of a network and its traffic. -/
namespace Go.Proofs.YtgflfdnajchjaaaGreatDoor
set_option linter.unusedVariables false
set_option linter.unusedSimpArgs false
open Go.RowKit Go.Sort
open Tm
open Go.Proofs.YtgflfdnajchjaaaGreatDoor.Ch (btw)
attribute [local go_sem] gcell
theorem trafC_len {n : Nat} {f : Nat → List Int × List UInt8} (h : 200 < n) : trafC n f = 67 := if_pos h
theorem trafC_first {n : Nat} {f : Nat → List Int × List UInt8} (h : ¬ 200 < n) : trafC n f = firstE (fun k => pktC (f k)) n := if_neg h
def inR (x : Int) : Bool := btw x (-1048576) 1048576
theorem pktC_size {q : Tr} (h : q.by'.length < 1 ∨ 1500 < q.by'.length) : pktC (trS q) = 2 := if_pos h
theorem pktC_rng {q : Tr} (h : ¬ (q.by'.length < 1 ∨ 1500 < q.by'.length)) {j : Nat} (hj : j < 4) (hx : inR ([q.a, q.t, q.b, q.d].getD j 0) = false) : pktC (trS q) = 3 := by
  refine (if_neg h).trans (if_neg ?_)
  rintro ⟨h0, h1, h2, h3⟩
  have : j = 0 ∨ j = 1 ∨ j = 2 ∨ j = 3 := by omega
  rcases this with rfl | rfl | rfl | rfl
  · exact absurd (hx.symm.trans h0) (by simp)
  · exact absurd (hx.symm.trans h1) (by simp)
  · exact absurd (hx.symm.trans h2) (by simp)
  · exact absurd (hx.symm.trans h3) (by simp)
theorem pktC_ok {q : Tr} (h : ¬ (q.by'.length < 1 ∨ 1500 < q.by'.length)) (hx : ∀ j, j < 4 → inR ([q.a, q.t, q.b, q.d].getD j 0) = true) : pktC (trS q) = 0 := by
  refine (if_neg h).trans (if_pos ?_)
  exact ⟨hx 0 (by omega), hx 1 (by omega), hx 2 (by omega), hx 3 (by omega)⟩
theorem packet32' (z : Nat) (W : World) : Calls Tryz.prog 32 #[.pointer (some ⟨z, 0, none⟩)] W fun e w' => e = .returned (.slice (some ⟨W.heap.size, 0, none⟩) 4 4) ∧ PtrAt w' W.heap.size (adr z [0, 1, 2, 3]) ∧ Below W.heap.size W w' ∧ w'.heap.size = W.heap.size + 1 :=
  (packet32 z 0 W).mono fun e w' ⟨h1, h2, h3, h4⟩ => ⟨h1, by simpa using h2, h3, h4⟩
set_option maxRecDepth 100000 in
set_option maxHeartbeats 8000000 in
theorem check26 (c : Cf) (X : Nat → Ch.Fd) (T : Nat → Te) (a : Option Addr) (n cc : Nat) (Q : Nat → Tr) (w : World) (H : CfIn w c X T) (HQ : TrR w a n Q) (hn : n ≤ maxLen) :
    Calls Tryz.prog 26 #[cfv c, .slice a n cc] w fun e w' => e = .returned (.int .i64 (chkM c X T n Q)) ∧ Below w.heap.size w w' := by
  unfold maxLen at hn
  have hb0 : Below w.heap.size w (w.alloc (.cells (cfs c).toArray 37)) := (Below.refl _ _).alloc (Nat.le_refl _) _
  have hv0 := vat_list w (cfs c) 37 20 (ccell c) (cc_at c)
  have K50 := Lib.hid (check50 c X T)
  unfold cfv at K50 ⊢
  rw [cfs_arr] at hb0 hv0 K50 ⊢
  have HB := Lib.hid hb0
  have HR := Lib.hid (range_cf hv0)
  have HH := Lib.hid H
  have HHQ := Lib.hid HQ
  clear hb0 hv0 H HQ
  go_enter Tryz.func26, Tryz.ntmps26
  go_upto_region 1 with fail
  generalize (w.alloc (.cells #[.int .i64 (c.h 0), .int .i64 (c.h 1), .int .i64 (c.h 2), .int .i64 (c.h 3), .int .i64 (c.h 4), .int .i64 (c.h 5), .int .i64 (c.h 6), .int .i64 (c.h 7), .int .i64 (c.h 8), .int .i64 (c.h 9), .int .i64 (c.h 10), .int .i64 (c.h 11), .int .i64 (c.h 12), .int .i64 (c.h 13), .int .i64 (c.h 14), .int .i64 (c.h 15), .int .i64 (c.h 16), .int .i64 (c.h 17), .slice c.fa c.fn c.fc, .slice c.ta c.tn c.tc] 37)) = w1 at *
  go_wp2_with (first | (refine wpList_load_mid rfl 37 (.tmp 2) rfl w.heap.size 0 rfl (cfs c) _ HR.out Tryz.underlying37 rfl (by kernel_rfl) ?_; rw [cfs_arr]) | (go_at_call 50; refine (K50.out _ (HH.out.mono HB.out)).mono ?_; rintro e w2 ⟨rfl, hb2⟩; have HB2 := Lib.hid (bthen' HB.out hb2); clear hb2; refine Hid.out ?_))
  refine Lib.hid ?_
  have HN0 := Lib.hid (show netC c X T ≠ 0 → chkM c X T n Q = netC c X T from fun h => if_pos h)
  have HN1 := Lib.hid (show netC c X T = 0 → chkM c X T n Q = trafC n fun k => trS (Q k) from fun h => if_neg (fun h' => h' h))
  clear HR K50 HH
  generalize netC c X T = N0 at *
  by_cases h0 : N0 = 0
  · have hq : (N0 != 0) = false := by simp [h0]
    have HN2 := Lib.hid (HN1.out h0)
    clear h0 HN0 HN1
    by_cases hl : 200 < n
    · go_wp2
      go_ret
      exact ⟨ret_int (by rw [HN2.out, trafC_len hl]), HB2.out⟩
    · have HN3 := Lib.hid (HN2.out.trans (trafC_first hl))
      go_wp2
      go_loopw [20] (fun i wr => ∃ k : Nat, k ≤ n ∧ i = .int .i64 k ∧ Below w.heap.size w wr ∧ firstE (fun k => pktC (trS (Q k))) k = 0) (fun i _ => n - (intOf i).toNat)
      case atStart => exact ⟨0, Nat.zero_le _, rfl, HB2.out, rfl⟩
      case round =>
        obtain ⟨k, hk, rfl, hbr, hf⟩ := hrel
        have HBr := Lib.hid hbr
        have HF := Lib.hid hf
        clear hbr hf
        by_cases hlt : k < n
        · obtain ⟨b, m, h1, h2⟩ := HHQ.out.mono HBr.out
          obtain rfl := h1 (by omega)
          obtain ⟨c0, c1, c2, c3, c4, -, c6, -⟩ := h2 k hlt
          rw [c6] at c4
          have HE2 := Lib.hid (fun (h : pktC (trS (Q k)) ≠ 0) => HN3.out.trans (firstE_at (f := fun k => pktC (trS (Q k))) hlt HF.out h))
          have HE0 := Lib.hid (fun (h : pktC (trS (Q k)) = 0) => firstE_next (f := fun k => pktC (trS (Q k))) HF.out h)
          clear h1 h2 c6
          have hby : (Q k).by'.length = (Q k).by'.length := rfl
          by_cases hs : (Q k).by'.length < 1 ∨ 1500 < (Q k).by'.length
          · have HE3 := Lib.hid (HE2.out (by rw [pktC_size hs]; decide))
            have HE4 := Lib.hid (HE3.out.trans (pktC_size hs))
            generalize (Q k).by'.length = bl at *
            rcases hs with hs | hs
            · go_wp2
              go_ret
              exact ⟨ret_int HE4.out.symm, HBr.out.alloc HBr.out.size _⟩
            · go_wp2
              go_ret
              exact ⟨ret_int HE4.out.symm, HBr.out.alloc HBr.out.size _⟩
          · have HP3 := Lib.hid (fun j (hj : j < 4) hx => pktC_rng (q := Q k) hs (j := j) hj hx)
            have HP0 := Lib.hid (fun hx => pktC_ok (q := Q k) hs hx)
            have hs1 : ¬ (Q k).by'.length < 1 := fun h => hs (.inl h)
            have hs2 : ¬ 1500 < (Q k).by'.length := fun h => hs (.inr h)
            clear hs hby
            generalize (Q k).by'.length = bl at *
            go_wp2_with (go_at_call 32; refine (packet32' _ _).mono ?_; rintro e w3 ⟨rfl, hp3, hb3, hs3⟩; refine Hid.out ?_)
            refine Lib.hid ?_
            have hc0 : w3.heap[wr.heap.size]? = some (.cells #[.int .i64 (Q k).a, .int .i64 (Q k).t, .int .i64 (Q k).b, .int .i64 (Q k).d, .slice (Q k).pa bl (Q k).pc] 49 (0, 0)) := (hb3.block _ (by simp)).trans (MapKept.heap_alloc wr _).1
            have HP := Lib.hid (show PtrAt w3 (wr.heap.size + 1) (adr wr.heap.size [0, 1, 2, 3]) by simpa using hp3)
            have HB3 := Lib.hid (bthen (HBr.out.alloc HBr.out.size (.cells #[.int .i64 (Q k).a, .int .i64 (Q k).t, .int .i64 (Q k).b, .int .i64 (Q k).d, .slice (Q k).pa bl (Q k).pc] 49)) hb3 (by simp; have := HBr.out.size; omega))
            have HC := Lib.hid (show ∀ j, j < 4 → w3.cell? ⟨wr.heap.size, j, none⟩ = some (.int .i64 ([(Q k).a, (Q k).t, (Q k).b, (Q k).d].getD j 0)) from fun j hj => cell_box hc0 (by
              have : j = 0 ∨ j = 1 ∨ j = 2 ∨ j = 3 := by omega
              rcases this with rfl | rfl | rfl | rfl <;> rfl))
            clear hp3 hb3 hs3 hc0 c0 c1 c2 c3 c4
            clear HBr
            generalize wr.heap.size = S0 at *
            go_wp2
            go_loopw [36] (fun i wx => ∃ j : Nat, j ≤ 4 ∧ i = .int .i64 j ∧ wx = w3 ∧ ∀ q, q < j → inR ([(Q k).a, (Q k).t, (Q k).b, (Q k).d].getD q 0) = true) (fun i _ => 4 - (intOf i).toNat)
            case atStart => exact ⟨0, Nat.zero_le _, rfl, rfl, fun q hq => absurd hq (Nat.not_lt_zero q)⟩
            case round =>
              obtain ⟨j, hj, rfl, rfl, hall⟩ := hrel
              have HA := Lib.hid hall
              clear hall
              by_cases hj4 : j < 4
              · have p1 := HP.out j hj4
                have p2 := HC.out j hj4
                have HP3j := Lib.hid (HP3.out j hj4)
                have HAj := Lib.hid (show inR ([(Q k).a, (Q k).t, (Q k).b, (Q k).d].getD j 0) = true → ∀ q, q < j + 1 → inR ([(Q k).a, (Q k).t, (Q k).b, (Q k).d].getD q 0) = true from fun hx q hq => by
                  by_cases e : q = j
                  · rw [e]; exact hx
                  · exact HA.out q (by omega))
                have ej : (adr S0 [0, 1, 2, 3]).getD j ⟨0, 0, none⟩ = ⟨S0, j, none⟩ := by
                  have : j = 0 ∨ j = 1 ∨ j = 2 ∨ j = 3 := by omega
                  rcases this with rfl | rfl | rfl | rfl <;> rfl
                rw [ej] at p1
                clear ej
                generalize [(Q k).a, (Q k).t, (Q k).b, (Q k).d].getD j 0 = x at *
                by_cases hx : -1048576 ≤ x ∧ x ≤ 1048576
                · have HA2 := Lib.hid (HAj.out (decide_eq_true hx))
                  have hx1 := hx.1
                  have hx2 := hx.2
                  clear hx
                  go_wp2
                  go_roundw
                  case rel => exact ⟨j + 1, by omega, by go_num, trivial, HA2.out⟩
                  case measure => simp [intOf]; omega
                · have e3 := HP3j.out (decide_eq_false hx)
                  have HE3 := Lib.hid (HE2.out (by rw [e3]; decide))
                  have HE4 := Lib.hid (HE3.out.trans e3)
                  have hxx : x < -1048576 ∨ 1048576 < x := by omega
                  clear e3 hx
                  rcases hxx with hx | hx
                  · go_wp2
                    go_ret
                    exact ⟨ret_int HE4.out.symm, HB3.out⟩
                  · go_wp2
                    go_ret
                    exact ⟨ret_int HE4.out.symm, HB3.out⟩
              · obtain rfl : j = 4 := by omega
                have HE5 := Lib.hid (HE0.out (HP0.out HA.out))
                go_wp2
                go_roundw
                case rel => exact ⟨k + 1, by omega, by go_num, HB3.out, HE5.out⟩
                case measure => simp [intOf]; omega
        · obtain rfl : k = n := by omega
          go_wp2
          go_ret
          exact ⟨ret_int (by rw [HN3.out, HF.out]), HBr.out⟩
  · have hq : (N0 != 0) = true := by simp [h0]
    have HN2 := Lib.hid (HN0.out h0)
    clear h0 HN0 HN1
    go_wp2
    go_ret
    exact ⟨ret_int HN2.out.symm, HB2.out⟩
end Go.Proofs.YtgflfdnajchjaaaGreatDoor
/- Layer 45: what reading a text hands back; the state of its loop. -/
namespace Go.Proofs.YtgflfdnajchjaaaGreatDoor
set_option linter.unusedVariables false
set_option linter.unusedSimpArgs false
open Go.RowKit Go.Sort
open Tm
def cfZ : Cf := { h := fun _ => 0, fa := none, fn := 0, fc := 0, ta := none, tn := 0, tc := 0 }
def ParsePost (w : World) (o : Nat × Int × Option DocS) (e : Ending) (w' : World) : Prop := match o with
  | (ln, er, none) => e = .returned (.tuple #[cfv cfZ, .slice none 0 0, .int .i64 ln, .int .i64 er]) ∧ Below w.heap.size w w'
  | (ln, er, some D) => ∃ c X T a n cc Q, e = .returned (.tuple #[cfv c, .slice a n cc, .int .i64 ln, .int .i64 er]) ∧ CfIn w' c X T ∧ TrR w' a n Q ∧ n ≤ maxLen ∧ docOf c X T n Q = D ∧ c.h 15 = 0 ∧ (∀ k, k < c.tn → (T k).kn = (T k).bn) ∧ Below w.heap.size w w'
/-- What holds between two lines. -/
structure PSt (w : World) (z : Nat) (L : List (List UInt8)) (k st : Nat) (c : Cf) (X : Nat → Ch.Fd) (T : Nat → Te) (lv : Value) (n : Nat) (Q : Nat → Tr) : Prop where
  d : DocW w z z c X T lv n Q
  run : runP 0 0 doc0 L = runP k st (docOf c X T n Q) (L.drop k)
  ok : StOk st (docOf c X T n Q)
  s1 : st < 4 → st = k
  s2 : 4 ≤ k → 4 ≤ st
  cnt : Cnt c T n k
def bfOf (st : Nat) : Int := if st < 4 then 3 else (st : Int) - 1
theorem bfOf_lo {st : Nat} (h : st < 4) : bfOf st = 3 := if_pos h
theorem bfOf_hi {st : Nat} (h : 4 ≤ st) : bfOf st = (st : Int) - 1 := if_neg (by omega)
theorem runP_none {k st : Nat} {D : DocS} {L : List (List UInt8)} (hk : k < L.length) (h : stepP st D (L.getD k []) = none) : runP k st D (L.drop k) = .bad (k + 1) := by
  rw [List.drop_eq_getElem_cons hk]
  rw [List.getD_eq_getElem?_getD, List.getElem?_eq_getElem hk, Option.getD_some] at h
  rw [runP, h]
theorem runP_some {k st st' : Nat} {D D' : DocS} {L : List (List UInt8)} (hk : k < L.length) (h : stepP st D (L.getD k []) = some (st', D')) : runP k st D (L.drop k) = runP (k + 1) st' D' (L.drop (k + 1)) := by
  rw [List.drop_eq_getElem_cons hk]
  rw [List.getD_eq_getElem?_getD, List.getElem?_eq_getElem hk, Option.getD_some] at h
  rw [runP, h]
theorem runP_end {st : Nat} {D : DocS} {L : List (List UInt8)} : runP L.length st D (L.drop L.length) = .good st D := by rw [List.drop_length]; rfl
section
variable {w w' : World} {z : Nat} {L : List (List UInt8)} {k st st' : Nat} {c c' : Cf} {X X' : Nat → Ch.Fd} {T T' : Nat → Te} {lv lv' : Value} {n n' : Nat} {Q Q' : Nat → Tr}
theorem PSt.next (S : PSt w z L k st c X T lv n Q) (hk : k < L.length) (h : stepP st (docOf c X T n Q) (L.getD k []) = some (st', docOf c' X' T' n' Q')) (hd : DocW w' z z c' X' T' lv' n' Q') (hc : Cnt c' T' n' (k + 1)) : PSt w' z L (k + 1) st' c' X' T' lv' n' Q' := by
  obtain ⟨g1, g2, g3⟩ := stepP_ok S.ok h
  refine ⟨hd, S.run.trans (runP_some hk h), g1, fun h4 => ?_, fun h4 => ?_, hc⟩
  · by_cases h5 : st < 4
    · have := g2 h5; have := S.s1 h5; omega
    · have := g3 (by omega); omega
  · by_cases h5 : st < 4
    · have := g2 h5; have := S.s1 h5; omega
    · exact g3 (by omega)
theorem PSt.fail (S : PSt w z L k st c X T lv n Q) (hk : k < L.length) (h : stepP st (docOf c X T n Q) (L.getD k []) = none) : runP 0 0 doc0 L = .bad (k + 1) := S.run.trans (runP_none hk h)
theorem PSt.mono (S : PSt w z L k st c X T lv n Q) (hb : Below w.heap.size w w') : PSt w' z L k st c X T lv n Q := ⟨S.d.mono hb, S.run, S.ok, S.s1, S.s2, S.cnt⟩
end
theorem docOf_zero : docOf cfZ (fun _ => ⟨0, 0, 0, 0, 0⟩) (fun _ => teN []) 0 (fun _ => ⟨0, 0, 0, 0, none, 0, 0, []⟩) = doc0 := rfl
theorem parseP_bad {s : List UInt8} {k : Nat} (h : runP 0 0 doc0 (spl 10 s).dropLast = .bad k) : parseP chkD 66 s = (k, 66, none) := by
  unfold parseP
  rw [h]
  rfl
theorem parseP_good {s : List UInt8} {st : Nat} {D : DocS} (h : runP 0 0 doc0 (spl 10 s).dropLast = .good st D) : parseP chkD 66 s = if (spl 10 s).getLastD [] ≠ [] then ((spl 10 s).length - 1 + 1, 66, none) else if (spl 10 s).length - 1 ≤ 3 then (max ((spl 10 s).length - 1) 1, 66, none) else (0, chkD D, if chkD D = 0 then some D else none) := by
  unfold parseP
  rw [h]
  rfl
theorem results_range4 {P : Program} {fn : Func} {p t1 t2 t3 : Tmp} {ty : TypeId} (h : fn.results = #[.cell p ty, .tmp t1, .tmp t2, .tmp t3]) (tmps : Array Value) (w : World) (g : Nat) (cs : List Value) (d : TypeDesc)
    (hp : tmps.getD p undef = .pointer (some ⟨g, 0, none⟩)) (hc : w.rangeAt g 0 cs) (hu : P.underlying ty = some d) (hd : d.isRow = true) (hi : (P.info? ty).map (·.size) = some cs.length) :
    (results fn tmps).run P w = .ok (.tuple #[.agg cs.toArray, tmps.getD t1 undef, tmps.getD t2 undef, tmps.getD t3 undef]) w := by
  have hp' : tmps[p]?.getD undef = .pointer (some ⟨g, 0, none⟩) := by simpa using hp
  have h1 := run_loadAt_mid (P := P) w g 0 ty cs d hc hu hd hi
  simp only [Instr.loadAt, Instr.sureAddr, Sem.run_bind, Sem.run_pure, Result.andThen_ok] at h1
  simp [results, h, hp', asAddr, h1]
end Go.Proofs.YtgflfdnajchjaaaGreatDoor
/- Layer 45: the first lines of a text; a box that is written whole. -/
namespace Go.Proofs.YtgflfdnajchjaaaGreatDoor
set_option linter.unusedVariables false
set_option linter.unusedSimpArgs false
open Go.RowKit Go.Sort
open Tm
def hks (k : Nat) : List Nat := if k = 0 then [0, 1, 2, 3, 4, 5, 6, 7, 8] else if k = 1 then [9, 10, 11] else if k = 2 then [12, 13, 14] else [16, 17]
def hkn (k : Nat) : Nat := if k = 0 then 9 else if k = 1 then 3 else if k = 2 then 3 else 2
theorem hks_len (k : Nat) : (hks k).length = hkn k := by
  unfold hks hkn
  repeat' split
  all_goals rfl
theorem hkn_le (k : Nat) : hkn k ≤ 9 := by
  unfold hkn
  repeat' split
  all_goals omega
theorem hks_in (k : Nat) : ∀ j ∈ hks k, j < 18 ∧ j ≠ 15 := by
  unfold hks
  repeat' split
  all_goals decide
theorem head28_any (z k : Nat) (hk : k < 4) (w : World) : Calls Tryz.prog 28 #[.pointer (some ⟨z, 0, none⟩), .int .i64 k] w fun e w' => e = .returned (.slice (some ⟨w.heap.size, 0, none⟩) (hkn k) (hkn k)) ∧ PtrAt w' w.heap.size (adr z (hks k)) ∧ Below w.heap.size w w' ∧ w'.heap.size = w.heap.size + 1 := by
  have : k = 0 ∨ k = 1 ∨ k = 2 ∨ k = 3 := by omega
  rcases this with rfl | rfl | rfl | rfl
  · exact head28_0 z w
  · exact head28_1 z w
  · exact head28_2 z w
  · exact head28_3 z w
/-- What putting one of the first lines to a document hands back. -/
def HeadPost (w : World) (z m : Nat) (X : Nat → Ch.Fd) (T : Nat → Te) (lv : Value) (n : Nat) (Q : Nat → Tr) (o : Option (Nat × DocS)) (e : Ending) (w' : World) : Prop := match o with
  | some (st', D') => e = .returned (.bool true) ∧ st' = m + 1 ∧ (∃ c, DocW w' z z c X T lv n Q ∧ docOf c X T n Q = D' ∧ Cnt c T n (m + 1)) ∧ Below z w w'
  | none => e = .returned (.bool false) ∧ Below z w w'
theorem step_hd (k : Nat) (hk : k < 4) (c : Cf) (X : Nat → Ch.Fd) (T : Nat → Te) (n : Nat) (Q : Nat → Tr) (s : List UInt8) : stepP k (docOf c X T n Q) s = (okW (readS (wordAt k) (hkn k) s)).map fun ns => (k + 1, docOf (setHs c (hks k) ns) X T n Q) := by
  have : k = 0 ∨ k = 1 ∨ k = 2 ∨ k = 3 := by omega
  rcases this with rfl | rfl | rfl | rfl
  · have e : stepP 0 (docOf c X T n Q) s = (okW (readS wNetwork 9 s)).map fun ns => (1, { docOf c X T n Q with h0 := ns }) := rfl
    rw [e]
    show _ = (okW (readS wNetwork 9 s)).map fun ns => (1, docOf (setHs c [0, 1, 2, 3, 4, 5, 6, 7, 8] ns) X T n Q)
    cases h : okW (readS wNetwork 9 s) with
    | none => rfl
    | some ns => simp only [Option.map_some]; rw [docOf_h0 _ _ _ _ _ (okW_len h)]
  · have e : stepP 1 (docOf c X T n Q) s = (okW (readS wPatience 3 s)).map fun ns => (2, { docOf c X T n Q with h1 := ns }) := rfl
    rw [e]
    show _ = (okW (readS wPatience 3 s)).map fun ns => (2, docOf (setHs c [9, 10, 11] ns) X T n Q)
    cases h : okW (readS wPatience 3 s) with
    | none => rfl
    | some ns => simp only [Option.map_some]; rw [docOf_h1 _ _ _ _ _ (okW_len h)]
  · have e : stepP 2 (docOf c X T n Q) s = (okW (readS wRule 3 s)).map fun ns => (3, { docOf c X T n Q with h2 := ns }) := rfl
    rw [e]
    show _ = (okW (readS wRule 3 s)).map fun ns => (3, docOf (setHs c [12, 13, 14] ns) X T n Q)
    cases h : okW (readS wRule 3 s) with
    | none => rfl
    | some ns => simp only [Option.map_some]; rw [docOf_h2 _ _ _ _ _ (okW_len h)]
  · have e : stepP 3 (docOf c X T n Q) s = (okW (readS wOuter 2 s)).map fun ns => (4, { docOf c X T n Q with h3 := ns }) := rfl
    rw [e]
    show _ = (okW (readS wOuter 2 s)).map fun ns => (4, docOf (setHs c [16, 17] ns) X T n Q)
    cases h : okW (readS wOuter 2 s) with
    | none => rfl
    | some ns => simp only [Option.map_some]; rw [docOf_h3 _ _ _ _ _ (okW_len h)]
theorem head36 (k : Nat) (hk : k < 4) (s : ByteArray) (hs : s.size ≤ 1000000) (b : Nat) (w : World) (G : Gl w) (z : Nat) (c : Cf) (X : Nat → Ch.Fd) (T : Nat → Te) (lv : Value) (n : Nat) (Q : Nat → Tr) (D : DocW w z z c X T lv n Q) (hz : 8 ≤ z) (HP : PtrAt w b (adr z (hks k))) (hbw : b < w.heap.size) (hzb : z < b) (m : Nat) (hm : k = m) (hC : Cnt c T n m) :
    Calls Tryz.prog 36 #[.string s, .int .i64 k, .slice (some ⟨b, 0, none⟩) (hkn k) (hkn k)] w (HeadPost w z m X T lv n Q (stepP k (docOf c X T n Q) s.data.toList)) := by
  subst hm
  have hzl := heap_lt D.hz
  have K := whole36 k (by omega) s hs b (adr z (hks k)) w G HP hbw (fun a ha => by obtain ⟨j, -, rfl⟩ := adr_mem ha; show z ≠ b; omega) (fun a ha => by obtain ⟨j, -, rfl⟩ := adr_mem ha; exact hz) (fun a ha => by
    obtain ⟨j, hj, rfl⟩ := adr_mem ha
    have hj' := hks_in k j hj
    refine ⟨hzl, ?_, frozen_of_row w z j _ _ D.hz⟩
    have hsz : j < (docCs c lv).size := by rw [docCs_size]; omega
    exact ⟨_, cell_box D.hz (Array.getElem?_eq_getElem hsz)⟩) (by rw [adr_len, hks_len]; have := hkn_le k; omega)
  rw [adr_len, hks_len] at K
  rw [step_hd k hk]
  refine K.mono fun e w' h => ?_
  have hbase : ∀ (js : List Nat) (xs : List Int), Below z w (putN w (adr z js) xs) := fun js xs => putN_base _ _ _ fun a ha => by obtain ⟨j, -, rfl⟩ := adr_mem ha; exact Nat.le_refl _
  cases ho : okW (readS (wordAt k) (hkn k) s.data.toList) with
  | none =>
    rw [ho] at h
    obtain ⟨he, ns, hn, hb⟩ := h
    rw [adr_take] at hb
    exact ⟨he, (hbase _ ns).trans (hb.mono (Nat.le_of_lt hzl))⟩
  | some ns =>
    rw [ho] at h
    obtain ⟨he, hb⟩ := h
    refine ⟨he, rfl, ⟨setHs c (hks k) ns, ?_, rfl, ?_⟩, (hbase _ ns).trans (hb.mono (Nat.le_of_lt hzl))⟩
    · have h1 := D.putN (hks k) ns (hks_in k)
      have e : (putN w (adr z (hks k)) ns).heap.size = w.heap.size := putN_size _ _ _
      exact h1.mono (e.symm ▸ hb)
    · obtain ⟨e1, e2⟩ := setHs_same (hks k) ns c
      obtain ⟨g1, g2, g3, g4⟩ := hC
      refine ⟨by rw [e1]; omega, by rw [e2]; omega, by omega, fun j hj => ?_⟩
      rw [e2] at hj
      exact Nat.le_succ_of_le (g4 j hj)
/-! ### A box that is written whole -/
theorem heap_cells_same {z e : Nat} {fz : Nat × Nat} : ∀ (vs : List Value) (o : Nat) {w : World} {cs : Array Value}, w.heap[z]? = some (.cells cs e fz) → ∃ ds, (w.setCells z o vs).heap[z]? = some (.cells ds e fz)
  | [], _, w, cs, h => ⟨_, h⟩
  | v :: vs, o, w, cs, h => heap_cells_same vs (o + 1) (heap_set_same h v)
theorem heap_cells_other {z i : Nat} (hi : i ≠ z) : ∀ (vs : List Value) (o : Nat) {w : World}, (w.setCells z o vs).heap[i]? = w.heap[i]?
  | [], _, _ => rfl
  | v :: vs, o, w => (heap_cells_other hi vs (o + 1)).trans (heap_set_other v hi)
theorem setCells_base {B z : Nat} (hB : B ≤ z) : ∀ (vs : List Value) (o : Nat) (w : World), Below B w (w.setCells z o vs)
  | [], _, w => Below.refl _ _
  | v :: vs, o, w => ((Below.refl B w).setCell hB _).trans (setCells_base hB vs (o + 1) _)
theorem box_there {w : World} {z e : Nat} {cs : Array Value} (h : w.heap[z]? = some (.cells cs e (0, 0))) : w.there z 0 cs.size := fun j hj => by
  rw [Nat.zero_add]
  refine ⟨?_, frozen_of_row w z j _ _ h⟩
  rw [cell_box h (Array.getElem?_eq_getElem hj)]
  rfl
theorem box_range {w : World} {z e : Nat} {cs : Array Value} (h : w.heap[z]? = some (.cells cs e (0, 0))) (vs : List Value) (hv : vs.length = cs.size) : (w.setCells z 0 vs).rangeAt z 0 vs := World.rangeAt_setCells_same _ _ _ _ (by rw [hv]; exact box_there h)
theorem DocW.out {w w' : World} {B z : Nat} {c : Cf} {X : Nat → Ch.Fd} {T : Nat → Te} {lv : Value} {n : Nat} {Q : Nat → Tr} (D : DocW w B z c X T lv n Q) (hk : ∀ i, B ≤ i → i < w.heap.size → w'.heap[i]? = w.heap[i]?) : DocW w' B z c X T lv n Q :=
  ⟨(hk z D.bz (heap_lt D.hz)).trans D.hz, D.bz, own_kept D.f fun g hg => hk g (D.f.lt g hg).1 (D.f.lt g hg).2, own_kept D.t fun g hg => hk g (D.t.lt g hg).1 (D.t.lt g hg).2, fun k h => own_kept (D.b k h) fun g hg => hk g ((D.b k h).lt g hg).1 ((D.b k h).lt g hg).2, fun k h => own_kept (D.u k h) fun g hg => hk g ((D.u k h).lt g hg).1 ((D.u k h).lt g hg).2, D.sb, D.su, D.eq, own_kept D.l fun g hg => hk g (D.l.lt g hg).1 (D.l.lt g hg).2, fun k h => own_kept (D.d k h) fun g hg => hk g ((D.d k h).lt g hg).1 ((D.d k h).lt g hg).2, D.h15⟩
/-- The document at the start. -/
theorem doc_new {w : World} {B z : Nat} (hz : w.heap[z]? = some (.cells (docCs cfZ (.slice none 0 0)) 81 (0, 0))) (hB : B ≤ z) : DocW w B z cfZ (fun _ => ⟨0, 0, 0, 0, 0⟩) (fun _ => teN []) (.slice none 0 0) 0 (fun _ => ⟨0, 0, 0, 0, none, 0, 0, []⟩) :=
  ⟨hz, hB, own_nilK _ _ _ _ _, own_nilK _ _ _ _ _, fun k h => absurd h (Nat.not_lt_zero k), fun k h => absurd h (Nat.not_lt_zero k), fun j k h => absurd h (Nat.not_lt_zero j), fun j k h => absurd h (Nat.not_lt_zero j), fun k h => absurd h (Nat.not_lt_zero k), own_nilK _ _ _ _ _, fun k h => absurd h (Nat.not_lt_zero k), rfl⟩
theorem pst_new {w : World} {z : Nat} (L : List (List UInt8)) (hz : w.heap[z]? = some (.cells (docCs cfZ (.slice none 0 0)) 81 (0, 0))) : PSt w z L 0 0 cfZ (fun _ => ⟨0, 0, 0, 0, 0⟩) (fun _ => teN []) (.slice none 0 0) 0 (fun _ => ⟨0, 0, 0, 0, none, 0, 0, []⟩) :=
  ⟨doc_new hz (Nat.le_refl _), rfl, stOk0, fun _ => rfl, fun h => absurd h (by omega), Nat.zero_le _, Nat.zero_le _, Nat.zero_le _, fun k h => absurd h (Nat.not_lt_zero k)⟩
theorem pz81 : (Tryz.prog.info? 81).map (fun i => (i.zero, i.size, i.bytes)) = some (some (.agg (docCs cfZ (.slice none 0 0))), 21, 216) := by kernel_rfl
theorem pz37 : (Tryz.prog.info? 37).map (fun i => (i.zero, i.size)) = some (some (cfv cfZ), 20) := by kernel_rfl
end Go.Proofs.YtgflfdnajchjaaaGreatDoor
