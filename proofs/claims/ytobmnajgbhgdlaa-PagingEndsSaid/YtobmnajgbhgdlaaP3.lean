/- Layer 36: copies and comparisons. -/
import Derived.Test.YtobmnajgbhgdlaaP2
namespace Go.Proofs.Ytobmnajgbhgdlaa
set_option linter.unusedVariables false
set_option linter.unusedSimpArgs false
open Go.RowKit Go.Sort
attribute [local go_sem] gcell

theorem intInfo : (Try.prog.info? 3).map (fun i => (i.zero, i.size, i.bytes)) = some (some (.int .i64 0), 1, 8) := by kernel_rfl
def pz : Value := .agg #[.int .i64 0, .int .i64 0, .int .i64 0]
theorem pInfo : (Try.prog.info? 54).map (fun i => (i.zero, i.size, i.bytes)) = some (some pz, 3, 24) := by kernel_rfl
/-- Pages cell by cell. -/
def pf (I S C : Nat → Int) (j : Nat) : Value := .int .i64 (if j % 3 = 0 then I (j / 3) else if j % 3 = 1 then S (j / 3) else C (j / 3))
theorem pf0 (I S C : Nat → Int) (k : Nat) : pf I S C (k * 3) = .int .i64 (I k) := by unfold pf; rw [if_pos (by omega), show k * 3 / 3 = k by omega]
theorem pf1 (I S C : Nat → Int) (k : Nat) : pf I S C (k * 3 + 1) = .int .i64 (S k) := by unfold pf; rw [if_neg (by omega), if_pos (by omega), show (k * 3 + 1) / 3 = k by omega]
theorem pf2 (I S C : Nat → Int) (k : Nat) : pf I S C (k * 3 + 2) = .int .i64 (C k) := by unfold pf; rw [if_neg (by omega), if_neg (by omega), show (k * 3 + 2) / 3 = k by omega]
theorem three (j : Nat) : j = j / 3 * 3 ∨ j = j / 3 * 3 + 1 ∨ j = j / 3 * 3 + 2 := by omega
theorem pf_one (I S C : Nat → Int) (j : Nat) : (pf I S C j).oneCell' = true := rfl
theorem R3.rowK {w : World} {a : Option Addr} {n : Nat} {I S C : Nat → Int} (H : R3 w a n I S C) : RowK w a n 3 (pf I S C) := by
  obtain ⟨b, m, h1, h2⟩ := H
  refine ⟨b, m, h1, fun j hj => ?_⟩
  obtain ⟨c0, c1, c2⟩ := h2 (j / 3) (by omega)
  rcases three j with e | e | e
  · rw [e, pf0]; exact c0
  · rw [e, pf1]; exact c1
  · rw [e, pf2]; exact c2
theorem R3.congr {w : World} {a : Option Addr} {n : Nat} {I S C I' S' C' : Nat → Int} (H : R3 w a n I S C) (h : ∀ k, k < n → I' k = I k ∧ S' k = S k ∧ C' k = C k) : R3 w a n I' S' C' := by
  obtain ⟨b, m, h1, h2⟩ := H
  exact ⟨b, m, h1, fun k hk => by obtain ⟨e1, e2, e3⟩ := h k hk; rw [e1, e2, e3]; exact h2 k hk⟩
theorem R3.of_cells {w : World} {b n : Nat} {I S C : Nat → Int} (h : ∀ j, j < n * 3 → w.cell? ⟨b, j, none⟩ = some (pf I S C j)) {a : Option Addr} (ha : 0 < n → a = some ⟨b, 0, none⟩) : R3 w a n I S C :=
  ⟨b, 0, ha, fun k hk => by
    simp only [Nat.zero_add]
    exact ⟨by rw [h _ (by omega), pf0], by rw [h _ (by omega), pf1], by rw [h _ (by omega), pf2]⟩⟩

/-- A copy of pages, in a new block (or nil). -/
def Copy (n : Nat) (I S C : Nat → Int) (w : World) (v : Value) (w' : World) : Prop :=
  w'.ownsRow w.heap.size 54 3 v n ((List.range (n * 3)).map (pf I S C)) ∧ Below w.heap.size w w'
theorem copy_own {w w' : World} {v : Value} {n : Nat} {I S C : Nat → Int} (h : w'.ownsRow w.heap.size 54 3 v n ((List.range (n * 3)).map (pf I S C))) (hb : Below w.heap.size w w') : Copy n I S C w v w' := ⟨h, hb⟩
theorem own_setb {base : Nat} {wr : World} {e s n z o : Nat} {v : Value} {xs : List Value} (h : wr.ownsRow base e s v n xs) (hz : z < base) (u : Value) : (wr.setCell ⟨z, o, none⟩ u).ownsRow base e s v n xs :=
  h.kept (row := some z) ⟨rfl, rfl, rfl, by simp, fun k hk hne => by
    have : z ≠ k := fun e => hne (by rw [e])
    simp [World.setCell, Array.getElem?_modify, this]⟩ (.inr fun hc => by have := (h.lt z hc).1; omega)
set_option maxHeartbeats 2000000 in
theorem clone31_some (w : World) (A : Addr) (n c : Nat) (I S C : Nat → Int) (hn : n ≤ 1000) (H : R3 w (some A) n I S C) : Calls Try.prog 31 #[.slice (some A) n c] w fun e w' => ∃ v, e = .returned v ∧ Copy n I S C w v w' := by
  have HK := Lib.hid H.rowK
  clear H
  have q24 : ∀ (w : World) (a : Option Addr) (n c n' c' : Nat), (binOp .eql 23 (.slice a n c) (.slice none n' c')).run Try.prog w = .ok (.bool a.isNone) w := fun w a n c n' c' => Lib.run_eql_slice_nil w _ _ a n c n' c' Try.underlying23
  go_enter Try.func31, Try.ntmps31
  go_wp2_with (at_builtin; refine wpList_append_copy w rfl (.tmp 5) (.tmp 6) 23 rfl 54 pz 3 24 Try.underlying23 pInfo rfl (by decide) (by decide) n c A (pf I S C) rfl rfl HK.out (pf_one I S C) (by omega) ?_; intro v' w' hown hB hlt; have HC := Lib.hid (copy_own hown hB); clear hown hB)
  go_ret
  exact ⟨_, rfl, HC.out⟩
theorem clone31_none (w : World) (I S C : Nat → Int) (c : Nat) : Calls Try.prog 31 #[.slice none 0 c] w fun e w' => ∃ v, e = .returned v ∧ Copy 0 I S C w v w' := by
  have q24 : ∀ (w : World) (a : Option Addr) (n c n' c' : Nat), (binOp .eql 23 (.slice a n c) (.slice none n' c')).run Try.prog w = .ok (.bool a.isNone) w := fun w a n c n' c' => Lib.run_eql_slice_nil w _ _ a n c n' c' Try.underlying23
  go_enter Try.func31, Try.ntmps31
  go_wp2
  go_ret
  exact ⟨_, rfl, own_nilK _ _ _ _ _, Below.refl _ _⟩
theorem clone31 (w : World) (a : Option Addr) (n c : Nat) (I S C : Nat → Int) (hn : n ≤ 1000) (h0 : a = none → n = 0) (H : R3 w a n I S C) : Calls Try.prog 31 #[.slice a n c] w fun e w' => ∃ v, e = .returned v ∧ Copy n I S C w v w' := by
  cases a with
  | none => obtain rfl := h0 rfl; exact clone31_none w I S C c
  | some A => exact clone31_some w A n c I S C hn H
/-- A capacity that holds so many. -/
def CapOk (n c : Nat) : Prop := n ≤ c ∧ c ≤ 9223372036854775807
theorem own_cap {w : World} {base e s n c : Nat} {a : Option Addr} {xs : List Value} (h : w.ownsRow base e s (.slice a n c) n xs) : c ≤ 9223372036854775807 := by
  obtain ⟨_, ⟨hv, rfl⟩ | ⟨g, cap, cur, hv, hg, hh, hn, hm, hs, ht⟩⟩ := h
  · cases hv; omega
  · cases hv
    unfold maxLen at hm
    omega
/-- A pager whose pages lie in a new block. -/
def CloneR (cy mo tr : Int) (n : Nat) (I S C : Nat → Int) (w : World) (e : Ending) (w' : World) : Prop :=
  ∃ a c b, e = .returned (gv cy mo tr a n c) ∧ CapOk n c ∧ (0 < n → a = some ⟨b, 0, none⟩ ∧ w.heap.size ≤ b ∧ VAt w' b (n * 3) (pf I S C)) ∧ Below w.heap.size w w'
/-- .. as a row of one's own. -/
def CloneO (cy mo tr : Int) (n : Nat) (I S C : Nat → Int) (w : World) (e : Ending) (w' : World) : Prop :=
  ∃ a c, e = .returned (gv cy mo tr a n c) ∧ w'.ownsRow (w.heap.size + 2) 54 3 (.slice a n c) n ((List.range (n * 3)).map (pf I S C)) ∧ Below w.heap.size w w'
set_option maxHeartbeats 2000000 in
theorem clone20o (cy mo tr : Int) (w : World) (a : Option Addr) (n c : Nat) (I S C : Nat → Int) (hn : n ≤ 1000) (h0 : a = none → n = 0) (H : R3 w a n I S C) : Calls Try.prog 20 #[gv cy mo tr a n c] w (CloneO cy mo tr n I S C w) := by
  have hb : Below w.heap.size w ((w.alloc (.cells #[.int .i64 cy, .int .i64 mo, .int .i64 tr, .slice a n c] 25)).alloc (.cells #[.int .i64 0, .int .i64 0, .int .i64 0, .slice none 0 0] 25)) := ((Below.refl _ _).alloc (Nat.le_refl _) _).alloc (by simp) _
  have K := Lib.hid (clone31 _ a n c I S C hn h0 (H.mono hb))
  have HB := Lib.hid hb
  clear H hb h0
  unfold gv
  go_enter Try.func20, Try.ntmps20
  go_wp2_with fail
  refine K.out.mono ?_
  rintro e w1 ⟨v, rfl, hown, hb⟩
  obtain ⟨a', c', b, rfl, hc', -, -⟩ := own_cellsK hown
  have z : ((w.alloc (.cells #[.int .i64 cy, .int .i64 mo, .int .i64 tr, .slice a n c] 25)).alloc (.cells #[.int .i64 0, .int .i64 0, .int .i64 0, .slice none 0 0] 25)).heap.size = w.heap.size + 2 := by simp
  have t0 := up hb (b := w.heap.size) (o := 0) (v := .int .i64 cy) (by simp [go_sem])
  have t1 := up hb (b := w.heap.size) (o := 1) (v := .int .i64 mo) (by simp [go_sem])
  have t2 := up hb (b := w.heap.size) (o := 2) (v := .int .i64 tr) (by simp [go_sem])
  have t3 := up hb (b := w.heap.size) (o := 3) (v := .slice a n c) (by simp [go_sem])
  have tf := upf hb (b := w.heap.size) (o := 3) (by simp <;> omega) (by simp [go_sem])
  have u0 := up hb (b := w.heap.size + 1) (o := 0) (v := .int .i64 0) (by simp [go_sem])
  have u1 := up hb (b := w.heap.size + 1) (o := 1) (v := .int .i64 0) (by simp [go_sem])
  have u2 := up hb (b := w.heap.size + 1) (o := 2) (v := .int .i64 0) (by simp [go_sem])
  have u3 := up hb (b := w.heap.size + 1) (o := 3) (v := .slice none 0 0) (by simp [go_sem])
  have v0 := upf hb (b := w.heap.size + 1) (o := 0) (by simp <;> omega) (by simp [go_sem])
  have v1 := upf hb (b := w.heap.size + 1) (o := 1) (by simp <;> omega) (by simp [go_sem])
  have v2 := upf hb (b := w.heap.size + 1) (o := 2) (by simp <;> omega) (by simp [go_sem])
  have v3 := upf hb (b := w.heap.size + 1) (o := 3) (by simp <;> omega) (by simp [go_sem])
  have HC := Lib.hid hown
  have HB1 := Lib.hid (bthen HB.out hb (by omega))
  rw [z] at HC
  clear hb hown K z
  go_wp2_with fail
  refine bodyPost_ret (v := gv cy mo tr a' n c') (by simp [results, Try.results20, go_sem, cell_set, gv, u0, u1, u2, u3]) rfl ?_
  exact ⟨a', c', rfl, own_setb (own_setb (own_setb (own_setb (own_setb HC.out (by omega) _) (by omega) _) (by omega) _) (by omega) _) (by omega) _, ((((HB1.out.setCell (p := ⟨w.heap.size, 3, none⟩) (Nat.le_refl _) _).setCell (p := ⟨w.heap.size + 1, 0, none⟩) (Nat.le_succ _) _).setCell (p := ⟨w.heap.size + 1, 1, none⟩) (Nat.le_succ _) _).setCell (p := ⟨w.heap.size + 1, 2, none⟩) (Nat.le_succ _) _).setCell (p := ⟨w.heap.size + 1, 3, none⟩) (Nat.le_succ _) _⟩
theorem own_vat {w : World} {base n c : Nat} {a : Option Addr} {I S C : Nat → Int} (h : w.ownsRow base 54 3 (.slice a n c) n ((List.range (n * 3)).map (pf I S C))) : CapOk n c ∧ ∃ b, 0 < n → a = some ⟨b, 0, none⟩ ∧ base ≤ b ∧ VAt w b (n * 3) (pf I S C) := by
  obtain ⟨a', c', b, h1, h2, h3, h4⟩ := own_cellsK h
  cases h1
  exact ⟨⟨h2, own_cap h⟩, b, fun h0 => ⟨(h3 h0).1, (h3 h0).2.1, h4, (h3 h0).2.2.2, (h3 h0).2.2.1⟩⟩
theorem clone20 (cy mo tr : Int) (w : World) (a : Option Addr) (n c : Nat) (I S C : Nat → Int) (hn : n ≤ 1000) (h0 : a = none → n = 0) (H : R3 w a n I S C) : Calls Try.prog 20 #[gv cy mo tr a n c] w (CloneR cy mo tr n I S C w) :=
  (clone20o cy mo tr w a n c I S C hn h0 H).mono fun e w' ⟨a', c', he, hown, hb⟩ => by
    obtain ⟨h1, b, h2⟩ := own_vat hown
    exact ⟨a', c', b, he, h1, fun h => ⟨(h2 h).1, by have := (h2 h).2.1; omega, (h2 h).2.2⟩, hb⟩
/-- Whether two rows are the same. -/
def same (n m : Nat) (xs ys : Nat → Int) : Bool := decide (n = m) && !anyB (fun k => decide (xs k ≠ ys k)) n
theorem same_true {n m : Nat} {xs ys : Nat → Int} (h : n = m) (h2 : ∀ k, k < n → xs k = ys k) : same n m xs ys = true := by
  unfold same
  rw [anyB_false.2 (fun k hk => by simp [h2 k hk])]
  simp [h]


theorem same24 (a d : Option Addr) (n c m l : Nat) (xs ys : Nat → Int) (w : World) (R : Row w a n xs) (S : Row w d m ys) (hn : n ≤ maxLen) (hm : m ≤ maxLen) :
    Calls Try.prog 24 #[.slice a n c, .slice d m l] w fun e w' => e = .returned (.bool (same n m xs ys)) ∧ Below w.heap.size w w' := by
  obtain ⟨b, o, ha, hx⟩ := R
  obtain ⟨b2, o2, hd, hy⟩ := S
  have HA := Lib.hid ha
  have HX := Lib.hid hx
  have HD := Lib.hid hd
  have HY := Lib.hid hy
  clear ha hx hd hy
  have hn2 := hn
  unfold maxLen at hn2
  have hm2 := hm
  unfold maxLen at hm2
  by_cases hnm : n = m
  · subst hnm
    go_enter Try.func24, Try.ntmps24
    go_wp2
    go_loopw [5] (fun i wr => ∃ k : Nat, k ≤ n ∧ i = .int .i64 k ∧ anyB (fun k => decide (xs k ≠ ys k)) k = false ∧ Below w.heap.size w wr) (fun i _ => n - (intOf i).toNat)
    case atStart => exact ⟨0, Nat.zero_le _, rfl, rfl, Below.refl _ _⟩
    case round =>
      obtain ⟨k, hk, rfl, hf, hB⟩ := hrel
      have HB := Lib.hid hB
      have HF := Lib.hid hf
      clear hf
      by_cases hlt : k < n
      · have hxk := HX.out k hlt
        have hxw := up hB hxk
        have hyk := HY.out k hlt
        have hyw := up hB hyk
        have hak := HA.out (by omega)
        have hdk := HD.out (by omega)
        subst hak hdk
        by_cases h1 : xs k = ys k
        · have hq : (xs k == ys k) = true := by simp [h1]
          have hq2 : (xs k != ys k) = false := by simp [h1]
          go_wp2_with fail
          go_quiet (fail)
          go_wp2
          go_roundw
          case rel => exact ⟨k + 1, by omega, by go_num, by unfold anyB; rw [HF.out]; simp [h1], ⟨HB.out.os, HB.out.tape, HB.out.output, HB.out.size, HB.out.block⟩⟩
          case measure => simp [intOf]; omega
        · have hq : (xs k == ys k) = false := by simp [h1]
          have hq2 : (xs k != ys k) = true := by simp [h1]
          go_wp2_with fail
          go_quiet (fail)
          go_wp2
          go_ret
          refine ⟨ret_bool ?_, ⟨HB.out.os, HB.out.tape, HB.out.output, HB.out.size, HB.out.block⟩⟩
          unfold same
          rw [anyB_true hlt (by simp [h1])]
          simp
      · have : k = n := by omega
        subst this
        go_wp2
        go_ret
        refine ⟨ret_bool ?_, HB.out⟩
        unfold same
        rw [HF.out]
        simp
  · have h1 : ((n : Int) == (m : Int)) = false := beq_eq_false_iff_ne.2 (by omega)
    have h2 : ((n : Int) != (m : Int)) = true := by rw [bne_iff_ne]; omega
    go_enter Try.func24, Try.ntmps24
    go_wp2
    go_ret
    refine ⟨ret_bool ?_, Below.refl _ _⟩
    unfold same
    simp [hnm]



set_option maxRecDepth 100000 in
set_option maxHeartbeats 4000000 in
theorem same25 (cy mo tr : Int) (a d : Option Addr) (n c l : Nat) (I S C : Nat → Int) (w : World) (H : R3 w a n I S C) (K : R3 w d n I S C) (hn : n ≤ maxLen) :
    Calls Try.prog 25 #[gv cy mo tr a n c, gv cy mo tr d n l] w fun e w' => e = .returned (.bool true) ∧ Below w.heap.size w w' := by
  have hb : Below w.heap.size w ((w.alloc (.cells #[.int .i64 cy, .int .i64 mo, .int .i64 tr, .slice a n c] 25)).alloc (.cells #[.int .i64 cy, .int .i64 mo, .int .i64 tr, .slice d n l] 25)) := ((Below.refl _ _).alloc (Nat.le_refl _) _).alloc (by simp) _
  have HA := Lib.hid (H.mono hb)
  have HD := Lib.hid (K.mono hb)
  have HB := Lib.hid hb
  have b0 : ((w.alloc (.cells #[.int .i64 cy, .int .i64 mo, .int .i64 tr, .slice a n c] 25)).alloc (.cells #[.int .i64 cy, .int .i64 mo, .int .i64 tr, .slice d n l] 25)).cell? ⟨w.heap.size, 3, none⟩ = some (.slice a n c) := by simp [go_sem]
  have b1 : ((w.alloc (.cells #[.int .i64 cy, .int .i64 mo, .int .i64 tr, .slice a n c] 25)).alloc (.cells #[.int .i64 cy, .int .i64 mo, .int .i64 tr, .slice d n l] 25)).cell? ⟨w.heap.size + 1, 3, none⟩ = some (.slice d n l) := by simp [go_sem]
  have HX0 := Lib.hid b0
  have HX1 := Lib.hid b1
  have hs0 : ((w.alloc (.cells #[.int .i64 cy, .int .i64 mo, .int .i64 tr, .slice a n c] 25)).alloc (.cells #[.int .i64 cy, .int .i64 mo, .int .i64 tr, .slice d n l] 25)).heap.size = w.heap.size + 2 := by simp
  have q1 : (cy != cy) = false := by simp
  have q2 : (mo != mo) = false := by simp
  have q3 : (tr != tr) = false := by simp
  have q4 : ((n : Int) != (n : Int)) = false := by simp
  clear H K hb b0 b1
  unfold maxLen at hn
  unfold gv
  go_enter Try.func25, Try.ntmps25
  go_upto_region 3 with fail
  generalize (w.alloc (.cells #[.int .i64 cy, .int .i64 mo, .int .i64 tr, .slice a n c] 25)).alloc (.cells #[.int .i64 cy, .int .i64 mo, .int .i64 tr, .slice d n l] 25) = w0 at *
  go_wp2_with fail
  go_loopw [5] (fun s wr => ∃ k : Nat, s = .int .i64 k ∧ k ≤ n ∧ Below w0.heap.size w0 wr) (fun s _ => n - (intOf s).toNat)
  case atStart => exact ⟨0, rfl, Nat.zero_le _, Below.refl _ _⟩
  case round =>
    obtain ⟨k, rfl, hk, hB⟩ := hrel
    have hsr := hB.size
    have b0 := up hB HX0.out
    have b1 := up hB HX1.out
    have HB1 := Lib.hid hB
    have HBW := Lib.hid (bthen HB.out (show Below w0.heap.size w0 wr from hB) (by omega))
    by_cases hlt : k < n
    · obtain ⟨b, m, h1, h2⟩ := HA.out.mono hB
      obtain ⟨b', m', h1', h2'⟩ := HD.out.mono hB
      obtain rfl := h1 (by omega)
      obtain rfl := h1' (by omega)
      obtain ⟨c0, c1, c2⟩ := h2 k hlt
      obtain ⟨d0, d1, d2⟩ := h2' k hlt
      have i1 : (0 : Int) ≤ (k : Int) := by omega
      have i2 : (k : Int) < (n : Int) := by omega
      clear h1 h2 h1' h2' hB
      go_wp2_with fail
      go_quiet (fail)
      have HB2 := Lib.hid (below_drewN HB1.out nq)
      clear b0 b1 c0 c1 c2 d0 d1 d2
      go_wp2
      go_roundw
      case rel => exact ⟨k + 1, by go_num, by omega, HB2.out⟩
      case measure => simp [intOf]; omega
    · obtain rfl : k = n := by omega
      clear hB
      go_wp2
      go_ret
      exact ⟨rfl, HBW.out⟩
end Go.Proofs.Ytobmnajgbhgdlaa
