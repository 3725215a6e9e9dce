import Derived.Test.YtgflfdnajchjaaaGreatDoorJP
import Derived.Test.YtgflfdnajchjaaaGreatDoorJB
/- Layer 45: a line behind the first ones is put to the document: a piece of the channel script. -/
namespace Go.Proofs.YtgflfdnajchjaaaGreatDoor
set_option linter.unusedVariables false
set_option linter.unusedSimpArgs false
open Go.RowKit Go.Sort
open Tm
attribute [local go_sem] gcell bs_tl
theorem words51' (w : World) : Calls Tryz.prog 51 #[] w fun e w' => e = .returned (.agg #[.string (bs wNetwork), .string (bs wPatience), .string (bs wRule), .string (bs wOuter), .string (bs wFade), .string (bs wTerminal), .string (bs wBearer), .string (bs wPacket)]) ∧ Below w.heap.size w w' := words51 w
def Cnt (c : Cf) (T : Nat → Te) (n m : Nat) : Prop := c.fn ≤ m ∧ c.tn ≤ m ∧ n ≤ m ∧ ∀ k, k < c.tn → (T k).bn ≤ m
/-- What putting a line to a document hands back. -/
def AddPost (w : World) (B z m : Nat) (o : Option (Nat × DocS)) (e : Ending) (w' : World) : Prop := match o with
  | some (st', D') => e = .returned (.tuple #[.int .i64 ((st' : Int) - 1), .bool true]) ∧ (∃ c X T lv n Q, DocW w' B z c X T lv n Q ∧ docOf c X T n Q = D' ∧ Cnt c T n (m + 1)) ∧ Below B w w'
  | none => (∃ x, e = .returned (.tuple #[.int .i64 x, .bool false])) ∧ Below B w w'
theorem cells5 {vs : List Int} (h : vs.length = 5) : setC #[.int .i64 0, .int .i64 0, .int .i64 0, .int .i64 0, .int .i64 0] [0, 1, 2, 3, 4] vs = #[.int .i64 (vs.getD 0 0), .int .i64 (vs.getD 1 0), .int .i64 (vs.getD 2 0), .int .i64 (vs.getD 3 0), .int .i64 (vs.getD 4 0)] := by
  match vs, h with
  | [a, b, c, d, e], _ => rfl
theorem pz86 : (Tryz.prog.info? 86).map (fun i => (i.zero, i.size, i.bytes)) = some (some (.agg #[.int .i64 0, .int .i64 0, .int .i64 0, .int .i64 0, .int .i64 0]), 5, 40) := by kernel_rfl
set_option maxRecDepth 100000 in
set_option maxHeartbeats 4000000 in
theorem addF (s : ByteArray) (hs : s.size ≤ 1000000) (w : World) (G : Gl w) (B z : Nat) (c : Cf) (X : Nat → Ch.Fd) (T : Nat → Te) (lv : Value) (n : Nat) (Q : Nat → Tr) (D : DocW w B z c X T lv n Q) (hB : 8 ≤ B) (hBw : B ≤ w.heap.size) (m : Nat) (hC : Cnt c T n m) (hm : m + 1 ≤ 1000000)
    (st : Nat) (h4 : 4 ≤ st) (h5 : st ≤ 5) (hw : (spl 32 s.data.toList).headD [] = wFade) :
    Calls Tryz.prog 37 #[.pointer (some ⟨z, 0, none⟩), .string s, .int .i64 ((st : Int) - 1)] w (AddPost w B z m (stepP st (docOf c X T n Q) s.data.toList)) := by
  have hstep : stepP st (docOf c X T n Q) s.data.toList = (okW (readS wFade 5 s.data.toList)).map fun ns => (5, { docOf c X T n Q with fades := (docOf c X T n Q).fades ++ [ns] }) := by
    unfold stepP
    rw [if_neg (by omega), if_neg (by omega), if_neg (by omega), if_neg (by omega), if_pos ⟨hw, h5⟩]
  rw [hstep]
  clear hstep
  have HD := Lib.hid D
  have HG := Lib.hid G
  have HC := Lib.hid hC
  have hC' : c.fn + 1 ≤ 1000000 := by have := hC.1; omega
  have KC := Lib.hid (cut57 s hs 32 w G)
  rw [hw] at KC
  have heq : (wFade == wFade) = true := beq_self_eq_true _
  have KW := Lib.hid (fun (W : World) (GW : Gl W) (b zb : Nat) HP hbw hzb hne h16 => whole_box 4 (by omega) s hs b zb [0, 1, 2, 3, 4] #[.int .i64 0, .int .i64 0, .int .i64 0, .int .i64 0, .int .i64 0] 86 W GW HP hbw hzb hne h16 (by intro k hk; simp at hk; rcases hk with rfl | rfl | rfl | rfl | rfl <;> rfl) (by decide) (by simp))
  have hlen5 : ([0, 1, 2, 3, 4] : List Nat).length = 5 := rfl
  rw [hlen5] at KW
  have eW : wordAt 4 = wFade := rfl
  rw [eW] at KW
  clear D G hC hlen5 eW hw
  generalize okW (readS wFade 5 s.data.toList) = o at *
  go_enter Tryz.func37, Tryz.ntmps37
  go_wp2_with (first | (go_at_call 57; refine KC.out.mono ?_; rintro e w1 ⟨x1, y1, rfl, hb1⟩; have HB1 := Lib.hid hb1; clear hb1 KC) | (go_at_call 51; refine (words51' _).mono ?_; rintro e w2 ⟨rfl, hb2⟩; have HB2 := Lib.hid (bthen' HB1.out hb2); clear hb2) | (go_at_call 29; refine (fade29 _ _ _).mono ?_; rintro e w3 ⟨rfl, hp3, hb3, hs3⟩; refine Hid.out ?_))
  refine Lib.hid ?_
  have hs2 := HB2.out.size
  have hz3 : w3.heap[w2.heap.size + 1]? = some (.cells #[.int .i64 0, .int .i64 0, .int .i64 0, .int .i64 0, .int .i64 0] 86 (0, 0)) := (hb3.block _ (by simp)).trans (by
    have := (MapKept.heap_alloc (w2.alloc (.cells #[.string (bs wNetwork), .string (bs wPatience), .string (bs wRule), .string (bs wOuter), .string (bs wFade), .string (bs wTerminal), .string (bs wBearer), .string (bs wPacket)] 126)) (.cells #[.int .i64 0, .int .i64 0, .int .i64 0, .int .i64 0, .int .i64 0] 86)).1
    simpa using this)
  have HB3 := Lib.hid (bthen (((HB2.out).alloc hs2 _).alloc (by simp; omega) _) hb3 (by simp; omega))
  have hsz3 : w3.heap.size = w2.heap.size + 1 + 1 + 1 := by simpa using hs3
  have KW3 := Lib.hid (KW.out w3 (HG.out.mono HB3.out) (w2.heap.size + 1 + 1) (w2.heap.size + 1) (by simpa using hp3) (by omega) hz3 (by omega) (by have := HG.out.sz; omega))
  clear hp3 hb3 hs3 hz3 KW
  have HS3 := Lib.hid hsz3
  clear hsz3
  go_wp2_with (go_at_call 36; refine KW3.out.mono ?_; rintro e w4 ⟨ok, vs, rfl, hvl, hz4, hot4, hb4, hres⟩; refine Hid.out ?_)
  refine Lib.hid ?_
  have HB4 := Lib.hid (HB3.out.trans (hb4.mono (by omega)))
  have HD4 := Lib.hid (HD.out.mono HB4.out)
  rw [cells5 hvl] at hz4
  have HRes := Lib.hid hres
  have HVL := Lib.hid hvl
  have HZ4 := Lib.hid hz4
  have hzs := heap_lt hz4
  clear hres hvl hz4 hot4 hb4 KW3
  go_wp2
  have HV := Lib.hid (show fdD vs = ⟨vs.getD 0 0, vs.getD 1 0, vs.getD 2 0, vs.getD 3 0, vs.getD 4 0⟩ from rfl)
  generalize vs.getD 0 0 = v0 at *
  generalize vs.getD 1 0 = v1 at *
  generalize vs.getD 2 0 = v2 at *
  generalize vs.getD 3 0 = v3 at *
  generalize vs.getD 4 0 = v4 at *
  refine wp_region_peelF 1 8 (fun i v u => match i with
    | 0 => True
    | 1 => v = .pointer (some ⟨z, 0, none⟩)
    | 2 => v = .pointer (some ⟨z, 0, none⟩)
    | 3 => v = .pointer (some ⟨z, 0, none⟩)
    | 4 => v = .pointer (some ⟨z, 18, none⟩)
    | 5 => v = .slice c.fa c.fn c.fc
    | 6 => v = .agg #[.int .i64 v0, .int .i64 v1, .int .i64 v2, .int .i64 v3, .int .i64 v4]
    | _ => ∃ b, v = .slice (some ⟨b, 0, none⟩) 1 1 ∧ w4.heap.size ≤ b ∧ u.heap[b]? = some (.cells #[.int .i64 v0, .int .i64 v1, .int .i64 v2, .int .i64 v3, .int .i64 v4] 86 (0, 0))) (by kernel_rfl) (by kernel_rfl) ⟨.pointer (some ⟨z, 0, none⟩), Or.inl ⟨rfl, fun _ => rfl⟩, rfl⟩ (fun _ _ d _ _ h => by cases d <;> exact h) ?_ ?_ ?_
  · intro i v u u' hb h
    have : i = 0 ∨ i = 1 ∨ i = 2 ∨ i = 3 ∨ i = 4 ∨ i = 5 ∨ i = 6 ∨ 7 ≤ i := by omega
    rcases this with rfl | rfl | rfl | rfl | rfl | rfl | rfl | h7
    · exact h
    · exact h
    · exact h
    · exact h
    · exact h
    · exact h
    · exact h
    · obtain ⟨i, rfl⟩ : ∃ k, i = k + 7 := ⟨i - 7, by omega⟩
      obtain ⟨b, h1, h2, h3⟩ := h
      exact ⟨b, h1, h2, (hb.block b (heap_lt h3)).trans h3⟩
  · intro i o hi0 hi ho vf u hb hd
    have hi' : i = 1 ∨ i = 2 ∨ i = 3 ∨ i = 4 ∨ i = 5 ∨ i = 6 ∨ i = 7 := by omega
    rcases hi' with rfl | rfl | rfl | rfl | rfl | rfl | rfl
    · obtain rfl := Option.some.inj ho
      clear hd
      simp only [fillA, List.take_succ_cons, List.take_zero, List.drop_succ_cons, List.drop_zero]
      go_wp2
      exact ⟨rfl, Below.refl _ _, rfl⟩
    · obtain rfl := Option.some.inj ho
      have f1 := hd 1 (by omega) (by omega) (by kernel_rfl)
      clear hd
      simp only [fillA, List.take_succ_cons, List.take_zero, List.drop_succ_cons, List.drop_zero]
      go_wp2
      exact ⟨rfl, Below.refl _ _, rfl⟩
    · obtain rfl := Option.some.inj ho
      have f2 := hd 2 (by omega) (by omega) (by kernel_rfl)
      clear hd
      simp only [fillA, List.take_succ_cons, List.take_zero, List.drop_succ_cons, List.drop_zero]
      go_wp2
      exact ⟨rfl, Below.refl _ _, rfl⟩
    · obtain rfl := Option.some.inj ho
      have f3 := hd 3 (by omega) (by omega) (by kernel_rfl)
      clear hd
      simp only [fillA, List.take_succ_cons, List.take_zero, List.drop_succ_cons, List.drop_zero]
      go_wp2
      exact ⟨rfl, Below.refl _ _, rfl⟩
    · obtain rfl := Option.some.inj ho
      have f4 := hd 4 (by omega) (by omega) (by kernel_rfl)
      have hc := cell_box (HD4.out.mono hb).hz (k := 18) (v := .slice c.fa c.fn c.fc) rfl
      clear hd
      simp only [fillA, List.take_succ_cons, List.take_zero, List.drop_succ_cons, List.drop_zero]
      go_wp2
      exact ⟨rfl, Below.refl _ _, rfl⟩
    · obtain rfl := Option.some.inj ho
      have hc0 := cell_box ((hb.block _ hzs).trans HZ4.out) (k := 0) (v := .int .i64 v0) rfl
      have hc1 := cell_box ((hb.block _ hzs).trans HZ4.out) (k := 1) (v := .int .i64 v1) rfl
      have hc2 := cell_box ((hb.block _ hzs).trans HZ4.out) (k := 2) (v := .int .i64 v2) rfl
      have hc3 := cell_box ((hb.block _ hzs).trans HZ4.out) (k := 3) (v := .int .i64 v3) rfl
      have hc4 := cell_box ((hb.block _ hzs).trans HZ4.out) (k := 4) (v := .int .i64 v4) rfl
      clear hd
      simp only [fillA, List.take_succ_cons, List.take_zero, List.drop_succ_cons, List.drop_zero]
      go_wp2
      exact ⟨rfl, Below.refl _ _, rfl⟩
    · obtain rfl := Option.some.inj ho
      have f6 := hd 6 (by omega) (by omega) (by kernel_rfl)
      clear hd
      simp only [fillA, List.take_succ_cons, List.take_zero, List.drop_succ_cons, List.drop_zero]
      go_wp2
      exact ⟨rfl, (Below.refl _ _).alloc (Nat.le_refl _) _, u.heap.size, rfl, hb.size, (MapKept.heap_alloc u _).1⟩
  · intro vf u hb hd
    have f1 := hd 1 (by omega) (by omega)
    have f2 := hd 2 (by omega) (by omega)
    have f3 := hd 3 (by omega) (by omega)
    have f4 := hd 4 (by omega) (by omega)
    have f5 := hd 5 (by omega) (by omega)
    have f6 := hd 6 (by omega) (by omega)
    obtain ⟨bb, f7, hbb, hcell⟩ := hd 7 (by omega) (by omega)
    clear hd
    have HD5 := Lib.hid (HD4.out.mono hb)
    have HB5 := Lib.hid (bthen' HB4.out hb)
    have HX := Lib.hid (show ∀ j, j < 5 → (#[Value.int .i64 v0, .int .i64 v1, .int .i64 v2, .int .i64 v3, .int .i64 v4] : Array Value)[j]? = some (fdv (addX X c.fn vs) (c.fn * 5 + j)) from fun j hj => by
      rw [fdv_at _ _ _ hj]
      unfold addX
      rw [if_pos rfl, HV.out]
      have : j = 0 ∨ j = 1 ∨ j = 2 ∨ j = 3 ∨ j = 4 := by omega
      rcases this with rfl | rfl | rfl | rfl | rfl <;> rfl)
    have HX2 := Lib.hid (show ∀ j, j < c.fn * 5 → fdv (addX X c.fn vs) j = fdv X j from fun j hj => by
      unfold fdv addX
      rw [if_neg (by omega)])
    have HBz := Lib.hid (Nat.le_trans hBw HB5.out.size)
    have HF := Lib.hid hC'
    clear hb hC'
    simp only [fillA, List.take_succ_cons, List.take_zero, List.drop_succ_cons, List.drop_zero]
    go_wp2_with (at_builtin; refine Hid.out ?_)
    refine Lib.hid ?_
    refine wpList_append_at u B rfl (.tmp 48) (.tmp 50) 34 rfl 86 (.agg #[.int .i64 0, .int .i64 0, .int .i64 0, .int .i64 0, .int .i64 0]) 5 40 Tryz.underlying34 pz86 rfl (by decide) (by decide) _ c.fn (fdv X) rfl bb #[.int .i64 v0, .int .i64 v1, .int .i64 v2, .int .i64 v3, .int .i64 v4] (0, 0) rfl hcell rfl (by intro y hy; simp at hy; rcases hy with rfl | rfl | rfl | rfl | rfl <;> rfl) (fdv (addX X c.fn vs)) HX2.out HX.out HD5.out.f HBz.out HF.out ?_
    intro v' w5 hown hgrow _
    obtain ⟨a', c', rfl, -, -, -⟩ := own_slice hown
    have HN := Lib.hid (HD5.out.addF hown hgrow)
    have hz5 : w5.heap[z]? = some (.cells (docCs c lv) 81 (0, 0)) := (hgrow.block z (heap_lt HD5.out.hz) (fun e => own_ne HD5.out.f HD5.out.hz (by decide) e.symm rfl)).trans HD5.out.hz
    have hc18 := cell_box hz5 (k := 18) (v := .slice c.fa c.fn c.fc) rfl
    have hf18 := frozen_of_row w5 z 18 _ _ hz5
    have HB6 := Lib.hid ((HB5.out.mono hBw).grown hgrow HBz.out (fun k hk => (HD5.out.f.lt k hk).1))
    clear hown hgrow hz5 hcell f1 f2 f3 f4 f5 f6 f7
    go_wp2
    go_ret2
    have HB7 := HB6.out.setCell (p := ⟨z, 18, none⟩) HD.out.bz (.slice a' (c.fn + 1) c')
    have hres := HRes.out
    have hcnt := HC.out
    rcases o with _ | ns
    · obtain rfl := hres
      exact ⟨⟨4, rfl⟩, HB7⟩
    · obtain ⟨rfl, rfl⟩ := hres
      exact ⟨rfl, ⟨_, _, _, _, _, _, HN.out, docOf_addF c X T n Q a' c' HVL.out, ⟨Nat.succ_le_succ hcnt.1, Nat.le_succ_of_le hcnt.2.1, Nat.le_succ_of_le hcnt.2.2.1, fun k hk => Nat.le_succ_of_le (hcnt.2.2.2 k hk)⟩⟩, HB7⟩
end Go.Proofs.YtgflfdnajchjaaaGreatDoor
/- Layer 45: a line behind the first ones is put to the document: a terminal. -/
namespace Go.Proofs.YtgflfdnajchjaaaGreatDoor
set_option linter.unusedVariables false
set_option linter.unusedSimpArgs false
open Go.RowKit Go.Sort
open Tm
attribute [local go_sem] gcell bs_tl
theorem cells14 {vs : List Int} (h : vs.length = 12) : setC #[.int .i64 0, .int .i64 0, .slice none 0 0, .slice none 0 0, .int .i64 0, .int .i64 0, .int .i64 0, .int .i64 0, .int .i64 0, .int .i64 0, .int .i64 0, .int .i64 0, .int .i64 0, .int .i64 0] [0, 1, 13, 4, 5, 6, 7, 8, 9, 10, 11, 12] vs = #[.int .i64 (vs.getD 0 0), .int .i64 (vs.getD 1 0), .slice none 0 0, .slice none 0 0, .int .i64 (vs.getD 3 0), .int .i64 (vs.getD 4 0), .int .i64 (vs.getD 5 0), .int .i64 (vs.getD 6 0), .int .i64 (vs.getD 7 0), .int .i64 (vs.getD 8 0), .int .i64 (vs.getD 9 0), .int .i64 (vs.getD 10 0), .int .i64 (vs.getD 11 0), .int .i64 (vs.getD 2 0)] := by
  match vs, h with
  | [a0, a1, a2, a3, a4, a5, a6, a7, a8, a9, a10, a11], _ => simp [setC]
theorem pz57 : (Tryz.prog.info? 57).map (fun i => (i.zero, i.size, i.bytes)) = some (some (.agg #[.int .i64 0, .int .i64 0, .slice none 0 0, .slice none 0 0, .int .i64 0, .int .i64 0, .int .i64 0, .int .i64 0, .int .i64 0, .int .i64 0, .int .i64 0, .int .i64 0, .int .i64 0, .int .i64 0]), 14, 144) := by kernel_rfl
set_option maxRecDepth 100000 in
set_option maxHeartbeats 4000000 in
theorem addT (s : ByteArray) (hs : s.size ≤ 1000000) (w : World) (G : Gl w) (B z : Nat) (c : Cf) (X : Nat → Ch.Fd) (T : Nat → Te) (lv : Value) (n : Nat) (Q : Nat → Tr) (D : DocW w B z c X T lv n Q) (hB : 8 ≤ B) (hBw : B ≤ w.heap.size) (m : Nat) (hC : Cnt c T n m) (hm : m + 1 ≤ 1000000)
    (st : Nat) (h4 : 4 ≤ st) (h5 : st ≤ 7) (hw : (spl 32 s.data.toList).headD [] = wTerminal) :
    Calls Tryz.prog 37 #[.pointer (some ⟨z, 0, none⟩), .string s, .int .i64 ((st : Int) - 1)] w (AddPost w B z m (stepP st (docOf c X T n Q) s.data.toList)) := by
  have hstep : stepP st (docOf c X T n Q) s.data.toList = (okW (readS wTerminal 12 s.data.toList)).map fun ns => (6, { docOf c X T n Q with terms := (docOf c X T n Q).terms ++ [⟨ns, []⟩] }) := by
    unfold stepP
    rw [if_neg (by omega), if_neg (by omega), if_neg (by omega), if_neg (by omega), if_neg (fun h => words_ne.2.2.2.2.2.2.2.1 (h.1.symm.trans hw)), if_pos ⟨hw, h5⟩]
  rw [hstep]
  clear hstep
  have HD := Lib.hid D
  have HG := Lib.hid G
  have HC := Lib.hid hC
  have hC' : c.tn + 1 ≤ 1000000 := by have := hC.2.1; omega
  have KC := Lib.hid (cut57 s hs 32 w G)
  rw [hw] at KC
  have heq : (wTerminal == wTerminal) = true := beq_self_eq_true _
  have hne1 : (wTerminal == wFade) = false := by decide
  have KW := Lib.hid (fun (W : World) (GW : Gl W) (b zb : Nat) HP hbw hzb hne h16 => whole_box 5 (by omega) s hs b zb [0, 1, 13, 4, 5, 6, 7, 8, 9, 10, 11, 12] #[.int .i64 0, .int .i64 0, .slice none 0 0, .slice none 0 0, .int .i64 0, .int .i64 0, .int .i64 0, .int .i64 0, .int .i64 0, .int .i64 0, .int .i64 0, .int .i64 0, .int .i64 0, .int .i64 0] 57 W GW HP hbw hzb hne h16 (by intro k hk; simp at hk; rcases hk with rfl | rfl | rfl | rfl | rfl | rfl | rfl | rfl | rfl | rfl | rfl | rfl <;> rfl) (by decide) (by simp))
  have hlen5 : ([0, 1, 13, 4, 5, 6, 7, 8, 9, 10, 11, 12] : List Nat).length = 12 := rfl
  rw [hlen5] at KW
  have eW : wordAt 5 = wTerminal := rfl
  rw [eW] at KW
  clear D G hC hlen5 eW hw
  generalize okW (readS wTerminal 12 s.data.toList) = o at *
  go_enter Tryz.func37, Tryz.ntmps37
  go_wp2_with (first | (go_at_call 57; refine KC.out.mono ?_; rintro e w1 ⟨x1, y1, rfl, hb1⟩; have HB1 := Lib.hid hb1; clear hb1 KC) | (go_at_call 51; refine (words51' _).mono ?_; rintro e w2 ⟨rfl, hb2⟩; have HB2 := Lib.hid (bthen' HB1.out hb2); clear hb2) | (go_at_call 30; refine (terminal30 _ _ _).mono ?_; rintro e w3 ⟨rfl, hp3, hb3, hs3⟩; refine Hid.out ?_))
  refine Lib.hid ?_
  have hs2 := HB2.out.size
  have hz3 : w3.heap[w2.heap.size + 1]? = some (.cells #[.int .i64 0, .int .i64 0, .slice none 0 0, .slice none 0 0, .int .i64 0, .int .i64 0, .int .i64 0, .int .i64 0, .int .i64 0, .int .i64 0, .int .i64 0, .int .i64 0, .int .i64 0, .int .i64 0] 57 (0, 0)) := (hb3.block _ (by simp)).trans (by
    have := (MapKept.heap_alloc (w2.alloc (.cells #[.string (bs wNetwork), .string (bs wPatience), .string (bs wRule), .string (bs wOuter), .string (bs wFade), .string (bs wTerminal), .string (bs wBearer), .string (bs wPacket)] 126)) (.cells #[.int .i64 0, .int .i64 0, .slice none 0 0, .slice none 0 0, .int .i64 0, .int .i64 0, .int .i64 0, .int .i64 0, .int .i64 0, .int .i64 0, .int .i64 0, .int .i64 0, .int .i64 0, .int .i64 0] 57)).1
    simpa using this)
  have HB3 := Lib.hid (bthen (((HB2.out).alloc hs2 _).alloc (by simp; omega) _) hb3 (by simp; omega))
  have hsz3 : w3.heap.size = w2.heap.size + 1 + 1 + 1 := by simpa using hs3
  have KW3 := Lib.hid (KW.out w3 (HG.out.mono HB3.out) (w2.heap.size + 1 + 1) (w2.heap.size + 1) (by simpa using hp3) (by omega) hz3 (by omega) (by have := HG.out.sz; omega))
  clear hp3 hb3 hs3 hz3 KW
  have HS3 := Lib.hid hsz3
  clear hsz3
  go_wp2_with (go_at_call 36; refine KW3.out.mono ?_; rintro e w4 ⟨ok, vs, rfl, hvl, hz4, hot4, hb4, hres⟩; refine Hid.out ?_)
  refine Lib.hid ?_
  have HB4 := Lib.hid (HB3.out.trans (hb4.mono (by omega)))
  have HD4 := Lib.hid (HD.out.mono HB4.out)
  rw [cells14 hvl] at hz4
  have HRes := Lib.hid hres
  have HVL := Lib.hid hvl
  have HZ4 := Lib.hid hz4
  have hzs := heap_lt hz4
  clear hres hvl hz4 hot4 hb4 KW3
  go_wp2
  have HV := Lib.hid (show teN vs = { cl := vs.getD 0 0, cs := vs.getD 1 0, bt := vs.getD 2 0, fr := vs.getD 3 0, wd := vs.getD 4 0, bk := vs.getD 5 0, cy := vs.getD 6 0, of' := vs.getD 7 0, on' := vs.getD 8 0, li := vs.getD 9 0, sh := vs.getD 10 0, ss := vs.getD 11 0, ba := none, bn := 0, bc := 0, ka := none, kn := 0, kc := 0, be := (teN vs).be, P := (teN vs).P, R := (teN vs).R, M := (teN vs).M, T := (teN vs).T } from rfl)
  generalize vs.getD 0 0 = v0 at *
  generalize vs.getD 1 0 = v1 at *
  generalize vs.getD 2 0 = v2 at *
  generalize vs.getD 3 0 = v3 at *
  generalize vs.getD 4 0 = v4 at *
  generalize vs.getD 5 0 = v5 at *
  generalize vs.getD 6 0 = v6 at *
  generalize vs.getD 7 0 = v7 at *
  generalize vs.getD 8 0 = v8 at *
  generalize vs.getD 9 0 = v9 at *
  generalize vs.getD 10 0 = v10 at *
  generalize vs.getD 11 0 = v11 at *
  refine wp_region_peelF 1 8 (fun i v u => match i with
    | 0 => True
    | 1 => v = .pointer (some ⟨z, 0, none⟩)
    | 2 => v = .pointer (some ⟨z, 0, none⟩)
    | 3 => v = .pointer (some ⟨z, 0, none⟩)
    | 4 => v = .pointer (some ⟨z, 19, none⟩)
    | 5 => v = .slice c.ta c.tn c.tc
    | 6 => v = .agg #[.int .i64 v0, .int .i64 v1, .slice none 0 0, .slice none 0 0, .int .i64 v3, .int .i64 v4, .int .i64 v5, .int .i64 v6, .int .i64 v7, .int .i64 v8, .int .i64 v9, .int .i64 v10, .int .i64 v11, .int .i64 v2]
    | _ => ∃ b, v = .slice (some ⟨b, 0, none⟩) 1 1 ∧ w4.heap.size ≤ b ∧ u.heap[b]? = some (.cells #[.int .i64 v0, .int .i64 v1, .slice none 0 0, .slice none 0 0, .int .i64 v3, .int .i64 v4, .int .i64 v5, .int .i64 v6, .int .i64 v7, .int .i64 v8, .int .i64 v9, .int .i64 v10, .int .i64 v11, .int .i64 v2] 57 (0, 0))) (by kernel_rfl) (by kernel_rfl) ⟨.pointer (some ⟨z, 0, none⟩), Or.inl ⟨rfl, fun _ => rfl⟩, rfl⟩ (fun _ _ d _ _ h => by cases d <;> exact h) ?_ ?_ ?_
  · intro i v u u' hb h
    have : i = 0 ∨ i = 1 ∨ i = 2 ∨ i = 3 ∨ i = 4 ∨ i = 5 ∨ i = 6 ∨ 7 ≤ i := by omega
    rcases this with rfl | rfl | rfl | rfl | rfl | rfl | rfl | h7
    · exact h
    · exact h
    · exact h
    · exact h
    · exact h
    · exact h
    · exact h
    · obtain ⟨i, rfl⟩ : ∃ k, i = k + 7 := ⟨i - 7, by omega⟩
      obtain ⟨b, h1, h2, h3⟩ := h
      exact ⟨b, h1, h2, (hb.block b (heap_lt h3)).trans h3⟩
  · intro i o hi0 hi ho vf u hb hd
    have hi' : i = 1 ∨ i = 2 ∨ i = 3 ∨ i = 4 ∨ i = 5 ∨ i = 6 ∨ i = 7 := by omega
    rcases hi' with rfl | rfl | rfl | rfl | rfl | rfl | rfl
    · obtain rfl := Option.some.inj ho
      clear hd
      simp only [fillA, List.take_succ_cons, List.take_zero, List.drop_succ_cons, List.drop_zero]
      go_wp2
      exact ⟨rfl, Below.refl _ _, rfl⟩
    · obtain rfl := Option.some.inj ho
      have f1 := hd 1 (by omega) (by omega) (by kernel_rfl)
      clear hd
      simp only [fillA, List.take_succ_cons, List.take_zero, List.drop_succ_cons, List.drop_zero]
      go_wp2
      exact ⟨rfl, Below.refl _ _, rfl⟩
    · obtain rfl := Option.some.inj ho
      have f2 := hd 2 (by omega) (by omega) (by kernel_rfl)
      clear hd
      simp only [fillA, List.take_succ_cons, List.take_zero, List.drop_succ_cons, List.drop_zero]
      go_wp2
      exact ⟨rfl, Below.refl _ _, rfl⟩
    · obtain rfl := Option.some.inj ho
      have f3 := hd 3 (by omega) (by omega) (by kernel_rfl)
      clear hd
      simp only [fillA, List.take_succ_cons, List.take_zero, List.drop_succ_cons, List.drop_zero]
      go_wp2
      exact ⟨rfl, Below.refl _ _, rfl⟩
    · obtain rfl := Option.some.inj ho
      have f4 := hd 4 (by omega) (by omega) (by kernel_rfl)
      have hc := cell_box (HD4.out.mono hb).hz (k := 19) (v := .slice c.ta c.tn c.tc) rfl
      clear hd
      simp only [fillA, List.take_succ_cons, List.take_zero, List.drop_succ_cons, List.drop_zero]
      go_wp2
      exact ⟨rfl, Below.refl _ _, rfl⟩
    · obtain rfl := Option.some.inj ho
      have hc0 := cell_box ((hb.block _ hzs).trans HZ4.out) (k := 0) (v := .int .i64 v0) rfl
      have hc1 := cell_box ((hb.block _ hzs).trans HZ4.out) (k := 1) (v := .int .i64 v1) rfl
      have hc2 := cell_box ((hb.block _ hzs).trans HZ4.out) (k := 2) (v := .slice none 0 0) rfl
      have hc3 := cell_box ((hb.block _ hzs).trans HZ4.out) (k := 3) (v := .slice none 0 0) rfl
      have hc4 := cell_box ((hb.block _ hzs).trans HZ4.out) (k := 4) (v := .int .i64 v3) rfl
      have hc5 := cell_box ((hb.block _ hzs).trans HZ4.out) (k := 5) (v := .int .i64 v4) rfl
      have hc6 := cell_box ((hb.block _ hzs).trans HZ4.out) (k := 6) (v := .int .i64 v5) rfl
      have hc7 := cell_box ((hb.block _ hzs).trans HZ4.out) (k := 7) (v := .int .i64 v6) rfl
      have hc8 := cell_box ((hb.block _ hzs).trans HZ4.out) (k := 8) (v := .int .i64 v7) rfl
      have hc9 := cell_box ((hb.block _ hzs).trans HZ4.out) (k := 9) (v := .int .i64 v8) rfl
      have hc10 := cell_box ((hb.block _ hzs).trans HZ4.out) (k := 10) (v := .int .i64 v9) rfl
      have hc11 := cell_box ((hb.block _ hzs).trans HZ4.out) (k := 11) (v := .int .i64 v10) rfl
      have hc12 := cell_box ((hb.block _ hzs).trans HZ4.out) (k := 12) (v := .int .i64 v11) rfl
      have hc13 := cell_box ((hb.block _ hzs).trans HZ4.out) (k := 13) (v := .int .i64 v2) rfl
      clear hd
      simp only [fillA, List.take_succ_cons, List.take_zero, List.drop_succ_cons, List.drop_zero]
      go_wp2
      exact ⟨rfl, Below.refl _ _, rfl⟩
    · obtain rfl := Option.some.inj ho
      have f6 := hd 6 (by omega) (by omega) (by kernel_rfl)
      clear hd
      simp only [fillA, List.take_succ_cons, List.take_zero, List.drop_succ_cons, List.drop_zero]
      go_wp2
      exact ⟨rfl, (Below.refl _ _).alloc (Nat.le_refl _) _, u.heap.size, rfl, hb.size, (MapKept.heap_alloc u _).1⟩
  · intro vf u hb hd
    have f1 := hd 1 (by omega) (by omega)
    have f2 := hd 2 (by omega) (by omega)
    have f3 := hd 3 (by omega) (by omega)
    have f4 := hd 4 (by omega) (by omega)
    have f5 := hd 5 (by omega) (by omega)
    have f6 := hd 6 (by omega) (by omega)
    obtain ⟨bb, f7, hbb, hcell⟩ := hd 7 (by omega) (by omega)
    clear hd
    have HD5 := Lib.hid (HD4.out.mono hb)
    have HB5 := Lib.hid (bthen' HB4.out hb)
    have HX := Lib.hid (show ∀ j, j < 14 → (#[.int .i64 v0, .int .i64 v1, .slice none 0 0, .slice none 0 0, .int .i64 v3, .int .i64 v4, .int .i64 v5, .int .i64 v6, .int .i64 v7, .int .i64 v8, .int .i64 v9, .int .i64 v10, .int .i64 v11, .int .i64 v2] : Array Value)[j]? = some (tev' (addTm T c.tn vs) (c.tn * 14 + j)) from fun j hj => by
      rw [tev_at _ _ _ hj]
      unfold addTm
      rw [if_pos rfl, HV.out]
      have : j = 0 ∨ j = 1 ∨ j = 2 ∨ j = 3 ∨ j = 4 ∨ j = 5 ∨ j = 6 ∨ j = 7 ∨ j = 8 ∨ j = 9 ∨ j = 10 ∨ j = 11 ∨ j = 12 ∨ j = 13 := by omega
      rcases this with rfl | rfl | rfl | rfl | rfl | rfl | rfl | rfl | rfl | rfl | rfl | rfl | rfl | rfl <;> rfl)
    have HX2 := Lib.hid (show ∀ j, j < c.tn * 14 → tev' (addTm T c.tn vs) j = tev' T j from fun j hj => by
      unfold tev' addTm
      rw [if_neg (by omega)])
    have HBz := Lib.hid (Nat.le_trans hBw HB5.out.size)
    have HF := Lib.hid hC'
    clear hb hC'
    simp only [fillA, List.take_succ_cons, List.take_zero, List.drop_succ_cons, List.drop_zero]
    go_wp2_with (at_builtin; refine Hid.out ?_)
    refine Lib.hid ?_
    refine wpList_append_at u B rfl (.tmp 73) (.tmp 75) 35 rfl 57 (.agg #[.int .i64 0, .int .i64 0, .slice none 0 0, .slice none 0 0, .int .i64 0, .int .i64 0, .int .i64 0, .int .i64 0, .int .i64 0, .int .i64 0, .int .i64 0, .int .i64 0, .int .i64 0, .int .i64 0]) 14 144 Tryz.underlying35 pz57 rfl (by decide) (by decide) _ c.tn (tev' T) rfl bb #[.int .i64 v0, .int .i64 v1, .slice none 0 0, .slice none 0 0, .int .i64 v3, .int .i64 v4, .int .i64 v5, .int .i64 v6, .int .i64 v7, .int .i64 v8, .int .i64 v9, .int .i64 v10, .int .i64 v11, .int .i64 v2] (0, 0) rfl hcell rfl (by intro y hy; simp at hy; rcases hy with rfl | rfl | rfl | rfl | rfl | rfl | rfl | rfl | rfl | rfl | rfl | rfl | rfl <;> rfl) (tev' (addTm T c.tn vs)) HX2.out HX.out HD5.out.t HBz.out HF.out ?_
    intro v' w5 hown hgrow _
    obtain ⟨a', c', rfl, -, -, -⟩ := own_slice hown
    have HN := Lib.hid (HD5.out.addT (T' := addTm T c.tn vs) (fun k hk => if_neg (Nat.ne_of_lt hk)) (by show bV (if c.tn = c.tn then teN vs else T c.tn) = _; rw [if_pos rfl]; rfl) (by show kV (if c.tn = c.tn then teN vs else T c.tn) = _; rw [if_pos rfl]; rfl) hown hgrow)
    have hz5 : w5.heap[z]? = some (.cells (docCs c lv) 81 (0, 0)) := (hgrow.block z (heap_lt HD5.out.hz) (fun e => own_ne HD5.out.t HD5.out.hz (by decide) e.symm rfl)).trans HD5.out.hz
    have hc19 := cell_box hz5 (k := 19) (v := .slice c.ta c.tn c.tc) rfl
    have hf19 := frozen_of_row w5 z 19 _ _ hz5
    have HB6 := Lib.hid ((HB5.out.mono hBw).grown hgrow HBz.out (fun k hk => (HD5.out.t.lt k hk).1))
    clear hown hgrow hz5 hcell f1 f2 f3 f4 f5 f6 f7
    go_wp2
    go_ret2
    have HB7 := HB6.out.setCell (p := ⟨z, 19, none⟩) HD.out.bz (.slice a' (c.tn + 1) c')
    have hres := HRes.out
    have hcnt := HC.out
    rcases o with _ | ns
    · obtain rfl := hres
      exact ⟨⟨5, rfl⟩, HB7⟩
    · obtain ⟨rfl, rfl⟩ := hres
      exact ⟨rfl, ⟨_, _, _, _, _, _, HN.out, docOf_addT c X T n Q a' c' HVL.out, ⟨Nat.le_succ_of_le hcnt.1, Nat.succ_le_succ hcnt.2.1, Nat.le_succ_of_le hcnt.2.2.1, fun k hk => by
        unfold addTm
        by_cases e : k = c.tn
        · rw [if_pos e]; exact Nat.zero_le _
        · rw [if_neg e]
          have hk' : k < c.tn + 1 := hk
          exact Nat.le_succ_of_le (hcnt.2.2.2 k (by omega))⟩⟩, HB7⟩
end Go.Proofs.YtgflfdnajchjaaaGreatDoor
/- Layer 45: a line behind the first ones is put to the document: a packet. -/
namespace Go.Proofs.YtgflfdnajchjaaaGreatDoor
set_option linter.unusedVariables false
set_option linter.unusedSimpArgs false
open Go.RowKit Go.Sort
open Tm
attribute [local go_sem] gcell bs_tl
def RBox (w : World) (zb : Nat) (ks : List Nat) (cs0 : Array Value) (e0 : Nat) (o : Option (List Int × List (List UInt8))) (e : Ending) (w' : World) : Prop := match o with
  | none => e = .returned (.tuple #[.slice none 0 0, .bool false]) ∧ Below zb w w'
  | some (ns, r) => (∃ a c, e = .returned (.tuple #[.slice a r.length c, .bool true]) ∧ (0 < r.length → ∃ b m, a = some ⟨b, m, none⟩ ∧ w.heap.size ≤ b ∧ StrAt w' b m r)) ∧ ns.length = ks.length ∧ w'.heap[zb]? = some (.cells (setC cs0 ks ns) e0 (0, 0)) ∧ Below zb w w'
theorem read_box (kd : Nat) (hk : kd < 8) (s : ByteArray) (hs : s.size ≤ 1000000) (b zb : Nat) (ks : List Nat) (cs0 : Array Value) (e0 : Nat) (w : World) (G : Gl w) (HP : PtrAt w b (adr zb ks)) (hbw : b < w.heap.size) (hzb : w.heap[zb]? = some (.cells cs0 e0 (0, 0))) (hne : zb ≠ b) (h16 : 8 ≤ zb)
    (hin : ∀ k ∈ ks, cs0[k]? = some (.int .i64 0)) (hl : ks.length ≤ 100) :
    Calls Tryz.prog 56 #[.string s, .int .i64 kd, .slice (some ⟨b, 0, none⟩) ks.length ks.length] w (RBox w zb ks cs0 e0 (readS (wordAt kd) ks.length s.data.toList)) := by
  have hzl := heap_lt hzb
  have K := read56 kd hk s hs b (adr zb ks) w G HP hbw (fun a ha => by obtain ⟨k, -, rfl⟩ := adr_mem ha; exact hne) (fun a ha => by obtain ⟨k, -, rfl⟩ := adr_mem ha; exact h16) (fun a ha => by
    obtain ⟨k, hk, rfl⟩ := adr_mem ha
    exact ⟨hzl, ⟨_, cell_box hzb (hin k hk)⟩, frozen_of_row w zb k cs0 e0 hzb⟩) (by rw [adr_len]; exact hl)
  rw [adr_len] at K
  refine K.mono fun e w' h => ?_
  have hbase : ∀ (js : List Nat) (xs : List Int), Below zb w (putN w (adr zb js) xs) := fun js xs => putN_base _ _ _ fun a ha => by obtain ⟨k, -, rfl⟩ := adr_mem ha; exact Nat.le_refl _
  cases ho : readS (wordAt kd) ks.length s.data.toList with
  | none =>
    rw [ho] at h
    obtain ⟨he, ns, hn, hb⟩ := h
    rw [adr_take] at hb
    exact ⟨he, (hbase _ ns).trans (hb.mono (Nat.le_of_lt hzl))⟩
  | some p =>
    obtain ⟨ns, r⟩ := p
    rw [ho] at h
    obtain ⟨⟨a, c, he, hc, hr⟩, hb⟩ := h
    refine ⟨⟨a, c, he, hr⟩, (readS_some.1 ho).1, ?_, (hbase ks ns).trans (hb.mono (Nat.le_of_lt hzl))⟩
    rw [hb.block zb hzl]
    exact heap_putN_same ks ns hzb
theorem own_base {w : World} {B B' e s n : Nat} {v : Value} {xs : List Value} (h : w.ownsRow B' e s v n xs) (hB : B ≤ B') : w.ownsRow B e s v n xs := by
  obtain ⟨h1, h2 | ⟨g, cap, cur, hv, hg, hr⟩⟩ := h
  · exact ⟨h1, .inl h2⟩
  · exact ⟨h1, .inr ⟨g, cap, cur, hv, Nat.le_trans hB hg, hr⟩⟩
theorem hexR_len : ∀ l : List UInt8, (hexR l).length ≤ l.length
  | [] => Nat.le_refl _
  | [a] => Nat.zero_le _
  | a :: b :: l => by have := hexR_len l; simp [hexR]; omega
theorem cells5p {vs : List Int} (h : vs.length = 4) (x : Value) : setC #[.int .i64 0, .int .i64 0, .int .i64 0, .int .i64 0, x] [0, 1, 2, 3] vs = #[.int .i64 (vs.getD 0 0), .int .i64 (vs.getD 1 0), .int .i64 (vs.getD 2 0), .int .i64 (vs.getD 3 0), x] := by
  match vs, h with
  | [a, b, c, d], _ => rfl
theorem pz49 : (Tryz.prog.info? 49).map (fun i => (i.zero, i.size, i.bytes)) = some (some (.agg #[.int .i64 0, .int .i64 0, .int .i64 0, .int .i64 0, .slice none 0 0]), 5, 56) := by kernel_rfl
set_option maxRecDepth 100000 in
set_option maxHeartbeats 4000000 in
theorem addP (s : ByteArray) (hs : s.size ≤ 1000000) (w : World) (G : Gl w) (B z : Nat) (c : Cf) (X : Nat → Ch.Fd) (T : Nat → Te) (lv : Value) (n : Nat) (Q : Nat → Tr) (D : DocW w B z c X T lv n Q) (hB : 8 ≤ B) (hBw : B ≤ w.heap.size) (m : Nat) (hC : Cnt c T n m) (hm : m + 1 ≤ 1000000)
    (st : Nat) (h4 : 4 ≤ st) (h5 : st ≤ 8) (hw : (spl 32 s.data.toList).headD [] = wPacket) :
    Calls Tryz.prog 37 #[.pointer (some ⟨z, 0, none⟩), .string s, .int .i64 ((st : Int) - 1)] w (AddPost w B z m (stepP st (docOf c X T n Q) s.data.toList)) := by
  have hstep : stepP st (docOf c X T n Q) s.data.toList = pktW (docOf c X T n Q) (readS wPacket 4 s.data.toList) := by
    unfold stepP
    rw [if_neg (by omega), if_neg (by omega), if_neg (by omega), if_neg (by omega), hw, if_neg (fun h => words_ne.2.2.2.2.1 h.1), if_neg (fun h => words_ne.2.2.2.2.2.1 h.1), if_neg (fun h => words_ne.2.2.2.2.2.2.1 h.1), if_pos rfl]
  rw [hstep]
  clear hstep
  have HD := Lib.hid D
  have HG := Lib.hid G
  have HC := Lib.hid hC
  have hC' : n + 1 ≤ 1000000 := by have := hC.2.2.1; omega
  have KC := Lib.hid (cut57 s hs 32 w G)
  rw [hw] at KC
  have heq : (wPacket == wPacket) = true := beq_self_eq_true _
  have hne1 : (wPacket == wFade) = false := by decide
  have hne2 : (wPacket == wTerminal) = false := by decide
  have hne3 : (wPacket == wBearer) = false := by decide
  have KW := Lib.hid (fun (W : World) (GW : Gl W) (b zb : Nat) HP hbw hzb hne h16 => read_box 7 (by omega) s hs b zb [0, 1, 2, 3] #[.int .i64 0, .int .i64 0, .int .i64 0, .int .i64 0, .slice none 0 0] 49 W GW HP hbw hzb hne h16 (by intro k hk; simp at hk; rcases hk with rfl | rfl | rfl | rfl <;> rfl) (by simp))
  have hlen4 : ([0, 1, 2, 3] : List Nat).length = 4 := rfl
  rw [hlen4] at KW
  have eW : wordAt 7 = wPacket := rfl
  rw [eW] at KW
  have HLw := Lib.hid (fun ns r (h : readS wPacket 4 s.data.toList = some (ns, r)) (x : List UInt8) (hx : x ∈ r) => spl_len 32 s.data.toList x (by rw [(readS_some.1 h).2.2]; exact List.mem_cons_of_mem _ (List.mem_append_right _ hx)))
  have hss : s.data.toList.length = s.size := by simp
  rw [hss] at HLw
  clear D G hC hlen4 eW hw hss
  generalize readS wPacket 4 s.data.toList = o at *
  go_enter Tryz.func37, Tryz.ntmps37
  go_wp2_with (first | (go_at_call 57; refine KC.out.mono ?_; rintro e w1 ⟨x1, y1, rfl, hb1⟩; have HB1 := Lib.hid hb1; clear hb1 KC) | (go_at_call 51; refine (words51' _).mono ?_; rintro e w2 ⟨rfl, hb2⟩; have HB2 := Lib.hid (bthen' HB1.out hb2); clear hb2) | (go_at_call 32; refine (packet32 _ _ _).mono ?_; rintro e w3 ⟨rfl, hp3, hb3, hs3⟩; refine Hid.out ?_))
  refine Lib.hid ?_
  have hs2 := HB2.out.size
  have hz3 : w3.heap[w2.heap.size + 1]? = some (.cells #[.int .i64 0, .int .i64 0, .int .i64 0, .int .i64 0, .slice none 0 0] 49 (0, 0)) := (hb3.block _ (by simp)).trans (by
    have := (MapKept.heap_alloc (w2.alloc (.cells #[.string (bs wNetwork), .string (bs wPatience), .string (bs wRule), .string (bs wOuter), .string (bs wFade), .string (bs wTerminal), .string (bs wBearer), .string (bs wPacket)] 126)) (.cells #[.int .i64 0, .int .i64 0, .int .i64 0, .int .i64 0, .slice none 0 0] 49)).1
    simpa using this)
  have HB3 := Lib.hid (bthen (((HB2.out).alloc hs2 _).alloc (by simp; omega) _) hb3 (by simp; omega))
  have hsz3 : w3.heap.size = w2.heap.size + 1 + 1 + 1 := by simpa using hs3
  have KW3 := Lib.hid (KW.out w3 (HG.out.mono HB3.out) (w2.heap.size + 1 + 1) (w2.heap.size + 1) (by simpa using hp3) (by omega) hz3 (by omega) (by have := HG.out.sz; omega))
  clear hp3 hb3 hs3 hz3 KW
  have HS3 := Lib.hid hsz3
  clear hsz3
  have HBad := Lib.hid (show ∀ w4, Below (w2.heap.size + 1) w3 w4 → Below w.heap.size w w4 from fun w4 h => HB3.out.trans (h.mono (by omega)))
  rcases o with _ | ⟨ns, r⟩
  · go_wp2_with (go_at_call 56; refine KW3.out.mono ?_; rintro e w4 ⟨rfl, hb4⟩; have HB4 := Lib.hid (HBad.out _ hb4); clear hb4)
    go_ret2
    exact ⟨⟨0, rfl⟩, HB4.out.mono hBw⟩
  · rcases r with _ | ⟨h, _ | ⟨h2, r⟩⟩
    · go_wp2_with (go_at_call 56; refine KW3.out.mono ?_; rintro e w4 ⟨⟨ra, rc, rfl, -⟩, -, -, hb4⟩; have HB4 := Lib.hid (HBad.out _ hb4); clear hb4)
      go_ret2
      exact ⟨⟨0, rfl⟩, HB4.out.mono hBw⟩
    · have hhl : (bs h).size ≤ 1000000 := by rw [bs_size]; have := HLw.out ns [h] rfl h (by simp); omega
      have KB := Lib.hid (fun W => bytes59 (bs h) W hhl)
      rw [bs_toList] at KB
      clear hhl
      go_wp2_with (go_at_call 56; refine KW3.out.mono ?_; rintro e w4 ⟨⟨ra, rc, rfl, hr⟩, hvl, hz4, hb4⟩; refine Hid.out ?_)
      refine Lib.hid ?_
      obtain ⟨rb, rm, rfl, hrb, hstr⟩ := hr (by simp)
      have hcs : w4.cell? ⟨rb, rm, none⟩ = some (.string (bs h)) := hstr 0 (by simp)
      rw [cells5p hvl] at hz4
      have HVL := Lib.hid hvl
      have HZ4 := Lib.hid hz4
      have hzs := heap_lt hz4
      have HB4 := Lib.hid (HBad.out _ hb4)
      have HB34 := Lib.hid hb4
      clear hr hstr hvl hz4 hb4 KW3
      have hnn : ((1 : Int) == 1) = true := rfl
      go_wp2_with (go_at_call 59; refine (KB.out _).mono ?_; rintro e w5 ⟨v, rfl, hU, hb5⟩; refine Hid.out ?_)
      refine Lib.hid ?_
      obtain ⟨ba, bc, rfl, -, -, -⟩ := own_slice hU
      have HBy := Lib.hid hU.byAt.1
      have HU := Lib.hid hU
      have HB5 := Lib.hid (bthen' HB4.out hb5)
      have HLN := Lib.hid (show (hexR h).length ≤ 1000000 from by
        have h1 := hexR_len h
        have := HLw.out ns [h] rfl h (by simp)
        omega)
      have hcs5 := up hb5 hcs
      have hd5 := lt_of_cell hcs5
      have HYG := Lib.hid (fun d os => HBy.out.mono (below_regrown w5 d os))
      have HZ5 := Lib.hid ((hb5.block _ hzs).trans HZ4.out)
      have hzs5 := heap_lt HZ5.out
      have HD5 := Lib.hid (HD.out.mono HB5.out)
      have HUB := Lib.hid (show B ≤ w4.heap.size from Nat.le_trans hBw HB4.out.size)
      clear hU hb5 hcs hzs hnn HZ4
      by_cases hx0 : (hexR h).length = 0
      · have HO := Lib.hid (show pktW (docOf c X T n Q) (some (ns, [h])) = none from if_neg fun hh => hh.1 (List.length_eq_zero_iff.1 hx0))
        have hd1 : decide (((hexR h).length : Int) = 0) = true := decide_eq_true (by omega)
        go_wp2
        refine wp_region_quiet_below (by kernel_rfl) (by kernel_rfl) ?_
        repeat (go_big_quiet_step (first | (go_at_call 33; exact Calls.regrown_of (written33 _ _ _ _ (HYG.out _ _) HLN.out))))
        refine wpQuiet_nil ?_
        intro w6 hw6
        have HB6 := Lib.hid (bthen' HB5.out (below_of_regrown hw6))
        clear hw6
        go_wp2
        go_ret2
        rw [HO.out]
        exact ⟨⟨0, rfl⟩, HB6.out.mono hBw⟩
      · by_cases hx1 : hexS (hexR h) = h
        · have HO := Lib.hid (show pktW (docOf c X T n Q) (some (ns, [h])) = some (8, { docOf c X T n Q with pkts := (docOf c X T n Q).pkts ++ [(ns, hexR h)] }) from if_pos ⟨fun e => hx0 (by rw [e]; rfl), hx1⟩)
          have hd1 : (((hexR h).length : Int) == 0) = false := beq_false_of_ne (by omega)
          have heq2 : (hexS (hexR h) == h) = true := by rw [hx1]; exact beq_self_eq_true _
          clear hx1
          go_wp2
          refine wp_region_quiet_below (by kernel_rfl) (by kernel_rfl) ?_
          repeat (go_big_quiet_step (first | (go_at_call 33; exact Calls.regrown_of (written33 _ _ _ _ (HYG.out _ _) HLN.out))))
          refine wpQuiet_nil ?_
          intro w6 hw6
          have HB56 := Lib.hid (below_of_regrown hw6)
          have HB6 := Lib.hid (bthen' HB5.out HB56.out)
          have HD6 := Lib.hid (HD5.out.mono HB56.out)
          have HZ6 := Lib.hid ((HB56.out.block _ hzs5).trans HZ5.out)
          have HU6 := Lib.hid (show OwnU w6 w4.heap.size (.slice ba (hexR h).length bc) (hexR h) from own_below HU.out HB56.out)
          have hzs6 := heap_lt HZ6.out
          have hc6 := cell_box HZ6.out (k := 4) (v := .slice none 0 0) rfl
          have hf6 := frozen_of_row w6 (w2.heap.size + 1) 4 _ _ HZ6.out
          have HV := Lib.hid (show ∀ k, k < 4 → ns.getD k 0 = [ns.getD 0 0, ns.getD 1 0, ns.getD 2 0, ns.getD 3 0].getD k 0 from fun k hk => by
            have : k = 0 ∨ k = 1 ∨ k = 2 ∨ k = 3 := by omega
            rcases this with rfl | rfl | rfl | rfl <;> rfl)
          have HQ := Lib.hid (show addQ Q n ns ba (hexR h).length bc (hexR h) n = ⟨ns.getD 0 0, ns.getD 1 0, ns.getD 2 0, ns.getD 3 0, ba, (hexR h).length, bc, hexR h⟩ from if_pos rfl)
          clear hw6 HYG hd5 hcs5 hd1 heq2
          generalize ns.getD 0 0 = v0 at *
          generalize ns.getD 1 0 = v1 at *
          generalize ns.getD 2 0 = v2 at *
          generalize ns.getD 3 0 = v3 at *
          go_wp2
          have HZ8 := Lib.hid (show (w6.setCell ⟨w2.heap.size + 1, 4, none⟩ (.slice ba (hexR h).length bc)).heap[w2.heap.size + 1]? = some (.cells #[.int .i64 v0, .int .i64 v1, .int .i64 v2, .int .i64 v3, .slice ba (hexR h).length bc] 49 (0, 0)) from by rw [heap_set_same HZ6.out]; rfl)
          have HB8 := Lib.hid (show Below w.heap.size w (w6.setCell ⟨w2.heap.size + 1, 4, none⟩ (.slice ba (hexR h).length bc)) from HB6.out.setCell (by show w.heap.size ≤ w2.heap.size + 1; omega) _)
          have HD8 := Lib.hid (HD.out.mono HB8.out)
          have HU8 := Lib.hid (show OwnU (w6.setCell ⟨w2.heap.size + 1, 4, none⟩ (.slice ba (hexR h).length bc)) w4.heap.size (.slice ba (hexR h).length bc) (hexR h) from own_kept HU6.out fun g hg => heap_set_other _ (own_ne HU6.out HZ6.out (by decide) hg))
          have hzs8 := heap_lt HZ8.out
          clear hc6 hf6 HZ6 HU6 HD6 HZ5 HD5 HU
          generalize w6.setCell ⟨w2.heap.size + 1, 4, none⟩ (.slice ba (hexR h).length bc) = w8 at *
          refine wp_region_peelF 1 7 (fun i v u => match i with
            | 0 => True
            | 1 => v = .pointer (some ⟨z, 0, none⟩)
            | 2 => v = .pointer (some ⟨z, 0, none⟩)
            | 3 => v = .pointer (some ⟨z, 20, none⟩)
            | 4 => v = lv
            | 5 => v = .agg #[.int .i64 v0, .int .i64 v1, .int .i64 v2, .int .i64 v3, .slice ba (hexR h).length bc]
            | _ => ∃ b, v = .slice (some ⟨b, 0, none⟩) 1 1 ∧ w8.heap.size ≤ b ∧ u.heap[b]? = some (.cells #[.int .i64 v0, .int .i64 v1, .int .i64 v2, .int .i64 v3, .slice ba (hexR h).length bc] 49 (0, 0))) (by kernel_rfl) (by kernel_rfl) ⟨.pointer (some ⟨z, 0, none⟩), Or.inl ⟨rfl, fun _ => rfl⟩, rfl⟩ (fun _ _ d _ _ h => by cases d <;> exact h) ?_ ?_ ?_
          · intro i v u u' hb h
            have : i = 0 ∨ i = 1 ∨ i = 2 ∨ i = 3 ∨ i = 4 ∨ i = 5 ∨ 6 ≤ i := by omega
            rcases this with rfl | rfl | rfl | rfl | rfl | rfl | h7
            · exact h
            · exact h
            · exact h
            · exact h
            · exact h
            · exact h
            · obtain ⟨i, rfl⟩ : ∃ k, i = k + 6 := ⟨i - 6, by omega⟩
              obtain ⟨b, h1, h2, h3⟩ := h
              exact ⟨b, h1, h2, (hb.block b (heap_lt h3)).trans h3⟩
          · intro i o hi0 hi ho vf u hb hd
            have hi' : i = 1 ∨ i = 2 ∨ i = 3 ∨ i = 4 ∨ i = 5 ∨ i = 6 := by omega
            rcases hi' with rfl | rfl | rfl | rfl | rfl | rfl
            · obtain rfl := Option.some.inj ho
              clear hd
              simp only [fillA, List.take_succ_cons, List.take_zero, List.drop_succ_cons, List.drop_zero]
              go_wp2
              exact ⟨rfl, Below.refl _ _, rfl⟩
            · obtain rfl := Option.some.inj ho
              have f1 := hd 1 (by omega) (by omega) (by kernel_rfl)
              clear hd
              simp only [fillA, List.take_succ_cons, List.take_zero, List.drop_succ_cons, List.drop_zero]
              go_wp2
              exact ⟨rfl, Below.refl _ _, rfl⟩
            · obtain rfl := Option.some.inj ho
              have f2 := hd 2 (by omega) (by omega) (by kernel_rfl)
              clear hd
              simp only [fillA, List.take_succ_cons, List.take_zero, List.drop_succ_cons, List.drop_zero]
              go_wp2
              exact ⟨rfl, Below.refl _ _, rfl⟩
            · obtain rfl := Option.some.inj ho
              have f3 := hd 3 (by omega) (by omega) (by kernel_rfl)
              have hc := cell_box (HD8.out.mono hb).hz (k := 20) (v := lv) rfl
              clear hd
              simp only [fillA, List.take_succ_cons, List.take_zero, List.drop_succ_cons, List.drop_zero]
              go_wp2
              exact ⟨rfl, Below.refl _ _, rfl⟩
            · obtain rfl := Option.some.inj ho
              have hc0 := cell_box ((hb.block _ hzs8).trans HZ8.out) (k := 0) (v := .int .i64 v0) rfl
              have hc1 := cell_box ((hb.block _ hzs8).trans HZ8.out) (k := 1) (v := .int .i64 v1) rfl
              have hc2 := cell_box ((hb.block _ hzs8).trans HZ8.out) (k := 2) (v := .int .i64 v2) rfl
              have hc3 := cell_box ((hb.block _ hzs8).trans HZ8.out) (k := 3) (v := .int .i64 v3) rfl
              have hc4 := cell_box ((hb.block _ hzs8).trans HZ8.out) (k := 4) (v := .slice ba (hexR h).length bc) rfl
              clear hd
              simp only [fillA, List.take_succ_cons, List.take_zero, List.drop_succ_cons, List.drop_zero]
              go_wp2
              exact ⟨rfl, Below.refl _ _, rfl⟩
            · obtain rfl := Option.some.inj ho
              have f5 := hd 5 (by omega) (by omega) (by kernel_rfl)
              clear hd
              simp only [fillA, List.take_succ_cons, List.take_zero, List.drop_succ_cons, List.drop_zero]
              go_wp2
              exact ⟨rfl, (Below.refl _ _).alloc (Nat.le_refl _) _, u.heap.size, rfl, hb.size, (MapKept.heap_alloc u _).1⟩
          · intro vf u hb hd
            have f1 := hd 1 (by omega) (by omega)
            have f2 := hd 2 (by omega) (by omega)
            have f3 := hd 3 (by omega) (by omega)
            have f4 := hd 4 (by omega) (by omega)
            have f5 := hd 5 (by omega) (by omega)
            obtain ⟨bb, f6, hbb, hcell⟩ := hd 6 (by omega) (by omega)
            clear hd
            have HDu := Lib.hid (HD8.out.mono hb)
            have HBu := Lib.hid (bthen' HB8.out hb)
            have HUu := Lib.hid (show OwnU u w4.heap.size (.slice ba (hexR h).length bc) (hexR h) from own_below HU8.out hb)
            have HX := Lib.hid (show ∀ j, j < 5 → (#[Value.int .i64 v0, .int .i64 v1, .int .i64 v2, .int .i64 v3, .slice ba (hexR h).length bc] : Array Value)[j]? = some (trv (addQ Q n ns ba (hexR h).length bc (hexR h)) (n * 5 + j)) from fun j hj => by
              rw [trv_at _ _ _ hj, HQ.out]
              have : j = 0 ∨ j = 1 ∨ j = 2 ∨ j = 3 ∨ j = 4 := by omega
              rcases this with rfl | rfl | rfl | rfl | rfl <;> rfl)
            have HX2 := Lib.hid (show ∀ j, j < n * 5 → trv (addQ Q n ns ba (hexR h).length bc (hexR h)) j = trv Q j from fun j hj => by
              unfold trv addQ
              rw [if_neg (by omega)])
            have HBz := Lib.hid (Nat.le_trans hBw HBu.out.size)
            have HF := Lib.hid hC'
            clear hb hC'
            simp only [fillA, List.take_succ_cons, List.take_zero, List.drop_succ_cons, List.drop_zero]
            go_wp2_with (at_builtin; refine Hid.out ?_)
            refine Lib.hid ?_
            refine wpList_append_at u B rfl (.tmp 159) (.tmp 161) 43 rfl 49 (.agg #[.int .i64 0, .int .i64 0, .int .i64 0, .int .i64 0, .slice none 0 0]) 5 56 Tryz.underlying43 pz49 rfl (by decide) (by decide) _ n (trv Q) rfl bb #[.int .i64 v0, .int .i64 v1, .int .i64 v2, .int .i64 v3, .slice ba (hexR h).length bc] (0, 0) rfl hcell rfl (by intro y hy; simp at hy; rcases hy with rfl | rfl | rfl | rfl | rfl <;> rfl) (trv (addQ Q n ns ba (hexR h).length bc (hexR h))) HX2.out HX.out HDu.out.l HBz.out HF.out ?_
            intro v' w9 hown hgrow _
            obtain ⟨a', c', rfl, -, -, -⟩ := own_slice hown
            have HOU := Lib.hid (show OwnU u B (.slice ba (hexR h).length bc) (hexR h) from own_base HUu.out HUB.out)
            have HN := Lib.hid (HDu.out.addP (Q' := addQ Q n ns ba (hexR h).length bc (hexR h)) (fun k hk => if_neg (Nat.ne_of_lt hk)) (by rw [HQ.out]; exact HOU.out) hown hgrow)
            have hz9 : w9.heap[z]? = some (.cells (docCs c lv) 81 (0, 0)) := (hgrow.block z (heap_lt HDu.out.hz) (fun e => own_ne HDu.out.l HDu.out.hz (by decide) e.symm rfl)).trans HDu.out.hz
            have hc20 := cell_box hz9 (k := 20) (v := lv) rfl
            have hf20 := frozen_of_row w9 z 20 _ _ hz9
            have HB9 := Lib.hid ((HBu.out.mono hBw).grown hgrow HBz.out (fun k hk => (HDu.out.l.lt k hk).1))
            clear hown hgrow hz9 hcell f1 f2 f3 f4 f5 f6
            go_wp2
            go_ret2
            have HB10 := HB9.out.setCell (p := ⟨z, 20, none⟩) HD.out.bz (.slice a' (n + 1) c')
            have hcnt := HC.out
            rw [HO.out]
            exact ⟨rfl, ⟨_, _, _, _, _, _, HN.out, docOf_addP c X T n Q ba _ bc (hexR h) HVL.out, ⟨Nat.le_succ_of_le hcnt.1, Nat.le_succ_of_le hcnt.2.1, Nat.succ_le_succ hcnt.2.2.1, fun k hk => Nat.le_succ_of_le (hcnt.2.2.2 k hk)⟩⟩, HB10⟩
        · have HO := Lib.hid (show pktW (docOf c X T n Q) (some (ns, [h])) = none from if_neg fun hh => hx1 hh.2)
          have hd1 : (((hexR h).length : Int) == 0) = false := beq_false_of_ne (by omega)
          have heq2 : (hexS (hexR h) == h) = false := beq_false_of_ne hx1
          go_wp2
          refine wp_region_quiet_below (by kernel_rfl) (by kernel_rfl) ?_
          repeat (go_big_quiet_step (first | (go_at_call 33; exact Calls.regrown_of (written33 _ _ _ _ (HYG.out _ _) HLN.out))))
          refine wpQuiet_nil ?_
          intro w6 hw6
          have HB6 := Lib.hid (bthen' HB5.out (below_of_regrown hw6))
          clear hw6
          go_wp2
          go_ret2
          rw [HO.out]
          exact ⟨⟨0, rfl⟩, HB6.out.mono hBw⟩
    · have hd : decide ((r.length : Int) + 1 + 1 = 1) = false := decide_eq_false (by omega)
      go_wp2_with (go_at_call 56; refine KW3.out.mono ?_; rintro e w4 ⟨⟨ra, rc, rfl, -⟩, -, -, hb4⟩; have HB4 := Lib.hid (HBad.out _ hb4); clear hb4)
      go_ret2
      exact ⟨⟨0, rfl⟩, HB4.out.mono hBw⟩
end Go.Proofs.YtgflfdnajchjaaaGreatDoor
