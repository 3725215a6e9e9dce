import Derived.Test.YtgflfdnajchjaaaGreatDoorJN
import Derived.Test.YtgflfdnajchjaaaGreatDoorKL
import Derived.Test.YtgflfdnajchjaaaGreatDoorJA
import Derived.Test.YtgflfdnajchjaaaGreatDoorJX
/- Layer 45: the program's report of one record. -/
namespace Go.Proofs.YtgflfdnajchjaaaGreatDoor
set_option linter.unusedVariables false
set_option linter.unusedSimpArgs false
open Go.RowKit Go.Sort
open Go.Lib (itoa IsBuilderF)
open Tm
theorem builder_below {B b : Nat} {l : List Value} {w w' : World} (h : IsBuilderF 108 5 B b l w) (hb : Below w.heap.size w w') : IsBuilderF 108 5 B b l w' := by
  rcases h with h | h
  · have hl := h.lt
    obtain ⟨h1, v, h2, h3, h4⟩ := h
    exact .inl ⟨h1, v, (hb.block b hl).trans h2, h3.kept (row := none) ⟨hb.os, hb.tape, hb.output, hb.size, fun k hk _ => hb.block k hk⟩ (by cases hv : v.ownBlock <;> simp), h4⟩
  · have hl := h.lt
    obtain ⟨h1, v, h2, h3, h4⟩ := h
    exact .inr ⟨h1, v, (hb.block b hl).trans h2, h3.kept (row := none) ⟨hb.os, hb.tape, hb.output, hb.size, fun k hk _ => hb.block k hk⟩ (by cases hv : v.ownBlock <;> simp), h4⟩
theorem decimal42 (n : Int) (h0 : -1099511627776 ≤ n) (h1 : n ≤ 1099511627776) (w : World) (G : Gl w) : Calls Tryz.prog 42 #[.int .i64 n] w fun e w' => e = .returned (.string (bs (itoa n))) ∧ Below w.heap.size w w' := by
  have K := Lib.hid (itoa52 n (by omega) (by omega) w G)
  go_enter Tryz.func42, Tryz.ntmps42
  go_wp2_with (go_at_call 52; refine K.out.mono ?_; rintro e w2 ⟨rfl, hb⟩)
  go_ret
  exact ⟨rfl, hb⟩
def kindsA : Array Value := #[.string (bs [111, 116, 104, 101, 114]), .string (bs [105, 110]), .string (bs [111, 117, 116]), .string (bs [97, 115, 107]), .string (bs [103, 111]), .string (bs [106, 111, 105, 110]), .string (bs [98, 97, 99, 107]), .string (bs [108, 111, 115, 116]), .string (bs [119, 114, 111, 110, 103]), .string (bs [102, 97, 105, 108, 101, 100])]
theorem kinds40 (w : World) : Calls Tryz.prog 40 #[] w fun e w' => e = .returned (.agg kindsA) ∧ Below w.heap.size w w' := by
  go_enter Tryz.func40, Tryz.ntmps40
  go_wp2
  refine bodyPost_ret (v := .agg kindsA) (by simp [results, Tryz.results40, go_sem, cell_set, kindsA, bs]) rfl ⟨rfl, ?_⟩
  exact (Below.refl _ _).alloc (Nat.le_refl _) _
theorem strCells_bs (l : List UInt8) : Lib.strCells (bs l) = Lib.byteCells l := by simp [Lib.strCells, Lib.byteCells, bs]
theorem byteCells_add (a b : List UInt8) : Lib.byteCells a ++ Lib.byteCells b = Lib.byteCells (a ++ b) := by simp [Lib.byteCells]
theorem itoa_0 : itoa 0 = [48] := by
  have h : Lib.decDigits 0 = [UInt8.ofNat (48 + 0)] := decDigits_small (by omega)
  simp [itoa, h]
def repH : List UInt8 := [48, 32, 105, 110]
def repM : Nat → List UInt8
  | 0 => repH
  | j + 1 => repM j ++ [32, 48]
theorem repM_len (j : Nat) : (repM j).length = 4 + 2 * j := by
  induction j with
  | zero => rfl
  | succ j ih => show (repM j ++ [32, 48]).length = _; rw [List.length_append, ih]; simp only [List.length_cons, List.length_nil]; omega
/-- A string is written behind what was written. -/
theorem write41 {B b : Nat} {l x : List UInt8} {W : World} (h : IsBuilderF 108 5 B b (Lib.byteCells l) W) (hB : B ≤ W.heap.size) (hl : l.length + x.length ≤ 1000) :
    Calls Tryz.prog 41 #[.pointer (some ⟨b, 0, none⟩), .string (bs x)] W fun e w' => e = .returned (.tuple #[.int .i64 (bs x).size, .nilIface]) ∧ IsBuilderF 108 5 B b (Lib.byteCells (l ++ x)) w' ∧ Below B W w' ∧ Lib.OthersKept 5 (some b) W w' :=
  (Tryz.Builder_WriteString_k B b _ (bs x) W h (by rw [Lib.byteCells_length, bs_size]; omega) hB).mono fun e w' ⟨h1, h2, h3, h4⟩ => ⟨h1, .inr (by rw [strCells_bs, byteCells_add] at h2; exact h2), h3, h4⟩
set_option maxRecDepth 100000 in
set_option maxHeartbeats 4000000 in
theorem rep20 (b bd : Nat) (w : World) (G : Gl w) (hb : w.heap[b]? = some (.cells #[.int .i64 0, .int .i64 1, .int .i64 0, .int .i64 0, .int .i64 0, .int .i64 0, .slice (some ⟨bd, 0, none⟩) 1 1] 64 (0, 0))) (hd : w.heap[bd]? = some (.cells #[.int .u8 255] 5 (0, 0))) :
    Calls Tryz.prog 20 #[.slice (some ⟨b, 0, none⟩) 1 1] w fun e w' => e = .returned (.string (bs (repM 4 ++ [32, 102, 102] ++ [10]))) ∧ Below w.heap.size w w' := by
  have HG := Lib.hid G
  have HR := Lib.hid hb
  have HD := Lib.hid hd
  clear G hb hd
  go_enter Tryz.func20, Tryz.ntmps20
  have hi0 : IsBuilderF 108 5 w.heap.size w.heap.size (Lib.byteCells []) (w.alloc (.cells #[.pointer none, .slice none 0 0] 108)) := Lib.IsBuilderF.of (Lib.fresh_isBuilder 108 5 w)
  have hb0 : Below w.heap.size w (w.alloc (.cells #[.pointer none, .slice none 0 0] 108)) := (Below.refl _ _).alloc (Nat.le_refl _) _
  have hs0 : (w.alloc (.cells #[.pointer none, .slice none 0 0] 108)).heap.size = w.heap.size + 1 := by simp
  have HI0 := Lib.hid hi0
  have HB0 := Lib.hid hb0
  have HS0 := Lib.hid hs0
  clear hi0 hb0 hs0
  have HK := Lib.hid kinds40
  unfold kindsA at HK
  go_wp2_with (go_at_call 40; refine (HK.out _).mono ?_; rintro e w2 ⟨rfl, hb2⟩; refine Hid.out ?_)
  refine Lib.hid ?_
  have hi2 := builder_below HI0.out hb2
  have hB2 := bthen HB0.out hb2 (by rw [HS0.out]; omega)
  have hlt2 : w.heap.size < w2.heap.size := by have := hb2.size; have := HS0.out; omega
  have hb3 : Below w2.heap.size w2 (w2.alloc (.cells #[.string (bs [111, 116, 104, 101, 114]), .string (bs [105, 110]), .string (bs [111, 117, 116]), .string (bs [97, 115, 107]), .string (bs [103, 111]), .string (bs [106, 111, 105, 110]), .string (bs [98, 97, 99, 107]), .string (bs [108, 111, 115, 116]), .string (bs [119, 114, 111, 110, 103]), .string (bs [102, 97, 105, 108, 101, 100])] 109)) := (Below.refl _ _).alloc (Nat.le_refl _) _
  have HZ1 := Lib.hid (MapKept.heap_alloc w2 (.cells #[.string (bs [111, 116, 104, 101, 114]), .string (bs [105, 110]), .string (bs [111, 117, 116]), .string (bs [97, 115, 107]), .string (bs [103, 111]), .string (bs [106, 111, 105, 110]), .string (bs [98, 97, 99, 107]), .string (bs [108, 111, 115, 116]), .string (bs [119, 114, 111, 110, 103]), .string (bs [102, 97, 105, 108, 101, 100])] 109)).1
  have HI1 := Lib.hid (builder_below hi2 hb3)
  have HB1 := Lib.hid (bthen hB2 hb3 (Nat.le_of_lt hlt2))
  have HLT := Lib.hid hlt2
  clear hi2 hB2 hlt2 hb3 hb2 HI0 HB0 HS0 HK
  go_upto_region 4 with fail
  generalize w2.alloc (.cells #[.string (bs [111, 116, 104, 101, 114]), .string (bs [105, 110]), .string (bs [111, 117, 116]), .string (bs [97, 115, 107]), .string (bs [103, 111]), .string (bs [106, 111, 105, 110]), .string (bs [98, 97, 99, 107]), .string (bs [108, 111, 115, 116]), .string (bs [119, 114, 111, 110, 103]), .string (bs [102, 97, 105, 108, 101, 100])] 109) = w3 at *
  generalize w2.heap.size = S1 at *
  have HS00 := Lib.hid (show w.heap.size ≤ w.heap.size from Nat.le_refl _)
  have HRB := Lib.hid (show b < w.heap.size from heap_lt HR.out)
  have HGW0 := Lib.hid (show ∀ u, Below w.heap.size w u → Gl u from fun u hb => HG.out.mono hb)
  have HSZ := Lib.hid (show ∀ u, Below w.heap.size w u → w.heap.size ≤ u.heap.size from fun u hb => hb.size)
  generalize hS0 : w.heap.size = S0 at *
  have HGW := HGW0
  go_loopw [6, 7, 9, 13] (fun _ _ _ i wr => ∃ k : Nat, k ≤ 1 ∧ i = .int .i64 k ∧ IsBuilderF 108 5 S0 S0 (Lib.byteCells (if k = 0 then [] else repM 4 ++ [32, 102, 102] ++ [10])) wr ∧ Below S0 w wr ∧ (k = 0 → wr = w3)) (fun _ _ _ i _ => 1 - (intOf i).toNat)
  case atStart => exact ⟨0, Nat.zero_le _, rfl, HI1.out, HB1.out, fun _ => rfl⟩
  case round =>
    obtain ⟨k, hk, rfl, hi, hbr, hw3⟩ := hrel
    by_cases hlt : k < 1
    · obtain rfl : k = 0 := by omega
      obtain rfl := hw3 rfl
      clear hi hw3
      have hr := (HB1.out.block b HRB.out).trans HR.out
      have c0 := cell_box hr (k := 0) (v := .int .i64 0) rfl
      have c1 := cell_box hr (k := 1) (v := .int .i64 1) rfl
      have c2 := cell_box hr (k := 2) (v := .int .i64 0) rfl
      have c3 := cell_box hr (k := 3) (v := .int .i64 0) rfl
      have c4 := cell_box hr (k := 4) (v := .int .i64 0) rfl
      have c5 := cell_box hr (k := 5) (v := .int .i64 0) rfl
      have c6 := cell_box hr (k := 6) (v := .slice (some ⟨bd, 0, none⟩) 1 1) rfl
      have hz2 := (MapKept.heap_alloc wr (.cells #[.int .i64 0, .int .i64 1, .int .i64 0, .int .i64 0, .int .i64 0, .int .i64 0, .slice (some ⟨bd, 0, none⟩) 1 1] 64)).1
      have hb2 : Below wr.heap.size wr (wr.alloc (.cells #[.int .i64 0, .int .i64 1, .int .i64 0, .int .i64 0, .int .i64 0, .int .i64 0, .slice (some ⟨bd, 0, none⟩) 1 1] 64)) := (Below.refl _ _).alloc (Nat.le_refl _) _
      have HZ2 := Lib.hid hz2
      have HS := Lib.hid (show S0 ≤ wr.heap.size from HSZ.out _ HB1.out)
      have HI2 := Lib.hid (builder_below HI1.out hb2)
      have HB2 := Lib.hid (HB1.out.trans (hb2.mono (HSZ.out _ HB1.out)))
      have HNE := Lib.hid (show ¬ wr.heap.size = S0 from fun e => by have h1 := heap_lt HZ1.out; have h2 := HLT.out; omega)
      have HZ1b := Lib.hid ((hb2.block S1 (heap_lt HZ1.out)).trans HZ1.out)
      clear hr hz2 hb2 hbr HI1 HB1
      go_upto_region 9 with fail
      clear c0 c1 c2 c3 c4 c5 c6
      have HZ1 := HZ1b
      generalize wr.alloc (.cells #[.int .i64 0, .int .i64 1, .int .i64 0, .int .i64 0, .int .i64 0, .int .i64 0, .slice (some ⟨bd, 0, none⟩) 1 1] 64) = w1 at *
      generalize wr.heap.size = S2 at *
      refine wp_region_peelF 0 8 (fun i v u => match i with
        | 0 => v = .pointer (some ⟨S2, 0, none⟩)
        | 1 => v = .int .i64 0
        | 2 => v = .string (bs [48])
        | 3 => v = .string (bs [48, 32])
        | 4 => v = .int .i64 1
        | 5 => v = .pointer (some ⟨S1, 1, none⟩)
        | 6 => v = .string (bs [105, 110])
        | 7 => v = .string (bs repH)
        | _ => True) (by kernel_rfl) (by kernel_rfl) rfl (fun _ _ d _ _ h => by cases d <;> exact h) ?_ ?_ ?_
      · intro i v w1 w2 hb h
        match i with
        | 0 => exact h
        | 1 => exact h
        | 2 => exact h
        | 3 => exact h
        | 4 => exact h
        | 5 => exact h
        | 6 => exact h
        | 7 => exact h
        | k + 8 => exact h
      · intro i o hp hi ho vf u1 hb hd
        have hi' : i = 0 ∨ i = 1 ∨ i = 2 ∨ i = 3 ∨ i = 4 ∨ i = 5 ∨ i = 6 ∨ i = 7 := by omega
        rcases hi' with rfl | rfl | rfl | rfl | rfl | rfl | rfl | rfl
        · obtain rfl := Option.some.inj ho
          clear hd
          simp only [fillA, List.take_succ_cons, List.take_zero, List.drop_succ_cons, List.drop_zero, Nat.zero_add, Nat.reduceAdd]
          go_wp2
          exact ⟨rfl, Below.refl _ _, rfl⟩
        · obtain rfl := Option.some.inj ho
          have f0 := hd 0 (by omega) (by omega) (by kernel_rfl)
          clear hd
          have hcc := cell_box ((hb.block S2 (heap_lt HZ2.out)).trans HZ2.out) (k := 0) (v := .int .i64 0) rfl
          simp only [fillA, List.take_succ_cons, List.take_zero, List.drop_succ_cons, List.drop_zero, Nat.zero_add, Nat.reduceAdd]
          go_wp2
          exact ⟨rfl, Below.refl _ _, rfl⟩
        · obtain rfl := Option.some.inj ho
          have f1 : vf 1 = .int .i64 0 := hd 1 (by omega) (by omega) (by kernel_rfl)
          clear hd
          have KD := decimal42 0 (by omega) (by omega) u1 (HGW.out u1 (bthen HB2.out hb (HSZ.out _ HB2.out)))
          rw [itoa_0] at KD
          have KD := Lib.hid KD
          simp only [fillA, List.take_succ_cons, List.take_zero, List.drop_succ_cons, List.drop_zero, Nat.zero_add, Nat.reduceAdd, Act.put, List.setIfInBounds_toArray, List.set_cons_succ, List.set_cons_zero]
          generalize vf 1 = v1 at *
          subst f1
          go_wp2_with (go_at_call 42; refine KD.out.mono ?_; rintro e w9 ⟨rfl, hb9⟩)
          exact ⟨rfl, hb9, rfl⟩
        · obtain rfl := Option.some.inj ho
          have f2 := hd 2 (by omega) (by omega) (by kernel_rfl)
          clear hd
          have hbb : bs [48] ++ ⟨#[32]⟩ = bs [48, 32] := by rw [show (⟨#[32]⟩ : ByteArray) = bs [32] from rfl, bs_add]; rfl
          simp only [fillA, List.take_succ_cons, List.take_zero, List.drop_succ_cons, List.drop_zero, Nat.zero_add, Nat.reduceAdd]
          go_wp2
          exact ⟨rfl, Below.refl _ _, rfl⟩
        · obtain rfl := Option.some.inj ho
          clear hd
          simp only [fillA, List.take_succ_cons, List.take_zero, List.drop_succ_cons, List.drop_zero, Nat.zero_add, Nat.reduceAdd]
          go_wp2
          exact ⟨rfl, Below.refl _ _, rfl⟩
        · obtain rfl := Option.some.inj ho
          have f4 := hd 4 (by omega) (by omega) (by kernel_rfl)
          clear hd
          simp only [fillA, List.take_succ_cons, List.take_zero, List.drop_succ_cons, List.drop_zero, Nat.zero_add, Nat.reduceAdd]
          go_wp2
          exact ⟨rfl, Below.refl _ _, rfl⟩
        · obtain rfl := Option.some.inj ho
          have f5 := hd 5 (by omega) (by omega) (by kernel_rfl)
          clear hd
          have hcc := cell_box ((hb.block S1 (heap_lt HZ1.out)).trans HZ1.out) (k := 1) (v := .string (bs [105, 110])) rfl
          simp only [fillA, List.take_succ_cons, List.take_zero, List.drop_succ_cons, List.drop_zero, Nat.zero_add, Nat.reduceAdd]
          go_wp2
          exact ⟨rfl, Below.refl _ _, rfl⟩
        · obtain rfl := Option.some.inj ho
          have f3 := hd 3 (by omega) (by omega) (by kernel_rfl)
          have f6 := hd 6 (by omega) (by omega) (by kernel_rfl)
          clear hd
          have hbb : bs [48, 32] ++ bs [105, 110] = bs repH := by rw [bs_add]; rfl
          simp only [fillA, List.take_succ_cons, List.take_zero, List.drop_succ_cons, List.drop_zero, Nat.zero_add, Nat.reduceAdd]
          go_wp2
          exact ⟨rfl, Below.refl _ _, rfl⟩
      · intro vf u1 hb hd
        have f7 : vf 7 = .string (bs repH) := hd 7 (by omega) (by omega)
        clear hd
        simp only [fillA, List.take_succ_cons, List.take_zero, List.drop_succ_cons, List.drop_zero, Nat.zero_add, Nat.reduceAdd, Act.put, List.setIfInBounds_toArray, List.set_cons_succ, List.set_cons_zero]
        generalize vf 7 = v7 at *
        subst f7
        have HBu := Lib.hid (bthen HB2.out hb (HSZ.out _ HB2.out))
        have HIu := Lib.hid (builder_below HI2.out hb)
        have HZu := Lib.hid ((hb.block S2 (heap_lt HZ2.out)).trans HZ2.out)
        clear hb HB2 HI2 HZ2
        have KW := Lib.hid (write41 (x := repH) HIu.out (HSZ.out _ HBu.out) (by decide))
        go_wp2_with (go_at_call 41; refine KW.out.mono ?_; rintro e w4 ⟨rfl, hi4, hb4, ho4⟩; have HI4 := Lib.hid (show IsBuilderF 108 5 S0 S0 (Lib.byteCells (repM 0)) w4 from hi4); have HB4 := Lib.hid (HBu.out.trans hb4); have hz4 := ho4 S2 _ HZu.out (by simp; exact HNE.out) (by intro c fz h; injection h with _ h; exact absurd h (by decide)); have HZ4 := Lib.hid hz4; have c2 := cell_box hz4 (k := 2) (v := .int .i64 0) rfl; have c3 := cell_box hz4 (k := 3) (v := .int .i64 0) rfl; have c4 := cell_box hz4 (k := 4) (v := .int .i64 0) rfl; have c5 := cell_box hz4 (k := 5) (v := .int .i64 0) rfl; clear hi4 hb4 ho4 hz4 KW; refine Hid.out ?_)
        refine Lib.hid ?_
        clear HIu HBu HZu
        go_upto_region 11 with fail
        have hz3 := (MapKept.heap_alloc w4 (.cells #[.int .i64 0, .int .i64 0, .int .i64 0, .int .i64 0] 3)).1
        have hb5 : Below w4.heap.size w4 (w4.alloc (.cells #[.int .i64 0, .int .i64 0, .int .i64 0, .int .i64 0] 3)) := (Below.refl _ _).alloc (Nat.le_refl _) _
        generalize w4.alloc (.cells #[.int .i64 0, .int .i64 0, .int .i64 0, .int .i64 0] 3) = w5 at *
        have HZ3 := Lib.hid hz3
        have HZ5 := Lib.hid ((hb5.block S2 (heap_lt HZ4.out)).trans HZ4.out)
        have HI5 := Lib.hid (builder_below HI4.out hb5)
        have HB5 := Lib.hid (HB4.out.trans (hb5.mono (HSZ.out _ HB4.out)))
        have HN3 := Lib.hid (show S0 < w4.heap.size from Nat.lt_of_le_of_lt (by have := HNE.out; have := HS.out; omega) (heap_lt HZ4.out))
        clear hz3 hb5 HZ4 HI4 HB4 c2 c3 c4 c5
        generalize w4.heap.size = S3 at *
        go_loopw [9, 44] (fun _ i wx => ∃ j : Nat, j ≤ 4 ∧ i = .int .i64 j ∧ IsBuilderF 108 5 S0 S0 (Lib.byteCells (repM j)) wx ∧ Below S0 w wx ∧ wx.heap[S2]? = some (.cells #[.int .i64 0, .int .i64 1, .int .i64 0, .int .i64 0, .int .i64 0, .int .i64 0, .slice (some ⟨bd, 0, none⟩) 1 1] 64 (0, 0)) ∧ wx.heap[S3]? = some (.cells #[.int .i64 0, .int .i64 0, .int .i64 0, .int .i64 0] 3 (0, 0))) (fun _ i _ => 4 - (intOf i).toNat)
        case atStart => exact ⟨0, Nat.zero_le _, rfl, HI5.out, HB5.out, HZ5.out, HZ3.out⟩
        case round =>
          clear HI5 HB5 HZ5 HZ3
          obtain ⟨j, hj, rfl, hi, hbx, hz2, hz3⟩ := hrel
          have HI := Lib.hid hi
          have HB := Lib.hid hbx
          have HZ2 := Lib.hid hz2
          have HZ3 := Lib.hid hz3
          clear hi hbx hz2
          by_cases hlt : j < 4
          · have hcj : wr.cell? ⟨S3, j, none⟩ = some (.int .i64 0) := cell_box hz3 (by
              rcases four hlt with rfl | rfl | rfl | rfl <;> rfl)
            clear hz3
            have KD := decimal42 0 (by omega) (by omega) wr (HGW.out wr HB.out)
            rw [itoa_0] at KD
            have KD := Lib.hid KD
            have hbb : (⟨#[32]⟩ : ByteArray) ++ bs [48] = bs [32, 48] := by rw [show (⟨#[32]⟩ : ByteArray) = bs [32] from rfl, bs_add]; rfl
            go_wp2_with (go_at_call 42; refine KD.out.mono ?_; rintro e w6 ⟨rfl, hb6⟩; refine Hid.out ?_)
            refine Lib.hid ?_
            have HI6 := Lib.hid (builder_below HI.out hb6)
            have HB6 := Lib.hid (HB.out.trans (hb6.mono (HSZ.out _ HB.out)))
            have HZ26 := Lib.hid ((hb6.block S2 (heap_lt HZ2.out)).trans HZ2.out)
            have HZ36 := Lib.hid ((hb6.block S3 (heap_lt HZ3.out)).trans HZ3.out)
            have KW := Lib.hid (write41 (x := [32, 48]) HI6.out (HSZ.out _ HB6.out) (by rw [repM_len]; simp only [List.length_cons, List.length_nil]; omega))
            clear hb6 HI HB HZ2 HZ3 KD hcj
            go_wp2_with (go_at_call 41; refine KW.out.mono ?_; rintro e w7 ⟨rfl, hi7, hb7, ho7⟩; have HI7 := Lib.hid hi7; have HB7 := Lib.hid (HB6.out.trans hb7); have HZ27 := Lib.hid (ho7 S2 _ HZ26.out (by simp; exact HNE.out) (by intro c fz h; injection h with _ h; exact absurd h (by decide))); have HZ37 := Lib.hid (ho7 S3 _ HZ36.out (by simp; have := HN3.out; omega) (by intro c fz h; injection h with _ h; exact absurd h (by decide))); clear hi7 hb7 ho7 KW hbb)
            go_roundw
            case rel => exact ⟨j + 1, by omega, by go_num, HI7.out, HB7.out, HZ27.out, HZ37.out⟩
            case measure => simp [intOf]; omega
          · have hge : 4 ≤ j := by omega
            have HI4 := Lib.hid (show IsBuilderF 108 5 S0 S0 (Lib.byteCells (repM 4)) wr from (show j = 4 by omega) ▸ HI.out)
            have hc6 := cell_box HZ2.out (k := 6) (v := .slice (some ⟨bd, 0, none⟩) 1 1) rfl
            have KH := written33 (some ⟨bd, 0, none⟩) 1 [255] wr ⟨bd, 0, fun _ => rfl, fun k hk => by
              obtain rfl : k = 0 := by (simp at hk; omega)
              exact cell_box ((HB.out.block bd (by have := heap_lt HD.out; have := HS00.out; omega)).trans HD.out) rfl⟩ (by decide)
            have KH : Calls Tryz.prog 33 #[.slice (some ⟨bd, 0, none⟩) 1 1] wr fun e w' => e = .returned (.string (bs [102, 102])) ∧ Below wr.heap.size wr w' := KH
            have KH := Lib.hid KH
            have hbb : (⟨#[32]⟩ : ByteArray) ++ bs [102, 102] = bs [32, 102, 102] := by rw [show (⟨#[32]⟩ : ByteArray) = bs [32] from rfl, bs_add]; rfl
            clear hz3 HI
            go_wp2_with (go_at_call 33; refine KH.out.mono ?_; rintro e w6 ⟨rfl, hb6⟩; refine Hid.out ?_)
            refine Lib.hid ?_
            have HI6 := Lib.hid (builder_below HI4.out hb6)
            have HB6 := Lib.hid (HB.out.trans (hb6.mono (HSZ.out _ HB.out)))
            have KW := Lib.hid (write41 (x := [32, 102, 102]) HI6.out (HSZ.out _ HB6.out) (by decide))
            clear hb6 HI4 HB KH hc6 HZ2 HZ3
            go_wp2_with (go_at_call 41; refine KW.out.mono ?_; rintro e w7 ⟨rfl, hi7, hb7, -⟩; refine Hid.out ?_)
            refine Lib.hid ?_
            have HI7 := Lib.hid hi7
            have HB7 := Lib.hid (HB6.out.trans hb7)
            have KW2 := Lib.hid (write41 (x := [10]) HI7.out (HSZ.out _ HB7.out) (by decide))
            have hnl : (⟨#[10]⟩ : ByteArray) = bs [10] := rfl
            clear hi7 hb7 KW hbb HI6 HB6
            go_wp2_with (go_at_call 41; refine KW2.out.mono ?_; rintro e w8 ⟨rfl, hi8, hb8, -⟩)
            go_roundw
            case rel => exact ⟨1, Nat.le_refl _, by go_num, hi8, HB7.out.trans hb8, fun h => absurd h (by decide)⟩
            case measure => simp [intOf]
    · obtain rfl : k = 1 := by omega
      have HI := Lib.hid (show IsBuilderF 108 5 S0 S0 (Lib.byteCells (repM 4 ++ [32, 102, 102] ++ [10])) wr from hi)
      have HBr := Lib.hid hbr
      have HSb := Lib.hid (show bs (repM 4 ++ [32, 102, 102] ++ [10]) = ⟨(repM 4 ++ [32, 102, 102] ++ [10]).toArray⟩ from rfl)
      clear hi hbr hw3
      go_wp2_with (go_at_call 43; refine (Tryz.Builder_String_any_k S0 S0 _ _ HI.out (HSZ.out _ HBr.out)).mono ?_; rintro e W1 ⟨rfl, -, b1, -⟩)
      go_ret
      exact ⟨rfl, hS0 ▸ HBr.out.trans b1⟩
end Go.Proofs.YtgflfdnajchjaaaGreatDoor
/- Layer 45: a text that was written is read back. Plain. -/
namespace Go.Proofs.YtgflfdnajchjaaaGreatDoor
set_option linter.unusedVariables false
set_option linter.unusedSimpArgs false
open Go.Lib
/-- The shape of a document. -/
structure DocF (D : DocS) : Prop where
  h0 : D.h0.length = 9
  h1 : D.h1.length = 3
  h2 : D.h2.length = 3
  h3 : D.h3.length = 2
  f : ∀ l ∈ D.fades, l.length = 5
  t : ∀ x ∈ D.terms, x.ns.length = 12 ∧ ∀ l ∈ x.bs, l.length = 15
  p : ∀ x ∈ D.pkts, x.1.length = 4 ∧ x.2 ≠ []
theorem read_line {w : List UInt8} {k : Nat} {ns : List Int} (hw : (32 : UInt8) ∉ w) (hl : ns.length = k) (hs : SmL ns) : okW (readS w k (lineS w ns)) = some ns := okW_some.2 ((whole_iff hw).2 ⟨hl, hs, rfl⟩)
theorem head_line {w : List UInt8} (hw : (32 : UInt8) ∉ w) (ns : List Int) : (spl 32 (lineS w ns)).headD [] = w := by rw [lineS_spl hw]; rfl
theorem hex_back : ∀ l : List UInt8, hexR (hexS l) = l
  | [] => rfl
  | c :: l => by
    have h := hex_back l
    have hb : ∀ c : UInt8, UInt8.ofNat (dig (hexD (c.toNat / 16)) * 16 + dig (hexD (c.toNat % 16))) = c := by
      have h16 : ∀ k : Nat, k < 16 → dig (hexD k) = k := by decide
      intro c
      have hc := c.toNat_lt
      rw [h16 _ (by omega), h16 _ (by omega), Nat.div_add_mod' c.toNat 16]
      simp
    show UInt8.ofNat (dig (hexD (c.toNat / 16)) * 16 + dig (hexD (c.toNat % 16))) :: hexR (hexS l) = c :: l
    rw [hb, h]
theorem pkt_spl (p : List Int × List UInt8) : spl 32 (pktS p) = wPacket :: (p.1.map itoa ++ [hexS p.2]) := by
  have hj : ∀ (L : List (List UInt8)) (x : List UInt8), L ≠ [] → joinC 32 (L ++ [x]) = joinC 32 L ++ 32 :: x := fun L x hL => by
    induction L with
    | nil => exact absurd rfl hL
    | cons a L ih =>
      cases L with
      | nil => rfl
      | cons b L =>
        rw [List.cons_append, joinC_cons (by simp), joinC_cons (by simp), ih (by simp)]
        simp
  have e : pktS p = joinC 32 (wPacket :: p.1.map itoa ++ [hexS p.2]) := by
    rw [hj _ _ (by simp)]
    rfl
  rw [e]
  exact spl_join (by simp) fun a ha => by
    rcases List.mem_append.1 ha with ha | ha
    · rcases List.mem_cons.1 ha with rfl | ha
      · exact word_sp.2.2.2.2.2.2.2
      · obtain ⟨n, -, rfl⟩ := List.mem_map.1 ha
        exact itoa_sp n
    · rw [List.mem_singleton.1 ha]; exact hexS_sp _
theorem pkt_read {D : DocS} {p : List Int × List UInt8} (h1 : p.1.length = 4) (hs : SmL p.1) (h2 : p.2 ≠ []) : pktW D (readS wPacket 4 (pktS p)) = some (8, { D with pkts := D.pkts ++ [p] }) := by
  have hr : readS wPacket 4 (pktS p) = some (p.1, [hexS p.2]) := readS_some.2 ⟨h1, hs, pkt_spl p⟩
  rw [hr]
  unfold pktW
  simp only [hex_back]
  rw [if_pos ⟨h2, trivial⟩]
theorem step_fade {st : Nat} {D : DocS} {ns : List Int} (h4 : 4 ≤ st) (h5 : st ≤ 5) (hl : ns.length = 5) (hs : SmL ns) : stepP st D (lineS wFade ns) = some (5, { D with fades := D.fades ++ [ns] }) := by
  have hw := word_sp.2.2.2.2.1
  unfold stepP
  rw [if_neg (by omega), if_neg (by omega), if_neg (by omega), if_neg (by omega), if_pos ⟨head_line hw ns, h5⟩, read_line hw hl hs]
  rfl
theorem step_term {st : Nat} {D : DocS} {ns : List Int} (h4 : 4 ≤ st) (h7 : st ≤ 7) (hl : ns.length = 12) (hs : SmL ns) : stepP st D (lineS wTerminal ns) = some (6, { D with terms := D.terms ++ [⟨ns, []⟩] }) := by
  have hw := word_sp.2.2.2.2.2.1
  have hh := head_line hw ns
  unfold stepP
  rw [if_neg (by omega), if_neg (by omega), if_neg (by omega), if_neg (by omega), if_neg (fun h => absurd (h.1.symm.trans hh) (by decide)), if_pos ⟨hh, h7⟩, read_line hw hl hs]
  rfl
theorem step_bear {st : Nat} {D : DocS} {ns : List Int} (h6 : st = 6 ∨ st = 7) (hl : ns.length = 15) (hs : SmL ns) : stepP st D (lineS wBearer ns) = some (7, putB D ns) := by
  have hw := word_sp.2.2.2.2.2.2.1
  have hh := head_line hw ns
  unfold stepP
  rw [if_neg (by omega), if_neg (by omega), if_neg (by omega), if_neg (by omega), if_neg (fun h => absurd (h.1.symm.trans hh) (by decide)), if_neg (fun h => absurd (h.1.symm.trans hh) (by decide)), if_pos ⟨hh, h6⟩, read_line hw hl hs]
  rfl
theorem step_packet {st : Nat} {D : DocS} {p : List Int × List UInt8} (h4 : 4 ≤ st) (hl : p.1.length = 4) (hs : SmL p.1) (hp : p.2 ≠ []) : stepP st D (pktS p) = some (8, { D with pkts := D.pkts ++ [p] }) := by
  have hh : (spl 32 (pktS p)).headD [] = wPacket := by rw [pkt_spl]; rfl
  unfold stepP
  rw [if_neg (by omega), if_neg (by omega), if_neg (by omega), if_neg (by omega), if_neg (fun h => absurd (h.1.symm.trans hh) (by decide)), if_neg (fun h => absurd (h.1.symm.trans hh) (by decide)), if_neg (fun h => absurd (h.1.symm.trans hh) (by decide)), if_pos hh]
  exact pkt_read hl hs hp
theorem runP_cons {i st st' : Nat} {D D' : DocS} {s : List UInt8} {R : List (List UInt8)} (h : stepP st D s = some (st', D')) : runP i st D (s :: R) = runP (i + 1) st' D' R := by
  rw [runP, h]
theorem run_fades : ∀ (F : List (List Int)) (i st : Nat) (D : DocS) (R : List (List UInt8)), 4 ≤ st → st ≤ 5 → (∀ l ∈ F, l.length = 5 ∧ SmL l) → ∃ i' st', 4 ≤ st' ∧ st' ≤ 5 ∧ runP i st D (F.map (lineS wFade) ++ R) = runP i' st' { D with fades := D.fades ++ F } R
  | [], i, st, D, R, h4, h5, _ => ⟨i, st, h4, h5, by simp⟩
  | ns :: F, i, st, D, R, h4, h5, h => by
    have hn := h ns (by simp)
    obtain ⟨i', st', g1, g2, g3⟩ := run_fades F (i + 1) 5 { D with fades := D.fades ++ [ns] } R (by omega) (by omega) (fun l hl => h l (by simp [hl]))
    refine ⟨i', st', g1, g2, ?_⟩
    rw [List.map_cons, List.cons_append, runP_cons (step_fade h4 h5 hn.1 hn.2), g3]
    simp
theorem run_bears : ∀ (L : List (List Int)) (i st : Nat) (D : DocS) (T : List TermS) (t : TermS) (R : List (List UInt8)), (st = 6 ∨ st = 7) → D.terms = T ++ [t] → (∀ l ∈ L, l.length = 15 ∧ SmL l) → ∃ i' st', (st' = 6 ∨ st' = 7) ∧ runP i st D (L.map (lineS wBearer) ++ R) = runP i' st' { D with terms := T ++ [⟨t.ns, t.bs ++ L⟩] } R
  | [], i, st, D, T, t, R, h6, ht, _ => ⟨i, st, h6, by
    have e : D = { D with terms := T ++ [⟨t.ns, t.bs ++ []⟩] } := by
      rw [List.append_nil, ← ht]
    rw [List.map_nil, List.nil_append, ← e]⟩
  | ns :: L, i, st, D, T, t, R, h6, ht, h => by
    have hn := h ns (by simp)
    have e := putB_terms (ns := ns) ht
    obtain ⟨i', st', g1, g2⟩ := run_bears L (i + 1) 7 (putB D ns) T ⟨t.ns, t.bs ++ [ns]⟩ R (.inr rfl) e (fun l hl => h l (by simp [hl]))
    refine ⟨i', st', g1, ?_⟩
    rw [List.map_cons, List.cons_append, runP_cons (step_bear h6 hn.1 hn.2), g2]
    unfold putB
    simp
theorem run_terms : ∀ (Ts : List TermS) (i st : Nat) (D : DocS) (R : List (List UInt8)), 4 ≤ st → st ≤ 7 → (∀ x ∈ Ts, (x.ns.length = 12 ∧ ∀ l ∈ x.bs, l.length = 15) ∧ SmL x.ns ∧ ∀ l ∈ x.bs, SmL l) → ∃ i' st', 4 ≤ st' ∧ st' ≤ 7 ∧ runP i st D (Ts.flatMap termS ++ R) = runP i' st' { D with terms := D.terms ++ Ts } R
  | [], i, st, D, R, h4, h7, _ => ⟨i, st, h4, h7, by simp⟩
  | x :: Ts, i, st, D, R, h4, h7, h => by
    have hx := h x (by simp)
    obtain ⟨i1, st1, g1, g2⟩ := run_bears x.bs (i + 1) 6 { D with terms := D.terms ++ [⟨x.ns, []⟩] } D.terms ⟨x.ns, []⟩ (Ts.flatMap termS ++ R) (.inl rfl) rfl (fun l hl => ⟨hx.1.2 l hl, hx.2.2 l hl⟩)
    obtain ⟨i', st', g3, g4, g5⟩ := run_terms Ts i1 st1 { D with terms := D.terms ++ [⟨x.ns, [] ++ x.bs⟩] } R (by omega) (by omega) (fun y hy => h y (by simp [hy]))
    refine ⟨i', st', g3, g4, ?_⟩
    rw [List.flatMap_cons, termS, List.append_assoc, List.cons_append, runP_cons (step_term h4 h7 hx.1.1 hx.2.1), g2, g5]
    simp
theorem run_pkts : ∀ (Ps : List (List Int × List UInt8)) (i st : Nat) (D : DocS), 4 ≤ st → (∀ x ∈ Ps, (x.1.length = 4 ∧ x.2 ≠ []) ∧ SmL x.1) → ∃ st', runP i st D (Ps.map pktS) = .good st' { D with pkts := D.pkts ++ Ps }
  | [], i, st, D, h4, _ => ⟨st, by simp [runP]⟩
  | p :: Ps, i, st, D, h4, h => by
    have hp := h p (by simp)
    obtain ⟨st', g⟩ := run_pkts Ps (i + 1) 8 { D with pkts := D.pkts ++ [p] } (by omega) (fun y hy => h y (by simp [hy]))
    refine ⟨st', ?_⟩
    rw [List.map_cons, runP_cons (step_packet h4 hp.1.1 hp.2 hp.1.2), g]
    simp
theorem run_text {D : DocS} (H : DocF D) (N : DocN D) : ∃ st, runP 0 0 doc0 (textS D) = .good st D := by
  obtain ⟨i1, s1, a1, a2, a3⟩ := run_fades D.fades 4 4 { doc0 with h0 := D.h0, h1 := D.h1, h2 := D.h2, h3 := D.h3 } (D.terms.flatMap termS ++ D.pkts.map pktS) (by omega) (by omega) (fun l hl => ⟨H.f l hl, N.f l hl⟩)
  obtain ⟨i2, s2, b1, b2, b3⟩ := run_terms D.terms i1 s1 ⟨D.h0, D.h1, D.h2, D.h3, D.fades, [], []⟩ (D.pkts.map pktS) a1 (by omega) (fun x hx => ⟨H.t x hx, N.t x hx⟩)
  obtain ⟨s3, c⟩ := run_pkts D.pkts i2 s2 ⟨D.h0, D.h1, D.h2, D.h3, D.fades, D.terms, []⟩ b1 (fun x hx => ⟨H.p x hx, N.p x hx⟩)
  refine ⟨s3, ?_⟩
  have e0 : ∀ D : DocS, stepP 0 D = fun s => (okW (readS wNetwork 9 s)).map fun ns => (1, { D with h0 := ns }) := fun D => rfl
  have q0 : stepP 0 doc0 (lineS wNetwork D.h0) = some (1, { doc0 with h0 := D.h0 }) := by
    show (okW (readS wNetwork 9 (lineS wNetwork D.h0))).map _ = _
    rw [read_line word_sp.1 H.h0 N.h0]; rfl
  have q1 : stepP 1 { doc0 with h0 := D.h0 } (lineS wPatience D.h1) = some (2, { doc0 with h0 := D.h0, h1 := D.h1 }) := by
    show (okW (readS wPatience 3 (lineS wPatience D.h1))).map _ = _
    rw [read_line word_sp.2.1 H.h1 N.h1]; rfl
  have q2 : stepP 2 { doc0 with h0 := D.h0, h1 := D.h1 } (lineS wRule D.h2) = some (3, { doc0 with h0 := D.h0, h1 := D.h1, h2 := D.h2 }) := by
    show (okW (readS wRule 3 (lineS wRule D.h2))).map _ = _
    rw [read_line word_sp.2.2.1 H.h2 N.h2]; rfl
  have q3 : stepP 3 { doc0 with h0 := D.h0, h1 := D.h1, h2 := D.h2 } (lineS wOuter D.h3) = some (4, { doc0 with h0 := D.h0, h1 := D.h1, h2 := D.h2, h3 := D.h3 }) := by
    show (okW (readS wOuter 2 (lineS wOuter D.h3))).map _ = _
    rw [read_line word_sp.2.2.2.1 H.h3 N.h3]; rfl
  unfold textS
  rw [List.append_assoc, List.append_assoc]
  simp only [List.cons_append, List.nil_append]
  rw [runP_cons q0, runP_cons q1, runP_cons q2, runP_cons q3, a3]
  exact b3.trans c
/-! ### No line has an end within -/
theorem ten_itoa (n : Int) : (10 : UInt8) ∉ itoa n := fun h => by
  have := itoa_byte n _ h
  rcases this with h | ⟨h1, -⟩
  · exact absurd h (by decide)
  · exact absurd h1 (by decide)
theorem ten_join : ∀ {L : List (List UInt8)}, (∀ a ∈ L, (10 : UInt8) ∉ a) → (10 : UInt8) ∉ joinC 32 L
  | [], _ => by simp [joinC]
  | [a], h => h a (by simp)
  | a :: b :: L, h => by
    rw [joinC_cons (by simp), List.mem_append, List.mem_cons]
    rintro (h1 | h1 | h1)
    · exact h a (by simp) h1
    · exact absurd h1 (by decide)
    · exact ten_join (fun x hx => h x (by simp [hx])) h1
theorem ten_line {w : List UInt8} (hw : (10 : UInt8) ∉ w) (ns : List Int) : (10 : UInt8) ∉ lineS w ns := ten_join fun a ha => by
  rcases List.mem_cons.1 ha with rfl | ha
  · exact hw
  · obtain ⟨n, -, rfl⟩ := List.mem_map.1 ha
    exact ten_itoa n
theorem ten_hex : ∀ l : List UInt8, (10 : UInt8) ∉ hexS l
  | [] => by simp [hexS]
  | c :: l => by
    have h16 : ∀ k : Nat, k < 16 → (10 : UInt8) ≠ hexD k := by decide
    have h1 := h16 (c.toNat / 16) (by have := c.toNat_lt; omega)
    have h2 := h16 (c.toNat % 16) (by omega)
    have h3 := ten_hex l
    simp only [hexS, List.mem_cons, not_or]
    exact ⟨h1, h2, h3⟩
theorem ten_text (D : DocS) : ∀ l ∈ textS D, (10 : UInt8) ∉ l := fun l hl => by
  unfold textS at hl
  simp only [List.mem_append, List.mem_cons, List.not_mem_nil, or_false, List.mem_map, List.mem_flatMap] at hl
  rcases hl with ((((rfl | rfl | rfl | rfl) | ⟨x, -, rfl⟩) | ⟨x, -, hx⟩) | ⟨x, -, rfl⟩)
  · exact ten_line (by decide) _
  · exact ten_line (by decide) _
  · exact ten_line (by decide) _
  · exact ten_line (by decide) _
  · exact ten_line (by decide) _
  · unfold termS at hx
    rcases List.mem_cons.1 hx with rfl | hx
    · exact ten_line (by decide) _
    · obtain ⟨y, -, rfl⟩ := List.mem_map.1 hx
      exact ten_line (by decide) _
  · unfold pktS
    rw [List.mem_append, List.mem_cons]
    rintro (h | h | h)
    · exact ten_line (by decide) _ h
    · exact absurd h (by decide)
    · exact ten_hex _ h
theorem spl_cat : ∀ L : List (List UInt8), (∀ l ∈ L, (10 : UInt8) ∉ l) → spl 10 (catL L) = L ++ [[]]
  | [], _ => rfl
  | l :: L, h => by
    have e : catL (l :: L) = l ++ 10 :: catL L := by unfold catL; rw [List.flatMap_cons]; simp
    rw [e, spl_app (h l (by simp)), spl_cat L (fun x hx => h x (by simp [hx]))]
    rfl
/-- **A text that was written is read back.** -/
theorem parse_text {D : DocS} (H : DocF D) (N : DocN D) (chk : DocS → Int) (txt : Int) : parseP chk txt (catL (textS D)) = (0, chk D, if chk D = 0 then some D else none) := by
  obtain ⟨st, hr⟩ := run_text H N
  have hs := spl_cat (textS D) (ten_text D)
  have hl := textS_len D
  unfold parseP
  rw [hs, List.dropLast_concat, hr]
  simp only [finP, List.getLastD_concat, List.length_append, List.length_cons, List.length_nil]
  rw [if_neg (fun h => h rfl), if_neg (by omega)]
end Go.Proofs.YtgflfdnajchjaaaGreatDoor
/- Layer 45: a document that was read is written in no more bytes than the text that it was read from (and a few). Plain. -/
namespace Go.Proofs.YtgflfdnajchjaaaGreatDoor
set_option linter.unusedVariables false
set_option linter.unusedSimpArgs false
open Go.Lib
def szL (L : List (List UInt8)) : Nat := (catL L).length
theorem szL_append (A B : List (List UInt8)) : szL (A ++ B) = szL A + szL B := by
  unfold szL catL
  rw [List.flatMap_append, List.length_append]
theorem szL_one (l : List UInt8) : szL [l] = l.length + 1 := by
  unfold szL catL
  simp
theorem szL_cons (l : List UInt8) (L : List (List UInt8)) : szL (l :: L) = l.length + 1 + szL L := by
  have := szL_append [l] L
  rw [szL_one] at this
  exact this
theorem szL_nil : szL [] = 0 := rfl
theorem szL_text (D : DocS) : szL (textS D) = (lineS wNetwork D.h0).length + 1 + ((lineS wPatience D.h1).length + 1) + ((lineS wRule D.h2).length + 1) + ((lineS wOuter D.h3).length + 1) + szL (D.fades.map (lineS wFade)) + szL (D.terms.flatMap termS) + szL (D.pkts.map pktS) := by
  unfold textS
  rw [szL_append, szL_append, szL_append, szL_cons, szL_cons, szL_cons, szL_cons, szL_nil]
  omega
theorem okW_line {w : List UInt8} {k : Nat} {s : List UInt8} {ns : List Int} (hw : (32 : UInt8) ∉ w) (h : okW (readS w k s) = some ns) : lineS w ns = s := ((whole_iff hw).1 (okW_some.1 h)).2.2.symm
theorem step_size {st st' : Nat} {D D' : DocS} {s : List UInt8} (h : stepP st D s = some (st', D')) : szL (textS D') ≤ szL (textS D) + (s.length + 1) := by
  unfold stepP at h
  split at h
  · obtain ⟨ns, ho, hx⟩ := map_some_elim h
    injection hx with h1 h2; subst h1 h2
    rw [szL_text, szL_text]
    have e := congrArg List.length (okW_line word_sp.1 ho)
    simp only
    omega
  · split at h
    · obtain ⟨ns, ho, hx⟩ := map_some_elim h
      injection hx with h1 h2; subst h1 h2
      rw [szL_text, szL_text]
      have e := congrArg List.length (okW_line word_sp.2.1 ho)
      simp only
      omega
    · split at h
      · obtain ⟨ns, ho, hx⟩ := map_some_elim h
        injection hx with h1 h2; subst h1 h2
        rw [szL_text, szL_text]
        have e := congrArg List.length (okW_line word_sp.2.2.1 ho)
        simp only
        omega
      · split at h
        · obtain ⟨ns, ho, hx⟩ := map_some_elim h
          injection hx with h1 h2; subst h1 h2
          rw [szL_text, szL_text]
          have e := congrArg List.length (okW_line word_sp.2.2.2.1 ho)
          simp only
          omega
        · split at h
          · obtain ⟨ns, ho, hx⟩ := map_some_elim h
            injection hx with h1 h2; subst h1 h2
            rw [szL_text, szL_text]
            have e := congrArg List.length (okW_line word_sp.2.2.2.2.1 ho)
            simp only [List.map_append, szL_append, List.map_cons, List.map_nil, szL_one]
            omega
          · split at h
            · obtain ⟨ns, ho, hx⟩ := map_some_elim h
              injection hx with h1 h2; subst h1 h2
              rw [szL_text, szL_text]
              have e := congrArg List.length (okW_line word_sp.2.2.2.2.2.1 ho)
              simp only [List.flatMap_append, szL_append, List.flatMap_cons, List.flatMap_nil, List.append_nil, termS, List.map_nil, szL_one]
              omega
            · split at h
              · obtain ⟨ns, ho, hx⟩ := map_some_elim h
                injection hx with h1 h2; subst h1 h2
                have e := congrArg List.length (okW_line word_sp.2.2.2.2.2.2.1 ho)
                have hp : (putB D ns).h0 = D.h0 ∧ (putB D ns).h1 = D.h1 ∧ (putB D ns).h2 = D.h2 ∧ (putB D ns).h3 = D.h3 ∧ (putB D ns).fades = D.fades ∧ (putB D ns).pkts = D.pkts := ⟨rfl, rfl, rfl, rfl, rfl, rfl⟩
                have ht : szL ((putB D ns).terms.flatMap termS) ≤ szL (D.terms.flatMap termS) + (s.length + 1) := by
                  rcases List.eq_nil_or_concat D.terms with h | ⟨T, t, h⟩
                  · unfold putB; simp [h]
                  · rw [List.concat_eq_append] at h
                    rw [putB_terms h, h]
                    simp only [List.flatMap_append, szL_append, List.flatMap_cons, List.flatMap_nil, List.append_nil, termS, List.map_append, List.map_cons, List.map_nil, szL_cons, szL_nil]
                    omega
                rw [szL_text, szL_text, hp.1, hp.2.1, hp.2.2.1, hp.2.2.2.1, hp.2.2.2.2.1, hp.2.2.2.2.2]
                omega
              · split at h
                · unfold pktW at h
                  split at h
                  · rename_i ns hh ho
                    split at h
                    · rename_i hc
                      injection h with h
                      injection h with h1 h2; subst h1 h2
                      have hs := (readS_some.1 ho).2.2
                      have e0 : pktS (ns, hexR hh) = s := by
                        have h1 := pkt_spl (ns, hexR hh)
                        rw [show hexS (hexR hh) = hh from hc.2] at h1
                        rw [← join_spl 32 (pktS (ns, hexR hh)), h1, ← hs, join_spl]
                      have e := congrArg List.length e0
                      rw [szL_text, szL_text]
                      simp only [List.map_append, szL_append, List.map_cons, List.map_nil, szL_one]
                      omega
                    · cases h
                  · cases h
                · cases h
theorem run_size : ∀ (l : List (List UInt8)) (i st : Nat) (D : DocS) (st' : Nat) (D' : DocS), runP i st D l = .good st' D' → szL (textS D') ≤ szL (textS D) + szL l
  | [], i, st, D, st', D', h => by
    rw [runP] at h
    injection h with h1 h2
    rw [h2, szL_nil]
    omega
  | s :: l, i, st, D, st', D', h => by
    rw [runP] at h
    split at h
    · cases h
    · rename_i st1 D1 he
      have h1 := step_size he
      have h2 := run_size l _ _ _ _ _ h
      rw [szL_cons]
      omega
theorem join_len (c : UInt8) : ∀ L : List (List UInt8), L ≠ [] → szL L = (joinC c L).length + 1
  | [], h => absurd rfl h
  | [a], _ => szL_one a
  | a :: b :: L, _ => by
    have ih := join_len c (b :: L) (by simp)
    rw [szL_cons, ih, joinC_cons (a := a) (L := b :: L) (by simp), List.length_append, List.length_cons]
    omega
theorem spl_size (s : List UInt8) : szL (spl 10 s) = s.length + 1 := by
  rw [join_len 10 _ (spl_ne 10 s), join_spl]
theorem size_doc0 : szL (textS doc0) ≤ 1000 := by
  have e : textS doc0 = [lineS wNetwork (List.replicate 9 0), lineS wPatience (List.replicate 3 0), lineS wRule (List.replicate 3 0), lineS wOuter (List.replicate 2 0)] := rfl
  rw [e, szL_cons, szL_cons, szL_cons, szL_cons, szL_nil]
  have h : ∀ (w : List UInt8) (k : Nat), w.length ≤ 14 → (lineS w (List.replicate k 0)).length ≤ 15 * (k + 1) := fun w k hw => by
    have := joinC_len 32 14 (w :: (List.replicate k 0).map itoa) (fun a ha => by
      rcases List.mem_cons.1 ha with rfl | ha
      · exact hw
      · obtain ⟨n, hn, rfl⟩ := List.mem_map.1 ha
        rw [List.eq_of_mem_replicate hn]
        exact itoa_len ⟨by decide, by decide⟩)
    unfold lineS
    simpa using this
  have h1 := h wNetwork 9 (by decide)
  have h2 := h wPatience 3 (by decide)
  have h3 := h wRule 3 (by decide)
  have h4 := h wOuter 2 (by decide)
  omega
/-- The document that a text says (or none) is written in about as many bytes. -/
theorem parse_size (chk : DocS → Int) (txt : Int) (s : List UInt8) : (catL (textS ((parseP chk txt s).2.2.getD doc0))).length ≤ s.length + 1001 := by
  have h0 : szL (textS doc0) ≤ s.length + 1001 := by have := size_doc0; omega
  show szL _ ≤ _
  unfold parseP
  cases hr : runP 0 0 doc0 (spl 10 s).dropLast with
  | bad k => exact h0
  | good st D =>
    have h1 := run_size _ _ _ _ _ _ hr
    have h2 := size_doc0
    have h3 : szL (spl 10 s).dropLast ≤ s.length + 1 := by
      have e := List.dropLast_concat_getLast (spl_ne 10 s)
      have := spl_size s
      rw [← e, szL_append] at this
      omega
    simp only [finP]
    split
    · exact h0
    · split
      · exact h0
      · simp only
        split
        · show szL (textS D) ≤ _
          omega
        · exact h0
theorem mem_size {L : List (List UInt8)} {l : List UInt8} (h : l ∈ L) : l.length ≤ (catL L).length := by
  obtain ⟨A, B, rfl⟩ := List.append_of_mem h
  show _ ≤ szL _
  rw [szL_append, szL_cons]
  omega
theorem pkt_size {D : DocS} {x : List Int × List UInt8} (h : x ∈ D.pkts) : x.2.length ≤ (catL (textS D)).length := by
  have hm : pktS x ∈ textS D := by
    unfold textS
    exact List.mem_append_right _ (List.mem_map.2 ⟨x, h, rfl⟩)
  have h1 := mem_size hm
  have h2 : (pktS x).length = (lineS wPacket x.1).length + (1 + (hexS x.2).length) := by
    show (lineS wPacket x.1 ++ 32 :: hexS x.2).length = _
    rw [List.length_append, List.length_cons]
    omega
  have h3 : ∀ a : List UInt8, (hexS a).length = 2 * a.length := fun a => by
    induction a with
    | nil => rfl
    | cons c a ih => simp [hexS, ih]; omega
  rw [h3] at h2
  omega
end Go.Proofs.YtgflfdnajchjaaaGreatDoor
