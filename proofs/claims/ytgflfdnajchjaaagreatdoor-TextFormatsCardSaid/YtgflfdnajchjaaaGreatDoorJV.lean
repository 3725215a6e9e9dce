import Derived.Test.YtgflfdnajchjaaaGreatDoorJU
/- Layer 45: hexadecimal digits as bytes, by the reference. -/
namespace Go.Proofs.YtgflfdnajchjaaaGreatDoor
set_option linter.unusedVariables false
set_option linter.unusedSimpArgs false
open Go.RowKit Go.Sort
open Go.Lib (itoa atoiAll decDigits)
open Tm
theorem dig_hexD : ∀ i : Nat, i < 16 → dig (hexD i) = i := by decide
set_option maxRecDepth 100000 in
theorem dig_none' : ∀ n : Nat, n < 256 → (∀ j : Nat, j < 16 → hexD j ≠ UInt8.ofNat n) → dig (UInt8.ofNat n) = 0 := by decide
theorem dig_none {c : UInt8} (h : ∀ j : Nat, j < 16 → hexD j ≠ c) : dig c = 0 := by
  have := dig_none' c.toNat c.toNat_lt
  rw [UInt8.ofNat_toNat] at this
  exact this h
theorem dig_lt (c : UInt8) : dig c < 16 := by
  rcases dig_of c with h | h
  · rw [h.2]; decide
  · exact h.2
theorem digL_at : ∀ k : Nat, k < 16 → digB.data.toList[k]? = some (hexD k) := by decide
set_option maxRecDepth 100000 in
set_option maxHeartbeats 1000000 in
theorem value92 (c : UInt8) (w : World) : Calls Tryz.prog 92 #[.int .u8 (c.toNat : Int)] w fun e w' => e = .returned (.int .u8 (dig c : Nat)) ∧ w' = w := by
  go_enter Tryz.func92, Tryz.ntmps92
  go_wp2
  go_loopw [3] (fun i wr => ∃ j : Nat, j ≤ 16 ∧ i = .int .i64 j ∧ wr = w ∧ ∀ q, q < j → hexD q ≠ c) (fun i _ => 16 - (intOf i).toNat)
  case atStart => exact ⟨0, Nat.zero_le _, rfl, rfl, fun q hq => absurd hq (Nat.not_lt_zero q)⟩
  case round =>
    obtain ⟨j, hj, rfl, rfl, hall⟩ := hrel
    have HA := Lib.hid hall
    clear hall
    by_cases hlt : j < 16
    · have hix := fun wx => run_index_str (s := digB) (digL_at j hlt) j rfl wx
      unfold digB at hix
      by_cases e : hexD j = c
      · have ED := Lib.hid (show dig c = j by rw [← e]; exact dig_hexD j hlt)
        rw [e] at hix
        clear e HA
        go_wp2
        go_ret
        exact ⟨by rw [ED.out]; rfl, rfl⟩
      · have HA2 := Lib.hid (show ∀ q, q < j + 1 → hexD q ≠ c from fun q hq => by
          by_cases h : q = j
          · rw [h]; exact e
          · exact HA.out q (by omega))
        have hq : (((hexD j).toNat : Int) == (c.toNat : Int)) = false := beq_false_of_ne fun h => e (UInt8.toNat_inj.1 (by omega))
        clear e
        generalize hexD j = x at *
        go_wp2
        go_roundw
        case rel => exact ⟨j + 1, by omega, by go_num, trivial, HA2.out⟩
        case measure => simp [intOf]; omega
    · obtain rfl : j = 16 := by omega
      have ED := Lib.hid (show dig c = 0 from dig_none HA.out)
      go_wp2
      go_ret
      exact ⟨by rw [ED.out]; rfl, rfl⟩
set_option maxRecDepth 100000 in
theorem or_dig8 : ∀ a : Nat, a < 16 → ∀ b : Nat, b < 16 → bits .or .u8 ((a : Int) * 16) b = ((UInt8.ofNat (a * 16 + b)).toNat : Int) := by decide
theorem hexR_two {L : List UInt8} {k : Nat} (h : k + 1 < L.length) : hexR (L.drop k) = UInt8.ofNat (dig (L.getD k 0) * 16 + dig (L.getD (k + 1) 0)) :: hexR (L.drop (k + 2)) := by
  rw [List.drop_eq_getElem_cons (show k < L.length by omega), List.drop_eq_getElem_cons h]
  rw [List.getD_eq_getElem?_getD, List.getElem?_eq_getElem (show k < L.length by omega), List.getD_eq_getElem?_getD, List.getElem?_eq_getElem h]
  rfl
theorem hexR_end {L : List UInt8} {k : Nat} (h : ¬ k + 1 < L.length) : hexR (L.drop k) = [] := by
  rcases hd : L.drop k with _ | ⟨a, _ | ⟨b, r⟩⟩
  · rfl
  · rfl
  · have := congrArg List.length hd
    simp at this
    omega
set_option maxRecDepth 100000 in
set_option maxHeartbeats 2000000 in
theorem bytes61 (s : ByteArray) (hs : s.size ≤ 1000000) (w : World) :
    Calls Tryz.prog 61 #[.string s] w fun e w' => ∃ v, e = .returned v ∧ OwnU w' w.heap.size v (hexR s.data.toList) ∧ Below w.heap.size w w' := by
  have hL : s.data.toList.length = s.size := Array.length_toList
  have HI := Lib.hid (fun (k : Nat) (hk : k < s.size) (i : Int) (hi : i = k) wx => run_index_str (s := s) (k := k) (c := s.data.toList.getD k 0) (by rw [List.getD_eq_getElem?_getD, List.getElem?_eq_getElem (by omega)]; rfl) i hi wx)
  generalize s.data.toList = L at *
  go_enter Tryz.func61, Tryz.ntmps61
  go_wp2
  go_loopw [3, 4] (fun r i wr => ∃ (k : Nat) (rv : Value) (acc : List UInt8), k ≤ s.size + 1 ∧ acc.length ≤ k ∧ rv = r ∧ i = .int .i64 k ∧ hexR L = acc ++ hexR (L.drop k) ∧ OwnU wr w.heap.size rv acc ∧ Below w.heap.size w wr) (fun _ i _ => s.size + 1 - (intOf i).toNat)
  case atStart => exact ⟨0, _, [], Nat.zero_le _, Nat.le_refl _, rfl, rfl, rfl, World.ownsRow_nil _ _ _ _, Below.refl _ _⟩
  case round =>
    obtain ⟨k, rv, acc, hk, hak, rfl, rfl, hx, hown, hbr⟩ := hrel
    have HX := Lib.hid hx
    have HO := Lib.hid hown
    have HR := Lib.hid hbr
    clear hx hown hbr
    by_cases hlt : k + 1 < s.size
    · have h0 := HI.out k (by omega) k rfl
      have h1 := HI.out (k + 1) hlt ((k : Int) + 1) (by omega)
      have HX2 := Lib.hid (show hexR L = (acc ++ [UInt8.ofNat (dig (L.getD k 0) * 16 + dig (L.getD (k + 1) 0))]) ++ hexR (L.drop (k + 2)) by rw [HX.out, hexR_two (by omega)]; simp)
      have HL2 := Lib.hid (show acc.length + 1 ≤ 100000000 by omega)
      have KX := Lib.hid (value92 (L.getD k 0))
      have KY := Lib.hid (value92 (L.getD (k + 1) 0))
      have dx16 := dig_lt (L.getD k 0)
      have dy16 := dig_lt (L.getD (k + 1) 0)
      have hor : bits .or .u8 ((dig (L.getD k 0) : Int) * 16) (dig (L.getD (k + 1) 0)) = ((UInt8.ofNat (dig (L.getD k 0) * 16 + dig (L.getD (k + 1) 0))).toNat : Int) := or_dig8 _ dx16 _ dy16
      generalize UInt8.ofNat (dig (L.getD k 0) * 16 + dig (L.getD (k + 1) 0)) = g at *
      generalize dig (L.getD k 0) = dx at *
      generalize dig (L.getD (k + 1) 0) = dy at *
      generalize L.getD k 0 = x at *
      generalize L.getD (k + 1) 0 = y at *
      have w1 : IntKind.u8.wrap ((dx : Int) * 16) = (dx : Int) * 16 := by rw [IntKind.wrap_u8]; omega
      have w2 : IntKind.i64.wrap ((k : Int) + 1) = (k : Int) + 1 := by rw [IntKind.wrap_i64]; omega
      clear HX
      go_wp2
      refine wp_region_peelF 0 13 (fun i v u => match i with
        | 0 => v = rv
        | 1 => v = .string s
        | 2 => v = .int .i64 k
        | 3 => v = .int .u8 (x.toNat : Int)
        | 4 => v = .int .u8 (dx : Nat)
        | 5 => v = .int .u8 ((dx : Int) * 16)
        | 6 => v = .string s
        | 7 => v = .int .i64 k
        | 8 => v = .int .i64 ((k : Int) + 1)
        | 9 => v = .int .u8 (y.toNat : Int)
        | 10 => v = .int .u8 (dy : Nat)
        | 11 => v = .int .u8 (g.toNat : Int)
        | 12 => ∃ b0, v = .slice (some ⟨b0, 0, none⟩) 1 1 ∧ u.heap[b0]? = some (.cells #[.int .u8 (g.toNat : Int)] 5 (0, 0))
        | _ => True) (by kernel_rfl) (by kernel_rfl) rfl (fun _ _ d _ _ h => by cases d <;> exact h) ?_ ?_ ?_
      · intro i v w1 w2 hb h
        match i with
        | 0 => exact h
        | 1 => exact h
        | 2 => exact h
        | 3 => exact h
        | 4 => exact h
        | 5 => exact h
        | 6 => exact h
        | 7 => exact h
        | 8 => exact h
        | 9 => exact h
        | 10 => exact h
        | 11 => exact h
        | 12 =>
          obtain ⟨b0, e1, e2⟩ := h
          exact ⟨b0, e1, (hb.block b0 (heap_lt e2)).trans e2⟩
        | k + 13 => exact h
      · intro i o hp hi ho vf u1 hb hd
        have hi' : i = 0 ∨ i = 1 ∨ i = 2 ∨ i = 3 ∨ i = 4 ∨ i = 5 ∨ i = 6 ∨ i = 7 ∨ i = 8 ∨ i = 9 ∨ i = 10 ∨ i = 11 ∨ i = 12 := by omega
        rcases hi' with rfl | rfl | rfl | rfl | rfl | rfl | rfl | rfl | rfl | rfl | rfl | rfl | rfl
        · obtain rfl := Option.some.inj ho
          clear hd
          simp only [fillA, List.take_succ_cons, List.take_zero, List.drop_succ_cons, List.drop_zero, Nat.zero_add, Nat.reduceAdd]
          go_wp2
          exact ⟨rfl, Below.refl _ _, rfl⟩
        · obtain rfl := Option.some.inj ho
          clear hd
          simp only [fillA, List.take_succ_cons, List.take_zero, List.drop_succ_cons, List.drop_zero, Nat.zero_add, Nat.reduceAdd]
          go_wp2
          exact ⟨rfl, Below.refl _ _, rfl⟩
        · obtain rfl := Option.some.inj ho
          clear hd
          simp only [fillA, List.take_succ_cons, List.take_zero, List.drop_succ_cons, List.drop_zero, Nat.zero_add, Nat.reduceAdd]
          go_wp2
          exact ⟨rfl, Below.refl _ _, rfl⟩
        · obtain rfl := Option.some.inj ho
          have f1 := hd 1 (by omega) (by omega) (by kernel_rfl)
          have f2 := hd 2 (by omega) (by omega) (by kernel_rfl)
          clear hd
          simp only [fillA, List.take_succ_cons, List.take_zero, List.drop_succ_cons, List.drop_zero, Nat.zero_add, Nat.reduceAdd]
          go_wp2
          exact ⟨rfl, Below.refl _ _, rfl⟩
        · obtain rfl := Option.some.inj ho
          have f3 := hd 3 (by omega) (by omega) (by kernel_rfl)
          clear hd
          simp only [fillA, List.take_succ_cons, List.take_zero, List.drop_succ_cons, List.drop_zero, Nat.zero_add, Nat.reduceAdd]
          generalize vf 3 = v3 at *
          subst f3
          go_wp2_with (go_at_call 92; refine (KX.out _).mono ?_; rintro e w3 ⟨rfl, rfl⟩)
          exact ⟨rfl, Below.refl _ _, rfl⟩
        · obtain rfl := Option.some.inj ho
          have f4 := hd 4 (by omega) (by omega) (by kernel_rfl)
          clear hd
          simp only [fillA, List.take_succ_cons, List.take_zero, List.drop_succ_cons, List.drop_zero, Nat.zero_add, Nat.reduceAdd]
          go_wp2
          exact ⟨rfl, Below.refl _ _, rfl⟩
        · obtain rfl := Option.some.inj ho
          clear hd
          simp only [fillA, List.take_succ_cons, List.take_zero, List.drop_succ_cons, List.drop_zero, Nat.zero_add, Nat.reduceAdd]
          go_wp2
          exact ⟨rfl, Below.refl _ _, rfl⟩
        · obtain rfl := Option.some.inj ho
          clear hd
          simp only [fillA, List.take_succ_cons, List.take_zero, List.drop_succ_cons, List.drop_zero, Nat.zero_add, Nat.reduceAdd]
          go_wp2
          exact ⟨rfl, Below.refl _ _, rfl⟩
        · obtain rfl := Option.some.inj ho
          have f7 := hd 7 (by omega) (by omega) (by kernel_rfl)
          clear hd
          simp only [fillA, List.take_succ_cons, List.take_zero, List.drop_succ_cons, List.drop_zero, Nat.zero_add, Nat.reduceAdd]
          go_wp2
          exact ⟨rfl, Below.refl _ _, rfl⟩
        · obtain rfl := Option.some.inj ho
          have f6 := hd 6 (by omega) (by omega) (by kernel_rfl)
          have f8 := hd 8 (by omega) (by omega) (by kernel_rfl)
          clear hd
          simp only [fillA, List.take_succ_cons, List.take_zero, List.drop_succ_cons, List.drop_zero, Nat.zero_add, Nat.reduceAdd]
          go_wp2
          exact ⟨rfl, Below.refl _ _, rfl⟩
        · obtain rfl := Option.some.inj ho
          have f9 := hd 9 (by omega) (by omega) (by kernel_rfl)
          clear hd
          simp only [fillA, List.take_succ_cons, List.take_zero, List.drop_succ_cons, List.drop_zero, Nat.zero_add, Nat.reduceAdd]
          generalize vf 9 = v9 at *
          subst f9
          go_wp2_with (go_at_call 92; refine (KY.out _).mono ?_; rintro e w3 ⟨rfl, rfl⟩)
          exact ⟨rfl, Below.refl _ _, rfl⟩
        · obtain rfl := Option.some.inj ho
          have f5 := hd 5 (by omega) (by omega) (by kernel_rfl)
          have f10 := hd 10 (by omega) (by omega) (by kernel_rfl)
          clear hd
          simp only [fillA, List.take_succ_cons, List.take_zero, List.drop_succ_cons, List.drop_zero, Nat.zero_add, Nat.reduceAdd]
          go_wp2
          exact ⟨rfl, Below.refl _ _, rfl⟩
        · obtain rfl := Option.some.inj ho
          have f11 := hd 11 (by omega) (by omega) (by kernel_rfl)
          clear hd
          simp only [fillA, List.take_succ_cons, List.take_zero, List.drop_succ_cons, List.drop_zero, Nat.zero_add, Nat.reduceAdd]
          go_wp2
          exact ⟨rfl, (Below.refl _ _).alloc (Nat.le_refl _) _, _, rfl, (MapKept.heap_alloc u1 _).1⟩
      · intro vf u1 hb hd
        have f0 := hd 0 (by omega) (by omega)
        obtain ⟨b0, f12, g12⟩ := hd 12 (by omega) (by omega)
        have HG12 := Lib.hid g12
        clear hd g12
        have HBu := Lib.hid (HR.out.trans (hb.mono HR.out.size))
        have HOu := Lib.hid (own_below HO.out hb)
        have hn := HBu.out.size
        have HCs := Lib.hid (show ∀ q, q < [g].length → u1.cell? ⟨b0, q, none⟩ = some (.int .u8 (([g].getD q 0).toNat : Int)) from fun q hq => by
          obtain rfl : q = 0 := by (simp at hq; omega)
          exact cell_box HG12.out rfl)
        simp only [fillA, List.take_succ_cons, List.take_zero, List.drop_succ_cons, List.drop_zero, Nat.zero_add, Nat.reduceAdd, Act.put, List.setIfInBounds_toArray, List.set_cons_succ, List.set_cons_zero]
        generalize vf 0 = v0 at *
        subst f0
        generalize vf 12 = v12 at *
        subst f12
        go_wp2_with (at_builtin; refine wpB_slice u1 w w.heap.size rfl _ _ rfl v0 acc rfl HOu.out [g] b0 1 rfl HCs.out HL2.out HBu.out.size HBu.out ?_; intro v1 w1 ho1 hb1 hs1; refine Hid.out ?_)
        refine Lib.hid ?_
        have HO1 := Lib.hid ho1
        have HB1 := Lib.hid hb1
        clear ho1 hb1 hs1
        go_wp2
        go_roundw
        case rel => exact ⟨k + 2, _, acc ++ [g], by omega, by rw [List.length_append]; simp only [List.length_cons, List.length_nil]; omega, rfl, by go_num, HX2.out, HO1.out, HB1.out⟩
        case measure => simp [intOf]; omega
    · have HE := Lib.hid (hexR_end (L := L) (k := k) (by omega))
      rw [HE.out, List.append_nil] at HX
      go_wp2
      go_ret
      exact ⟨_, rfl, by rw [HX.out]; exact HO.out, HR.out⟩
end Go.Proofs.YtgflfdnajchjaaaGreatDoor
/- Layer 45: the numbers of a line, by the reference. -/
namespace Go.Proofs.YtgflfdnajchjaaaGreatDoor
set_option linter.unusedVariables false
set_option linter.unusedSimpArgs false
open Go.RowKit Go.Sort
open Go.Lib (itoa atoiAll decDigits)
open Tm
def ivs (l : List Int) : Array Value := (l.map (Value.int .i64)).toArray
theorem made15 (n : Nat) (h : n ≤ 15) : madeCells (Value.cells (.int .i64 0)) (n * 1) = ivs (List.replicate n 0) := by
  refine Array.toList_inj.1 ?_
  rw [Nat.mul_one]
  refine (toList_madeCells_one (.int .i64 0) n).trans ?_
  unfold ivs
  simp
theorem pz3' : (Tryz.prog.info? 3).map (fun i => (i.zero, i.size, i.bytes)) = some (some (.int .i64 0), 1, 8) := by kernel_rfl
theorem make24 (n : Nat) (h : n ≤ 15) (w : World) : (Instr.makeSlice 24 (.int .i64 n) (.int .i64 n)).run Tryz.prog w = .ok (.slice (some ⟨w.heap.size, 0, none⟩) n n) (w.alloc (.cells (ivs (List.replicate n 0)) 3)) := by
  obtain ⟨i, hi1, hz, hsz, hby⟩ := info_split pz3'
  have := run_makeSlice (P := Tryz.prog) w 24 3 i (.int .i64 0) Tryz.underlying24 hi1 hz .i64 .i64 n n (by omega) (by omega) (by rw [hsz]; simp; omega) (by rw [hby]; omega) (by omega)
  rw [this, hsz, Int.toNat_natCast, made15 n h]
/-- A row of numbers that is being filled. -/
def RowV (w : World) (b n : Nat) (V : Nat → Int) : Prop := w.heap[b]? = some (.cells (ivs ((List.range n).map V)) 3 (0, 0))
section
variable {w : World} {b n : Nat} {V : Nat → Int}
theorem RowV.at (H : RowV w b n V) {k : Nat} (hk : k < n) : w.cell? ⟨b, k, none⟩ = some (.int .i64 (V k)) := cell_box H (by
  unfold ivs
  rw [List.getElem?_toArray, List.getElem?_map, List.getElem?_map, List.getElem?_range hk]
  rfl)
theorem ivs_set (n : Nat) (V : Nat → Int) (i : Nat) (x : Int) : (ivs ((List.range n).map V)).setIfInBounds i (.int .i64 x) = ivs ((List.range n).map fun q => if q = i then x else V q) := by
  unfold ivs
  rw [List.setIfInBounds_toArray]
  congr 1
  refine List.ext_getElem? fun k => ?_
  rw [List.getElem?_set, List.getElem?_map, List.getElem?_map, List.getElem?_map, List.getElem?_map]
  by_cases hk : k < n
  · rw [List.getElem?_range hk]
    by_cases e : i = k
    · subst e
      simp [hk]
    · rw [if_neg e]
      simp [show ¬ k = i from fun h => e h.symm]
  · rw [List.getElem?_eq_none (show (List.range n).length ≤ k by simp; omega)]
    by_cases e : i = k
    · subst e
      simp [hk]
    · rw [if_neg e]; rfl
theorem RowV.set (H : RowV w b n V) (i : Nat) (x : Int) : RowV (w.setCell ⟨b, i, none⟩ (.int .i64 x)) b n (fun q => if q = i then x else V q) := by
  unfold RowV
  rw [heap_set_same H, ivs_set]
theorem RowV.congr (H : RowV w b n V) {U : Nat → Int} (h : ∀ q, q < n → V q = U q) : RowV w b n U := by
  unfold RowV at *
  rw [H, List.map_congr_left fun q hq => h q (List.mem_range.1 hq)]
theorem RowV.fr (H : RowV w b n V) (k : Nat) : w.frozen? ⟨b, k, none⟩ = false := frozen_of_row w b k _ _ H
end
theorem refFold_snoc {F : List UInt8} {j : Nat} (hj : j < F.length) (h15 : j < 15) : refFold 0 (1, 0) (F.take (j + 1)) = refStep j (refFold 0 (1, 0) (F.take j)) (F.getD j 0) := by
  have hl : (F.take j).length = j := by rw [List.length_take]; omega
  rw [List.take_succ_eq_append_getElem hj, refFold_append _ _ _ _ (by omega), hl, Nat.zero_add, refFold, if_pos h15, refFold]
  rw [List.getD_eq_getElem?_getD, List.getElem?_eq_getElem hj]
  rfl
theorem refFold_stop {F : List UInt8} {j : Nat} (hj : j ≤ F.length) (h15 : j ≤ 15) (h : ¬ (j < F.length ∧ j < 15)) : refFold 0 (1, 0) (F.take j) = refFold 0 (1, 0) F := by
  by_cases hjl : j < F.length
  · obtain rfl : j = 15 := by omega
    have hl : (F.take 15).length = 15 := by rw [List.length_take]; omega
    have e : F = F.take 15 ++ F.drop 15 := (List.take_append_drop 15 F).symm
    conv => rhs; rw [e]
    rw [refFold_append _ _ _ _ (by omega), hl]
    cases hd : F.drop 15 with
    | nil => rfl
    | cons a r => rw [refFold, if_neg (by omega)]
  · obtain rfl : j = F.length := by omega
    rw [List.take_length]
/-- How far a word is read. -/
structure RefSt (F : List UInt8) (j : Nat) (sg x : Int) : Prop where
  e : refFold 0 (1, 0) (F.take j) = (sg, x)
  s : sg = 1 ∨ sg = -1
  lo : 0 ≤ x
  hi : x < ((10 ^ j : Nat) : Int)
theorem ref_start (F : List UInt8) : RefSt F 0 1 0 := ⟨rfl, .inl rfl, by omega, by decide⟩
theorem RefSt.neg {F : List UInt8} {sg x : Int} (S : RefSt F 0 sg x) (hj : 0 < F.length) (h : (F.getD 0 0).toNat = 45) : RefSt F 1 (-1) x := by
  refine ⟨?_, .inr rfl, S.lo, by have := S.hi; omega⟩
  rw [refFold_snoc hj (by omega), S.e]
  unfold refStep
  rw [if_pos ⟨rfl, h⟩]
theorem RefSt.digit {F : List UInt8} {j : Nat} {sg x : Int} (S : RefSt F j sg x) (hj : j < F.length) (h15 : j < 15) (h : ¬ (j = 0 ∧ (F.getD j 0).toNat = 45)) (h1 : 48 ≤ (F.getD j 0).toNat) (h2 : (F.getD j 0).toNat ≤ 57) : RefSt F (j + 1) sg (x * 10 + ((F.getD j 0).toNat - 48)) := by
  have a := S.lo
  have b := S.hi
  refine ⟨?_, S.s, by omega, ?_⟩
  · rw [refFold_snoc hj h15, S.e]
    unfold refStep
    rw [if_neg h, if_pos ⟨h1, h2⟩]
  · rw [Nat.pow_succ]
    generalize 10 ^ j = p at *
    omega
theorem RefSt.skip {F : List UInt8} {j : Nat} {sg x : Int} (S : RefSt F j sg x) (hj : j < F.length) (h15 : j < 15) (h : ¬ (j = 0 ∧ (F.getD j 0).toNat = 45)) (h1 : ¬ (48 ≤ (F.getD j 0).toNat ∧ (F.getD j 0).toNat ≤ 57)) : RefSt F (j + 1) sg x := by
  have b := S.hi
  refine ⟨?_, S.s, S.lo, ?_⟩
  · rw [refFold_snoc hj h15, S.e]
    unfold refStep
    rw [if_neg h, if_neg h1]
  · rw [Nat.pow_succ]
    generalize 10 ^ j = p at *
    omega
theorem RefSt.big {F : List UInt8} {j : Nat} {sg x : Int} (S : RefSt F j sg x) (h15 : j ≤ 15) : x < 1000000000000000 := by
  have b := S.hi
  have : 10 ^ j ≤ 10 ^ 15 := Nat.pow_le_pow_right (by decide) h15
  have e : (10 : Nat) ^ 15 = 1000000000000000 := by decide
  rw [e] at this
  generalize 10 ^ j = p at *
  omega
theorem RefSt.fin {F : List UInt8} {j : Nat} {sg x : Int} (S : RefSt F j sg x) (hj : j ≤ F.length) (h15 : j ≤ 15) (h : ¬ (j < F.length ∧ j < 15)) : refW F = if -1099511627776 ≤ sg * x ∧ sg * x ≤ 1099511627776 then sg * x else 0 := by
  have e := S.e
  rw [refFold_stop hj h15 h] at e
  unfold refW
  rw [e]
end Go.Proofs.YtgflfdnajchjaaaGreatDoor
