import Derived.Test.YtgflfdnajchjaaaGreatDoorJV
/- Layer 45: the numbers of a line, walked. -/
namespace Go.Proofs.YtgflfdnajchjaaaGreatDoor
set_option linter.unusedVariables false
set_option linter.unusedSimpArgs false
open Go.RowKit Go.Sort
open Go.Lib (itoa atoiAll decDigits)
open Tm
attribute [local go_sem] gcell
def RN (M : List (List UInt8)) (q : Nat) : Int := if q + 1 < M.length then refW (M.getD (q + 1) []) else 0
theorem RowV.nums {w : World} {b n : Nat} {V : Nat → Int} (H : RowV w b n V) : NumsAt w b ((List.range n).map V) := fun k hk => by
  have hk' : k < n := by simpa using hk
  rw [H.at hk', List.getD_eq_getElem?_getD, List.getElem?_map, List.getElem?_range hk']
  rfl
theorem row_next {M : List (List UInt8)} {x y : Int} {k : Nat} (h : RN M k = y) (q : Nat) : (if q = k then y else if q = k then x else if q < k then RN M q else 0) = if q < k + 1 then RN M q else 0 := by
  by_cases e : q = k
  · subst e; rw [if_pos rfl, if_pos (by omega), h]
  · rw [if_neg e, if_neg e]
    by_cases e2 : q < k
    · rw [if_pos e2, if_pos (by omega)]
    · rw [if_neg e2, if_neg (by omega)]
theorem row_next0 {M : List (List UInt8)} {x y : Int} {k : Nat} (h : RN M k = 0) (q : Nat) : (if q = k then 0 else if q = k then y else if q = k then x else if q < k then RN M q else 0) = if q < k + 1 then RN M q else 0 := by
  by_cases e : q = k
  · subst e; rw [if_pos rfl, if_pos (by omega), h]
  · rw [if_neg e, if_neg e, if_neg e]
    by_cases e2 : q < k
    · rw [if_pos e2, if_pos (by omega)]
    · rw [if_neg e2, if_neg (by omega)]
set_option maxRecDepth 100000 in
set_option maxHeartbeats 4000000 in
theorem nums60 (s : ByteArray) (hs : s.size ≤ 900000) (n : Nat) (hn : n ≤ 15) (w : World) :
    Calls Tryz.prog 60 #[.string s, .int .i64 n] w fun e w' => ∃ b, e = .returned (.slice (some ⟨b, 0, none⟩) n n) ∧ w.heap.size ≤ b ∧ NumsAt w' b (refNums s.data.toList n) ∧ Below w.heap.size w w' := by
  have KC := Lib.hid (cut38 s hs 32)
  have hM := spl_count 32 s.data.toList
  have HLn := Lib.hid (spl_len 32 s.data.toList)
  have hsl : s.data.toList.length = s.size := Array.length_toList
  have eR : refNums s.data.toList n = (List.range n).map (RN (spl 32 s.data.toList)) := rfl
  rw [eR]
  rw [hsl] at hM HLn
  clear eR hsl
  generalize spl 32 s.data.toList = M at *
  have hmk := fun wx => make24 n hn wx
  go_enter Tryz.func60, Tryz.ntmps60
  go_wp2_with (go_at_call 38; refine (KC.out w).mono ?_; rintro e w1 ⟨v, rfl, ho1, hb1⟩; obtain ⟨a1, c1, b1, rfl, hc1, hp1, hs1⟩ := ho1.slice; have HS1 := Lib.hid hs1; have HB1 := Lib.hid hb1; have HP1 := Lib.hid hp1; clear ho1 hs1 hb1 hp1)
  clear hmk
  have hz1 : RowV (w1.alloc (.cells (ivs (List.replicate n 0)) 3)) w1.heap.size n (fun _ => 0) := by
    have := (MapKept.heap_alloc w1 (.cells (ivs (List.replicate n 0)) 3)).1
    unfold RowV
    rw [this]
    congr 3
    rw [List.map_const', List.length_range]
  have hb2 : Below w1.heap.size w1 (w1.alloc (.cells (ivs (List.replicate n 0)) 3)) := (Below.refl _ _).alloc (Nat.le_refl _) _
  generalize w1.alloc (.cells (ivs (List.replicate n 0)) 3) = w2 at *
  have HS2 := Lib.hid (HS1.out.mono hb2)
  have HB2 := Lib.hid (bthen' HB1.out hb2)
  have hbw := HB1.out.size
  have HZ := Lib.hid hz1
  clear hz1 hb2 HS1 HB1
  generalize w1.heap.size = b at *
  go_loopw [7] (fun ii wr => ∃ iq : Nat, iq ≤ n ∧ ii = .int .i64 iq ∧ RowV wr b n (fun q => if q < iq then RN M q else 0) ∧ Below b w2 wr) (fun ii _ => n - (intOf ii).toNat)
  case atStart => exact ⟨0, Nat.zero_le _, rfl, HZ.out.congr (fun q _ => by rw [if_neg (Nat.not_lt_zero q)]), Below.refl _ _⟩
  case round =>
    obtain ⟨iq, hi, rfl, hrow, hbr⟩ := hrel
    have HV0 := Lib.hid hrow
    have HR := Lib.hid hbr
    clear hrow hbr
    by_cases hlt : iq < n
    · by_cases h2 : iq + 1 < M.length
      · obtain ⟨e1, hbb1, hbb2⟩ := HP1.out (by omega)
        subst e1
        have hc : wr.cell? ⟨b1, iq + 1, none⟩ = some (.string (bs (M.getD (iq + 1) []))) := by
          have h1 := HS2.out (iq + 1) h2
          rw [Nat.zero_add] at h1
          exact (HR.out.cell (p := ⟨b1, iq + 1, none⟩) hbb2).trans h1
        have HRN := Lib.hid (show RN M iq = refW (M.getD (iq + 1) []) from if_pos h2)
        have hFl : (M.getD (iq + 1) []).length ≤ s.size := HLn.out _ (by
          rw [List.getD_eq_getElem?_getD, List.getElem?_eq_getElem h2, Option.getD_some]
          exact List.getElem_mem _)
        generalize M.getD (iq + 1) [] = F at *
        have hfs : (bs F).size = F.length := bs_size F
        have HI := Lib.hid (fun (k : Nat) (hk : k < F.length) wx => run_index_str (s := bs F) (k := k) (c := F.getD k 0) (by rw [bs_toList, List.getD_eq_getElem?_getD, List.getElem?_eq_getElem hk]; rfl) k rfl wx)
        go_wp2
        go_loopw [9, 10] (fun sv jv wx => ∃ (j : Nat) (sg x : Int), j ≤ F.length ∧ j ≤ 15 ∧ sv = .int .i64 sg ∧ jv = .int .i64 j ∧ RefSt F j sg x ∧ RowV wx b n (fun q => if q = iq then x else if q < iq then RN M q else 0) ∧ Below b w2 wx) (fun _ jv _ => 15 - (intOf jv).toNat)
        case atStart => exact ⟨0, 1, 0, Nat.zero_le _, by omega, rfl, rfl, ref_start F, HV0.out.congr (fun q _ => by by_cases e : q = iq <;> simp [e]), HR.out⟩
        case round =>
          obtain ⟨j, sg, x, hjl, hj15, rfl, rfl, hst, hrow, hbx⟩ := hrel
          have HS := Lib.hid hst
          have HV := Lib.hid hrow
          have HX := Lib.hid hbx
          have hx0 := hst.lo
          have hx1 := hst.big hj15
          have hsg := hst.s
          have hci := hrow.at hlt
          rw [if_pos rfl] at hci
          have hfi := hrow.fr iq
          clear hst hrow hbx
          by_cases hcont : j < F.length ∧ j < 15
          · obtain ⟨hj1, hj2⟩ := hcont
            have hix := HI.out j hj1
            have HSn := Lib.hid (fun (h0 : j = 0) (h : (F.getD 0 0).toNat = 45) => (h0 ▸ HS.out : RefSt F 0 sg x).neg (by omega) h)
            have HSd := Lib.hid (HS.out.digit hj1 hj2)
            have HSs := Lib.hid (HS.out.skip hj1 hj2)
            have hcb := (F.getD j 0).toNat_lt
            by_cases hA : j = 0 ∧ (F.getD j 0).toNat = 45
            · obtain ⟨h0, hA2⟩ := hA
              subst h0
              have HS2n := Lib.hid (HSn.out rfl hA2)
              rw [hA2] at hix
              have hix : ∀ wx, (Instr.index 9 (.string (bs F)) (.int .i64 0)).run Tryz.prog wx = .ok (.int .u8 45) wx := hix
              clear HSd HSs HSn hcb hA2
              go_wp2
              go_roundw
              case rel => exact ⟨1, -1, x, by omega, by omega, rfl, by go_num, HS2n.out, HV.out, HX.out⟩
              case measure => simp [intOf]
            · clear HSn
              by_cases hB : 48 ≤ (F.getD j 0).toNat ∧ (F.getD j 0).toNat ≤ 57
              · have HS2 := Lib.hid (HSd.out hA hB.1 hB.2)
                obtain ⟨hB1, hB2⟩ := hB
                clear HSd HSs
                generalize (F.getD j 0).toNat = cn at *
                rcases Nat.eq_zero_or_pos j with hj0 | hj0
                · subst hj0
                  have hcn : cn ≠ 45 := fun h => hA ⟨rfl, h⟩
                  have hix : ∀ wx, (Instr.index 9 (.string (bs F)) (.int .i64 0)).run Tryz.prog wx = .ok (.int .u8 cn) wx := hix
                  clear hA
                  have w1 : IntKind.i64.wrap (x * 10) = x * 10 := by rw [IntKind.wrap_i64]; omega
                  have w2 : IntKind.u8.wrap ((cn : Int) - 48) = (cn : Int) - 48 := by rw [IntKind.wrap_u8]; omega
                  have w3 : IntKind.i64.wrap ((cn : Int) - 48) = (cn : Int) - 48 := by rw [IntKind.wrap_i64]; omega
                  have w4 : IntKind.i64.wrap (x * 10 + ((cn : Int) - 48)) = x * 10 + ((cn : Int) - 48) := by rw [IntKind.wrap_i64]; omega
                  go_wp2
                  refine wp_region_peelF 0 14 (fun i v u => match i with
                    | 0 => v = .slice (some ⟨b, 0, none⟩) n n
                    | 1 => v = .int .i64 iq
                    | 2 => v = .slice (some ⟨b, 0, none⟩) n n
                    | 3 => v = .int .i64 iq
                    | 4 => v = .pointer (some ⟨b, iq, none⟩)
                    | 5 => v = .int .i64 x
                    | 6 => v = .int .i64 (x * 10)
                    | 7 => v = .string (bs F)
                    | 8 => v = .int .i64 0
                    | 9 => v = .int .u8 cn
                    | 10 => v = .int .u8 ((cn : Int) - 48)
                    | 11 => v = .int .i64 ((cn : Int) - 48)
                    | 12 => v = .int .i64 (x * 10 + ((cn : Int) - 48))
                    | 13 => v = .pointer (some ⟨b, iq, none⟩)
                    | _ => True) (by kernel_rfl) (by kernel_rfl) rfl (fun _ _ d _ _ h => by cases d <;> exact h) ?_ ?_ ?_
                  · intro i v w1 w2 hb h
                    match i with
                    | 0 => exact h
                    | 1 => exact h
                    | 2 => exact h
                    | 3 => exact h
                    | 4 => exact h
                    | 5 => exact h
                    | 6 => exact h
                    | 7 => exact h
                    | 8 => exact h
                    | 9 => exact h
                    | 10 => exact h
                    | 11 => exact h
                    | 12 => exact h
                    | 13 => exact h
                    | k + 14 => exact h
                  · intro i o hp hi ho vf u1 hb hd
                    have hi' : i = 0 ∨ i = 1 ∨ i = 2 ∨ i = 3 ∨ i = 4 ∨ i = 5 ∨ i = 6 ∨ i = 7 ∨ i = 8 ∨ i = 9 ∨ i = 10 ∨ i = 11 ∨ i = 12 ∨ i = 13 := by omega
                    rcases hi' with rfl | rfl | rfl | rfl | rfl | rfl | rfl | rfl | rfl | rfl | rfl | rfl | rfl | rfl
                    · obtain rfl := Option.some.inj ho
                      clear hd
                      simp only [fillA, List.take_succ_cons, List.take_zero, List.drop_succ_cons, List.drop_zero, Nat.zero_add, Nat.reduceAdd]
                      go_wp2
                      exact ⟨rfl, Below.refl _ _, rfl⟩
                    · obtain rfl := Option.some.inj ho
                      clear hd
                      simp only [fillA, List.take_succ_cons, List.take_zero, List.drop_succ_cons, List.drop_zero, Nat.zero_add, Nat.reduceAdd]
                      go_wp2
                      exact ⟨rfl, Below.refl _ _, rfl⟩
                    · obtain rfl := Option.some.inj ho
                      clear hd
                      simp only [fillA, List.take_succ_cons, List.take_zero, List.drop_succ_cons, List.drop_zero, Nat.zero_add, Nat.reduceAdd]
                      go_wp2
                      exact ⟨rfl, Below.refl _ _, rfl⟩
                    · obtain rfl := Option.some.inj ho
                      clear hd
                      simp only [fillA, List.take_succ_cons, List.take_zero, List.drop_succ_cons, List.drop_zero, Nat.zero_add, Nat.reduceAdd]
                      go_wp2
                      exact ⟨rfl, Below.refl _ _, rfl⟩
                    · obtain rfl := Option.some.inj ho
                      have f2 := hd 2 (by omega) (by omega) (by kernel_rfl)
                      have f3 := hd 3 (by omega) (by omega) (by kernel_rfl)
                      clear hd
                      simp only [fillA, List.take_succ_cons, List.take_zero, List.drop_succ_cons, List.drop_zero, Nat.zero_add, Nat.reduceAdd]
                      go_wp2
                      exact ⟨rfl, Below.refl _ _, rfl⟩
                    · obtain rfl := Option.some.inj ho
                      have f4 := hd 4 (by omega) (by omega) (by kernel_rfl)
                      clear hd
                      have hcc := (hb.cell (World.block_lt_of_cell? _ _ hci)).trans hci
                      simp only [fillA, List.take_succ_cons, List.take_zero, List.drop_succ_cons, List.drop_zero, Nat.zero_add, Nat.reduceAdd]
                      go_wp2
                      exact ⟨rfl, Below.refl _ _, rfl⟩
                    · obtain rfl := Option.some.inj ho
                      have f5 := hd 5 (by omega) (by omega) (by kernel_rfl)
                      clear hd
                      simp only [fillA, List.take_succ_cons, List.take_zero, List.drop_succ_cons, List.drop_zero, Nat.zero_add, Nat.reduceAdd]
                      go_wp2
                      exact ⟨rfl, Below.refl _ _, rfl⟩
                    · obtain rfl := Option.some.inj ho
                      clear hd
                      simp only [fillA, List.take_succ_cons, List.take_zero, List.drop_succ_cons, List.drop_zero, Nat.zero_add, Nat.reduceAdd]
                      go_wp2
                      exact ⟨rfl, Below.refl _ _, rfl⟩
                    · obtain rfl := Option.some.inj ho
                      clear hd
                      simp only [fillA, List.take_succ_cons, List.take_zero, List.drop_succ_cons, List.drop_zero, Nat.zero_add, Nat.reduceAdd]
                      go_wp2
                      exact ⟨rfl, Below.refl _ _, rfl⟩
                    · obtain rfl := Option.some.inj ho
                      have f7 := hd 7 (by omega) (by omega) (by kernel_rfl)
                      have f8 := hd 8 (by omega) (by omega) (by kernel_rfl)
                      clear hd
                      simp only [fillA, List.take_succ_cons, List.take_zero, List.drop_succ_cons, List.drop_zero, Nat.zero_add, Nat.reduceAdd]
                      go_wp2
                      exact ⟨rfl, Below.refl _ _, rfl⟩
                    · obtain rfl := Option.some.inj ho
                      have f9 := hd 9 (by omega) (by omega) (by kernel_rfl)
                      clear hd
                      simp only [fillA, List.take_succ_cons, List.take_zero, List.drop_succ_cons, List.drop_zero, Nat.zero_add, Nat.reduceAdd]
                      go_wp2
                      exact ⟨rfl, Below.refl _ _, rfl⟩
                    · obtain rfl := Option.some.inj ho
                      have f10 := hd 10 (by omega) (by omega) (by kernel_rfl)
                      clear hd
                      simp only [fillA, List.take_succ_cons, List.take_zero, List.drop_succ_cons, List.drop_zero, Nat.zero_add, Nat.reduceAdd]
                      go_wp2
                      exact ⟨rfl, Below.refl _ _, rfl⟩
                    · obtain rfl := Option.some.inj ho
                      have f6 := hd 6 (by omega) (by omega) (by kernel_rfl)
                      have f11 := hd 11 (by omega) (by omega) (by kernel_rfl)
                      clear hd
                      simp only [fillA, List.take_succ_cons, List.take_zero, List.drop_succ_cons, List.drop_zero, Nat.zero_add, Nat.reduceAdd]
                      go_wp2
                      exact ⟨rfl, Below.refl _ _, rfl⟩
                    · obtain rfl := Option.some.inj ho
                      have f0 := hd 0 (by omega) (by omega) (by kernel_rfl)
                      have f1 := hd 1 (by omega) (by omega) (by kernel_rfl)
                      clear hd
                      simp only [fillA, List.take_succ_cons, List.take_zero, List.drop_succ_cons, List.drop_zero, Nat.zero_add, Nat.reduceAdd]
                      go_wp2
                      exact ⟨rfl, Below.refl _ _, rfl⟩
                  · intro vf u1 hb hd
                    have f12 := hd 12 (by omega) (by omega)
                    have f13 := hd 13 (by omega) (by omega)
                    clear hd
                    have HRu := Lib.hid (show RowV u1 b n _ from (hb.block b (heap_lt HV.out)).trans HV.out)
                    have HBu := Lib.hid (HX.out.trans (hb.mono (Nat.le_of_lt (heap_lt HV.out))))
                    have hcu := HRu.out.at hlt
                    have hfu := HRu.out.fr iq
                    simp only [fillA, List.take_succ_cons, List.take_zero, List.drop_succ_cons, List.drop_zero, Nat.zero_add, Nat.reduceAdd, Act.put, List.setIfInBounds_toArray, List.set_cons_succ, List.set_cons_zero]
                    generalize vf 12 = v12 at *
                    subst f12
                    generalize vf 13 = v13 at *
                    subst f13
                    go_wp2
                    go_roundw
                    case rel => exact ⟨0 + 1, sg, _, by omega, by omega, rfl, by go_num, HS2.out, (HRu.out.set iq _).congr (fun q _ => by by_cases e : q = iq <;> simp [e]), HBu.out.setCell (Nat.le_refl _) _⟩
                    case measure => simp [intOf] <;> omega
                · clear hA
                  have w1 : IntKind.i64.wrap (x * 10) = x * 10 := by rw [IntKind.wrap_i64]; omega
                  have w2 : IntKind.u8.wrap ((cn : Int) - 48) = (cn : Int) - 48 := by rw [IntKind.wrap_u8]; omega
                  have w3 : IntKind.i64.wrap ((cn : Int) - 48) = (cn : Int) - 48 := by rw [IntKind.wrap_i64]; omega
                  have w4 : IntKind.i64.wrap (x * 10 + ((cn : Int) - 48)) = x * 10 + ((cn : Int) - 48) := by rw [IntKind.wrap_i64]; omega
                  go_wp2
                  refine wp_region_peelF 0 14 (fun i v u => match i with
                    | 0 => v = .slice (some ⟨b, 0, none⟩) n n
                    | 1 => v = .int .i64 iq
                    | 2 => v = .slice (some ⟨b, 0, none⟩) n n
                    | 3 => v = .int .i64 iq
                    | 4 => v = .pointer (some ⟨b, iq, none⟩)
                    | 5 => v = .int .i64 x
                    | 6 => v = .int .i64 (x * 10)
                    | 7 => v = .string (bs F)
                    | 8 => v = .int .i64 j
                    | 9 => v = .int .u8 cn
                    | 10 => v = .int .u8 ((cn : Int) - 48)
                    | 11 => v = .int .i64 ((cn : Int) - 48)
                    | 12 => v = .int .i64 (x * 10 + ((cn : Int) - 48))
                    | 13 => v = .pointer (some ⟨b, iq, none⟩)
                    | _ => True) (by kernel_rfl) (by kernel_rfl) rfl (fun _ _ d _ _ h => by cases d <;> exact h) ?_ ?_ ?_
                  · intro i v w1 w2 hb h
                    match i with
                    | 0 => exact h
                    | 1 => exact h
                    | 2 => exact h
                    | 3 => exact h
                    | 4 => exact h
                    | 5 => exact h
                    | 6 => exact h
                    | 7 => exact h
                    | 8 => exact h
                    | 9 => exact h
                    | 10 => exact h
                    | 11 => exact h
                    | 12 => exact h
                    | 13 => exact h
                    | k + 14 => exact h
                  · intro i o hp hi ho vf u1 hb hd
                    have hi' : i = 0 ∨ i = 1 ∨ i = 2 ∨ i = 3 ∨ i = 4 ∨ i = 5 ∨ i = 6 ∨ i = 7 ∨ i = 8 ∨ i = 9 ∨ i = 10 ∨ i = 11 ∨ i = 12 ∨ i = 13 := by omega
                    rcases hi' with rfl | rfl | rfl | rfl | rfl | rfl | rfl | rfl | rfl | rfl | rfl | rfl | rfl | rfl
                    · obtain rfl := Option.some.inj ho
                      clear hd
                      simp only [fillA, List.take_succ_cons, List.take_zero, List.drop_succ_cons, List.drop_zero, Nat.zero_add, Nat.reduceAdd]
                      go_wp2
                      exact ⟨rfl, Below.refl _ _, rfl⟩
                    · obtain rfl := Option.some.inj ho
                      clear hd
                      simp only [fillA, List.take_succ_cons, List.take_zero, List.drop_succ_cons, List.drop_zero, Nat.zero_add, Nat.reduceAdd]
                      go_wp2
                      exact ⟨rfl, Below.refl _ _, rfl⟩
                    · obtain rfl := Option.some.inj ho
                      clear hd
                      simp only [fillA, List.take_succ_cons, List.take_zero, List.drop_succ_cons, List.drop_zero, Nat.zero_add, Nat.reduceAdd]
                      go_wp2
                      exact ⟨rfl, Below.refl _ _, rfl⟩
                    · obtain rfl := Option.some.inj ho
                      clear hd
                      simp only [fillA, List.take_succ_cons, List.take_zero, List.drop_succ_cons, List.drop_zero, Nat.zero_add, Nat.reduceAdd]
                      go_wp2
                      exact ⟨rfl, Below.refl _ _, rfl⟩
                    · obtain rfl := Option.some.inj ho
                      have f2 := hd 2 (by omega) (by omega) (by kernel_rfl)
                      have f3 := hd 3 (by omega) (by omega) (by kernel_rfl)
                      clear hd
                      simp only [fillA, List.take_succ_cons, List.take_zero, List.drop_succ_cons, List.drop_zero, Nat.zero_add, Nat.reduceAdd]
                      go_wp2
                      exact ⟨rfl, Below.refl _ _, rfl⟩
                    · obtain rfl := Option.some.inj ho
                      have f4 := hd 4 (by omega) (by omega) (by kernel_rfl)
                      clear hd
                      have hcc := (hb.cell (World.block_lt_of_cell? _ _ hci)).trans hci
                      simp only [fillA, List.take_succ_cons, List.take_zero, List.drop_succ_cons, List.drop_zero, Nat.zero_add, Nat.reduceAdd]
                      go_wp2
                      exact ⟨rfl, Below.refl _ _, rfl⟩
                    · obtain rfl := Option.some.inj ho
                      have f5 := hd 5 (by omega) (by omega) (by kernel_rfl)
                      clear hd
                      simp only [fillA, List.take_succ_cons, List.take_zero, List.drop_succ_cons, List.drop_zero, Nat.zero_add, Nat.reduceAdd]
                      go_wp2
                      exact ⟨rfl, Below.refl _ _, rfl⟩
                    · obtain rfl := Option.some.inj ho
                      clear hd
                      simp only [fillA, List.take_succ_cons, List.take_zero, List.drop_succ_cons, List.drop_zero, Nat.zero_add, Nat.reduceAdd]
                      go_wp2
                      exact ⟨rfl, Below.refl _ _, rfl⟩
                    · obtain rfl := Option.some.inj ho
                      clear hd
                      simp only [fillA, List.take_succ_cons, List.take_zero, List.drop_succ_cons, List.drop_zero, Nat.zero_add, Nat.reduceAdd]
                      go_wp2
                      exact ⟨rfl, Below.refl _ _, rfl⟩
                    · obtain rfl := Option.some.inj ho
                      have f7 := hd 7 (by omega) (by omega) (by kernel_rfl)
                      have f8 := hd 8 (by omega) (by omega) (by kernel_rfl)
                      clear hd
                      simp only [fillA, List.take_succ_cons, List.take_zero, List.drop_succ_cons, List.drop_zero, Nat.zero_add, Nat.reduceAdd]
                      go_wp2
                      exact ⟨rfl, Below.refl _ _, rfl⟩
                    · obtain rfl := Option.some.inj ho
                      have f9 := hd 9 (by omega) (by omega) (by kernel_rfl)
                      clear hd
                      simp only [fillA, List.take_succ_cons, List.take_zero, List.drop_succ_cons, List.drop_zero, Nat.zero_add, Nat.reduceAdd]
                      go_wp2
                      exact ⟨rfl, Below.refl _ _, rfl⟩
                    · obtain rfl := Option.some.inj ho
                      have f10 := hd 10 (by omega) (by omega) (by kernel_rfl)
                      clear hd
                      simp only [fillA, List.take_succ_cons, List.take_zero, List.drop_succ_cons, List.drop_zero, Nat.zero_add, Nat.reduceAdd]
                      go_wp2
                      exact ⟨rfl, Below.refl _ _, rfl⟩
                    · obtain rfl := Option.some.inj ho
                      have f6 := hd 6 (by omega) (by omega) (by kernel_rfl)
                      have f11 := hd 11 (by omega) (by omega) (by kernel_rfl)
                      clear hd
                      simp only [fillA, List.take_succ_cons, List.take_zero, List.drop_succ_cons, List.drop_zero, Nat.zero_add, Nat.reduceAdd]
                      go_wp2
                      exact ⟨rfl, Below.refl _ _, rfl⟩
                    · obtain rfl := Option.some.inj ho
                      have f0 := hd 0 (by omega) (by omega) (by kernel_rfl)
                      have f1 := hd 1 (by omega) (by omega) (by kernel_rfl)
                      clear hd
                      simp only [fillA, List.take_succ_cons, List.take_zero, List.drop_succ_cons, List.drop_zero, Nat.zero_add, Nat.reduceAdd]
                      go_wp2
                      exact ⟨rfl, Below.refl _ _, rfl⟩
                  · intro vf u1 hb hd
                    have f12 := hd 12 (by omega) (by omega)
                    have f13 := hd 13 (by omega) (by omega)
                    clear hd
                    have HRu := Lib.hid (show RowV u1 b n _ from (hb.block b (heap_lt HV.out)).trans HV.out)
                    have HBu := Lib.hid (HX.out.trans (hb.mono (Nat.le_of_lt (heap_lt HV.out))))
                    have hcu := HRu.out.at hlt
                    have hfu := HRu.out.fr iq
                    simp only [fillA, List.take_succ_cons, List.take_zero, List.drop_succ_cons, List.drop_zero, Nat.zero_add, Nat.reduceAdd, Act.put, List.setIfInBounds_toArray, List.set_cons_succ, List.set_cons_zero]
                    generalize vf 12 = v12 at *
                    subst f12
                    generalize vf 13 = v13 at *
                    subst f13
                    go_wp2
                    go_roundw
                    case rel => exact ⟨j + 1, sg, _, by omega, by omega, rfl, by go_num, HS2.out, (HRu.out.set iq _).congr (fun q _ => by by_cases e : q = iq <;> simp [e]), HBu.out.setCell (Nat.le_refl _) _⟩
                    case measure => simp [intOf] <;> omega
              · have HS2 := Lib.hid (HSs.out hA hB)
                clear HSd HSs
                generalize (F.getD j 0).toNat = cn at *
                have hBB : cn < 48 ∨ 57 < cn := by omega
                clear hB
                rcases hBB with hBB | hBB
                · skip
                  rcases Nat.eq_zero_or_pos j with hj0 | hj0
                  · subst hj0
                    have hcn : cn ≠ 45 := fun h => hA ⟨rfl, h⟩
                    have hix : ∀ wx, (Instr.index 9 (.string (bs F)) (.int .i64 0)).run Tryz.prog wx = .ok (.int .u8 cn) wx := hix
                    clear hA
                    go_wp2
                    go_roundw
                    case rel => exact ⟨0 + 1, sg, x, by omega, by omega, rfl, by go_num, HS2.out, HV.out, HX.out⟩
                    case measure => simp [intOf] <;> omega
                  · clear hA
                    go_wp2
                    go_roundw
                    case rel => exact ⟨j + 1, sg, x, by omega, by omega, rfl, by go_num, HS2.out, HV.out, HX.out⟩
                    case measure => simp [intOf] <;> omega
                · skip
                  rcases Nat.eq_zero_or_pos j with hj0 | hj0
                  · subst hj0
                    have hcn : cn ≠ 45 := fun h => hA ⟨rfl, h⟩
                    have hix : ∀ wx, (Instr.index 9 (.string (bs F)) (.int .i64 0)).run Tryz.prog wx = .ok (.int .u8 cn) wx := hix
                    clear hA
                    go_wp2
                    go_roundw
                    case rel => exact ⟨0 + 1, sg, x, by omega, by omega, rfl, by go_num, HS2.out, HV.out, HX.out⟩
                    case measure => simp [intOf] <;> omega
                  · clear hA
                    go_wp2
                    go_roundw
                    case rel => exact ⟨j + 1, sg, x, by omega, by omega, rfl, by go_num, HS2.out, HV.out, HX.out⟩
                    case measure => simp [intOf] <;> omega
          · have hfin := HS.out.fin hjl hj15 hcont
            obtain ⟨y, hy⟩ : ∃ y, y = sg * x := ⟨_, rfl⟩
            have w5 : IntKind.i64.wrap (sg * x) = y := by
              rw [hy]
              rcases hsg with rfl | rfl <;> (rw [IntKind.wrap_i64]; omega)
            rw [← hy] at hfin
            clear hy hsg HI
            by_cases hjF : j < F.length
            · have hj5 : ¬ j < 15 := fun h => hcont ⟨hjF, h⟩
              clear hcont
              by_cases hsm : -1099511627776 ≤ y ∧ y ≤ 1099511627776
              · have hd : decide (-1099511627776 ≤ y ∧ y ≤ 1099511627776) = true := decide_eq_true hsm
                rw [if_pos hsm] at hfin
                have HF := Lib.hid (HRN.out.trans hfin)
                clear hsm hfin
                have K := Lib.hid (fun wx => hd ▸ small91 y wx)
                go_wp2_with (go_at_call 91; refine (K.out _).mono ?_; rintro e w3 ⟨rfl, rfl⟩)
                go_roundw
                case rel => exact ⟨iq + 1, by omega, by go_num, (HV.out.set iq y).congr (fun q _ => row_next HF.out q), HX.out.setCell (Nat.le_refl _) _⟩
                case measure => simp [intOf] <;> omega
              · have hd : decide (-1099511627776 ≤ y ∧ y ≤ 1099511627776) = false := decide_eq_false hsm
                rw [if_neg hsm] at hfin
                have HF := Lib.hid (HRN.out.trans hfin)
                clear hsm hfin
                have K := Lib.hid (fun wx => hd ▸ small91 y wx)
                have hfi2 := (HV.out.set iq y).fr iq
                have hci2 := (HV.out.set iq y).at hlt
                go_wp2_with (go_at_call 91; refine (K.out _).mono ?_; rintro e w3 ⟨rfl, rfl⟩)
                go_roundw
                case rel => exact ⟨iq + 1, by omega, by go_num, ((HV.out.set iq y).set iq 0).congr (fun q _ => row_next0 HF.out q), (HX.out.setCell (Nat.le_refl _) _).setCell (Nat.le_refl _) _⟩
                case measure => simp [intOf] <;> omega
            · clear hcont
              by_cases hsm : -1099511627776 ≤ y ∧ y ≤ 1099511627776
              · have hd : decide (-1099511627776 ≤ y ∧ y ≤ 1099511627776) = true := decide_eq_true hsm
                rw [if_pos hsm] at hfin
                have HF := Lib.hid (HRN.out.trans hfin)
                clear hsm hfin
                have K := Lib.hid (fun wx => hd ▸ small91 y wx)
                go_wp2_with (go_at_call 91; refine (K.out _).mono ?_; rintro e w3 ⟨rfl, rfl⟩)
                go_roundw
                case rel => exact ⟨iq + 1, by omega, by go_num, (HV.out.set iq y).congr (fun q _ => row_next HF.out q), HX.out.setCell (Nat.le_refl _) _⟩
                case measure => simp [intOf] <;> omega
              · have hd : decide (-1099511627776 ≤ y ∧ y ≤ 1099511627776) = false := decide_eq_false hsm
                rw [if_neg hsm] at hfin
                have HF := Lib.hid (HRN.out.trans hfin)
                clear hsm hfin
                have K := Lib.hid (fun wx => hd ▸ small91 y wx)
                have hfi2 := (HV.out.set iq y).fr iq
                have hci2 := (HV.out.set iq y).at hlt
                go_wp2_with (go_at_call 91; refine (K.out _).mono ?_; rintro e w3 ⟨rfl, rfl⟩)
                go_roundw
                case rel => exact ⟨iq + 1, by omega, by go_num, ((HV.out.set iq y).set iq 0).congr (fun q _ => row_next0 HF.out q), (HX.out.setCell (Nat.le_refl _) _).setCell (Nat.le_refl _) _⟩
                case measure => simp [intOf] <;> omega
      · have HF := Lib.hid (HV0.out.congr (U := RN M) (fun q _ => by
          by_cases e : q < iq
          · rw [if_pos e]
          · rw [if_neg e]; unfold RN; rw [if_neg (by omega)]))
        go_wp2
        go_ret
        exact ⟨b, rfl, hbw, HF.out.nums, HB2.out.trans (HR.out.mono hbw)⟩
    · obtain rfl : iq = n := by omega
      have HF := Lib.hid (HV0.out.congr (U := RN M) (fun q h => by rw [if_pos h]))
      go_wp2
      go_ret
      exact ⟨b, rfl, hbw, HF.out.nums, HB2.out.trans (HR.out.mono hbw)⟩
end Go.Proofs.YtgflfdnajchjaaaGreatDoor
