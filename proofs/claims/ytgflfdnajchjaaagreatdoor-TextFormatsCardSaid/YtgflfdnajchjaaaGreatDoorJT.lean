import Derived.Test.YtgflfdnajchjaaaGreatDoorJS
/- Layer 45: a text is read. -/
namespace Go.Proofs.YtgflfdnajchjaaaGreatDoor
set_option linter.unusedVariables false
set_option linter.unusedSimpArgs false
open Go.RowKit Go.Sort
open Tm
attribute [local go_sem] gcell bs_tl
set_option maxRecDepth 100000 in
set_option maxHeartbeats 4000000 in
theorem bfOf_head {k : Nat} (h : k < 4) : bfOf (k + 1) = bfOf k := by
  rw [bfOf_lo h]
  by_cases h3 : k + 1 < 4
  · exact bfOf_lo h3
  · rw [bfOf_hi (by omega)]; omega
theorem one_zero : (cfs cfZ).toArray.all (·.oneCell') = true := by kernel_rfl
theorem info37 : (Tryz.prog.info? 37).map (·.size) = some (cfs cfZ).toArray.size := by kernel_rfl
theorem one_c (c : Cf) : (cfs c).toArray.all (·.oneCell') = true := by
  refine all_oneCell_toArray fun v hv => ?_
  simp only [cfs, List.mem_cons, List.not_mem_nil, or_false] at hv
  rcases hv with rfl | rfl | rfl | rfl | rfl | rfl | rfl | rfl | rfl | rfl | rfl | rfl | rfl | rfl | rfl | rfl | rfl | rfl | rfl | rfl <;> rfl
theorem range_doc {w : World} {z : Nat} {c : Cf} {lv : Value} (h : w.heap[z]? = some (.cells (docCs c lv) 81 (0, 0))) : w.rangeAt z 0 (cfs c) := fun j v hv => by
  rw [Nat.zero_add]
  refine cell_box h ?_
  have hj : j < (cfs c).length := (List.getElem?_eq_some_iff.1 hv).1
  show (cfs c ++ [lv]).toArray[j]? = some v
  rw [List.getElem?_toArray, List.getElem?_append_left hj]
  exact hv
/-- The state of the last region: a document is handed back. -/
def F22 (z : Nat) (c : Cf) (lv : Value) (i : Nat) (v : Value) : Prop := match i with
  | 0 => v = .pointer (some ⟨z, 0, none⟩)
  | 1 => v = .agg (cfs c).toArray
  | 2 => v = .pointer (some ⟨z, 20, none⟩)
  | 3 => v = lv
  | _ => True
structure St22 (W : World) (S0 z : Nat) (c : Cf) (lv : Value) (L : Nat → Bool) (vs : Nat → Value) (u : World) : Prop where
  b : Below S0 W u
  k : ∀ i, i ≠ S0 → i < W.heap.size → u.heap[i]? = W.heap[i]?
  f : ∀ i, i < 5 → L i = true → F22 z c lv i (vs i)
  r0 : L 4 = false → u.heap[S0]? = some (.cells (cfs cfZ).toArray 37 (0, 0))
  r1 : L 4 = true → u.rangeAt S0 0 (cfs c)
section
variable {W : World} {S0 z : Nat} {c : Cf} {lv : Value} {L : Nat → Bool} {vs : Nat → Value} {u : World}
theorem St22.congr {L' : Nat → Bool} {vs' : Nat → Value} (h1 : ∀ i, 0 ≤ i → i < 5 → L i = L' i) (h2 : ∀ i, 0 ≤ i → i < 5 → L i = true → vs i = vs' i) (S : St22 W S0 z c lv L vs u) : St22 W S0 z c lv L' vs' u :=
  ⟨S.b, S.k, fun i hi hl => by
    have hl2 : L i = true := (h1 i (Nat.zero_le _) hi).trans hl
    rw [← h2 i (Nat.zero_le _) hi hl2]
    exact S.f i hi hl2, fun h => S.r0 ((h1 4 (by omega) (by omega)).trans h), fun h => S.r1 ((h1 4 (by omega) (by omega)).trans h)⟩
theorem St22.step (S : St22 W S0 z c lv L vs u) {i : Nat} (hi : i ≠ 4) {v : Value} (h : F22 z c lv i v) : St22 W S0 z c lv (fun j => L j || j == i) (fun j => if j = i then v else vs j) u := by
  have e4 : (4 == i) = false := beq_false_of_ne (Ne.symm hi)
  refine ⟨S.b, S.k, fun j hj hl => ?_, fun h4 => S.r0 ?_, fun h4 => S.r1 ?_⟩
  · by_cases e : j = i
    · subst e; rw [if_pos rfl]; exact h
    · rw [if_neg e]
      refine S.f j hj ?_
      have : (j == i) = false := beq_false_of_ne e
      have hl3 : (L j || j == i) = true := hl
      rwa [this, Bool.or_false] at hl3
  · have h5 : (L 4 || 4 == i) = false := h4
    rwa [e4, Bool.or_false] at h5
  · have h5 : (L 4 || 4 == i) = true := h4
    rwa [e4, Bool.or_false] at h5
theorem St22.store (S : St22 W S0 z c lv L vs u) (hl : L 4 = false) {v : Value} : St22 W S0 z c lv (fun j => L j || j == 4) (fun j => if j = 4 then v else vs j) (u.setCells S0 0 (cfs c)) := by
  refine ⟨S.b.trans (setCells_base (Nat.le_refl _) _ _ _), fun i hi hi2 => (heap_cells_other hi _ _).trans (S.k i hi hi2), fun j hj hl2 => ?_, fun h4 => ?_, fun h4 => box_range (S.r0 hl) (cfs c) rfl⟩
  · by_cases e : j = 4
    · subst e; exact trivial
    · rw [if_neg e]
      refine S.f j hj ?_
      have : (j == 4) = false := beq_false_of_ne e
      have hl3 : (L j || j == 4) = true := hl2
      rwa [this, Bool.or_false] at hl3
  · have h5 : (L 4 || true) = false := h4
    rw [Bool.or_true] at h5
    cases h5
end
theorem post_good {w W : World} {S0 z : Nat} {c : Cf} {X : Nat → Ch.Fd} {T : Nat → Te} {a : Option Addr} {n cc : Nat} {Q : Nat → Tr} {tmps : Array Value} {vs : Nat → Value} {u : World} (S : St22 W S0 z c (.slice a n cc) (fun _ => true) vs u)
    (hpv : tmps.getD 2 undef = .pointer (some ⟨S0, 0, none⟩)) (h3 : tmps.getD 3 undef = .slice a n cc) (h4 : tmps.getD 4 undef = .int .i64 0) (h5 : tmps.getD 5 undef = .int .i64 0) (D : DocW W z z c X T (.slice a n cc) n Q) (hz : S0 < z) (hb : Below S0 w W) (hS : w.heap.size = S0) :
    bodyPost Tryz.prog Tryz.f17 (ParsePost w (0, 0, some (docOf c X T n Q))) .ret ⟨tmps, []⟩ u := by
  have D2 : DocW u z z c X T (.slice a n cc) n Q := D.out fun i h1 h2 => S.k i (by omega) h2
  obtain ⟨a', cc', e, h6, h7, h8⟩ := D2.trR
  injection e with e1 e2 e3
  subst e1 e3
  refine bodyPost_ret (results_range4 (p := 2) (t1 := 3) (t2 := 4) (t3 := 5) Tryz.results17 tmps _ S0 (cfs c) _ hpv (S.r1 rfl) Tryz.underlying37 rfl (by kernel_rfl)) rfl ⟨c, X, T, a, n, cc, Q, ?_, D2.cfIn, h8, h7, rfl, D2.h15, D2.eq, ?_⟩
  · rw [h3, h4, h5]; rfl
  · show Below w.heap.size w _
    rw [hS]
    exact hb.trans S.b
theorem post_bad {w W : World} {S0 ln : Nat} {x er : Int} {tmps : Array Value} (hpv : tmps.getD 2 undef = .pointer (some ⟨S0, 0, none⟩)) (h3 : tmps.getD 3 undef = .slice none 0 0) (h4 : tmps.getD 4 undef = .int .i64 x) (hx : x = (ln : Int)) (h5 : tmps.getD 5 undef = .int .i64 er)
    (hr : W.heap[S0]? = some (.cells (cfs cfZ).toArray 37 (0, 0))) (hb : Below S0 w W) (hS : w.heap.size = S0) : bodyPost Tryz.prog Tryz.f17 (ParsePost w (ln, er, none)) .ret ⟨tmps, []⟩ (W.setCells S0 0 (cfs cfZ)) := by
  subst hx
  refine bodyPost_ret (results_range4 (p := 2) (t1 := 3) (t2 := 4) (t3 := 5) Tryz.results17 tmps _ S0 (cfs cfZ) _ hpv (box_range hr (cfs cfZ) rfl) Tryz.underlying37 rfl (by kernel_rfl)) rfl ⟨?_, ?_⟩
  · rw [h3, h4, h5]; rfl
  · show Below w.heap.size w _
    rw [hS]
    exact hb.trans (setCells_base (Nat.le_refl _) _ _ _)
set_option maxRecDepth 100000 in
set_option maxHeartbeats 4000000 in
theorem parse17 (s : ByteArray) (hs : s.size ≤ 900000) (w : World) (G : Gl w) :
    Calls Tryz.prog 17 #[.string s] w (ParsePost w (parseP chkD 66 s.data.toList)) := by
  have hN := spl_count 10 s.data.toList
  have HG := Lib.hid G
  have KS := Lib.hid (fun (W : World) (GW : Gl W) => split35 s (by omega) 10 W GW)
  have hp : (spl 10 s.data.toList).length ≠ 0 := fun h => spl_ne 10 _ (List.length_eq_zero_iff.1 h)
  clear G
  have HPB := Lib.hid (fun k => parseP_bad (s := s.data.toList) (k := k))
  have HPG := Lib.hid (fun st D => parseP_good (s := s.data.toList) (st := st) (D := D))
  generalize parseP chkD 66 s.data.toList = R at *
  have hsz : s.data.toList.length = s.size := Array.length_toList
  have HL := Lib.hid (spl_len 10 s.data.toList)
  rw [hsz] at HL hN
  clear hsz
  generalize spl 10 s.data.toList = L at *
  go_enter Tryz.func17, Tryz.ntmps17
  go_wp2_with (go_at_call 35; refine (KS.out _ (HG.out.alloc _)).mono ?_; rintro e w1 ⟨rfl, hs1, hb1, hz1⟩; refine Hid.out ?_)
  refine Lib.hid ?_
  have hr1 : w1.heap[w.heap.size]? = some (.cells (cfs cfZ).toArray 37 (0, 0)) := (hb1.block _ (by simp)).trans (MapKept.heap_alloc w _).1
  have hs2 : StrAt w1 (w.heap.size + 1) 0 L := by simpa using hs1
  have hz2 : w1.heap.size = w.heap.size + 2 := by simpa using hz1
  have HB1 := Lib.hid (bthen ((Below.refl _ _).alloc (Nat.le_refl _) _) hb1 (by simp))
  clear hs1 hb1 hz1
  have HR1 := Lib.hid hr1
  have HS1 := Lib.hid hs2
  have HZ1 := Lib.hid hz2
  clear hr1 hs2 hz2 KS
  go_wp2
  have hz81 : (w1.alloc (.cells #[.int .i64 0, .int .i64 0, .int .i64 0, .int .i64 0, .int .i64 0, .int .i64 0, .int .i64 0, .int .i64 0, .int .i64 0, .int .i64 0, .int .i64 0, .int .i64 0, .int .i64 0, .int .i64 0, .int .i64 0, .int .i64 0, .int .i64 0, .int .i64 0, .slice none 0 0, .slice none 0 0, .slice none 0 0] 81)).heap[w1.heap.size]? = some (.cells (docCs cfZ (.slice none 0 0)) 81 (0, 0)) := (MapKept.heap_alloc w1 _).1
  have hb2 : Below w1.heap.size w1 (w1.alloc (.cells #[.int .i64 0, .int .i64 0, .int .i64 0, .int .i64 0, .int .i64 0, .int .i64 0, .int .i64 0, .int .i64 0, .int .i64 0, .int .i64 0, .int .i64 0, .int .i64 0, .int .i64 0, .int .i64 0, .int .i64 0, .int .i64 0, .int .i64 0, .int .i64 0, .slice none 0 0, .slice none 0 0, .slice none 0 0] 81)) := (Below.refl _ _).alloc (Nat.le_refl _) _
  have hz2 : (w1.alloc (.cells #[.int .i64 0, .int .i64 0, .int .i64 0, .int .i64 0, .int .i64 0, .int .i64 0, .int .i64 0, .int .i64 0, .int .i64 0, .int .i64 0, .int .i64 0, .int .i64 0, .int .i64 0, .int .i64 0, .int .i64 0, .int .i64 0, .int .i64 0, .int .i64 0, .slice none 0 0, .slice none 0 0, .slice none 0 0] 81)).heap.size = w1.heap.size + 1 := by simp
  generalize w1.alloc (.cells #[.int .i64 0, .int .i64 0, .int .i64 0, .int .i64 0, .int .i64 0, .int .i64 0, .int .i64 0, .int .i64 0, .int .i64 0, .int .i64 0, .int .i64 0, .int .i64 0, .int .i64 0, .int .i64 0, .int .i64 0, .int .i64 0, .int .i64 0, .int .i64 0, .slice none 0 0, .slice none 0 0, .slice none 0 0] 81) = w2 at *
  have HR2 := Lib.hid ((hb2.block _ (heap_lt HR1.out)).trans HR1.out)
  have HS2 := Lib.hid (HS1.out.mono hb2)
  have HB2 := Lib.hid (bthen' HB1.out hb2)
  have HP2 := Lib.hid (pst_new L.dropLast hz81)
  have HZ2 := Lib.hid (show w1.heap.size = w.heap.size + 2 ∧ w2.heap.size = w.heap.size + 3 from ⟨HZ1.out, by have := HZ1.out; omega⟩)
  clear hz81 hb2 hz2 HR1 HS1 HB1 HZ1
  generalize w1.heap.size = z at *
  generalize hS : w.heap.size = S0 at *
  have HS0 := Lib.hid hS
  clear hS
  generalize hpv : Value.pointer (some ⟨S0, 0, none⟩) = pv
  have HPV := Lib.hid hpv.symm
  clear hpv
  go_loopw [9, 23] (fun bf i wr => ∃ (k st : Nat) (c : Cf) (X : Nat → Ch.Fd) (T : Nat → Te) (lv : Value) (n : Nat) (Q : Nat → Tr), k ≤ L.length - 1 ∧ i = .int .i64 k ∧ bf = .int .i64 (bfOf st) ∧ Below z w2 wr ∧ PSt wr z L.dropLast k st c X T lv n Q ∧ (k < 4 → st = k)) (fun _ i _ => (L.length - 1) - (intOf i).toNat)
  case atStart => exact ⟨0, 0, _, _, _, _, _, _, Nat.zero_le _, rfl, rfl, Below.refl _ _, HP2.out, fun _ => rfl⟩
  case round =>
    obtain ⟨k, st, c, X, T, lv, n, Q, hk, rfl, rfl, hbr, hps, h34⟩ := hrel
    have HBr := Lib.hid hbr
    have HPr := Lib.hid hps
    clear hbr hps
    by_cases hlt : k < L.length - 1
    · have hsz := heap_lt HPr.out.d.hz
      have HN := Lib.hid (show k < L.dropLast.length by rw [List.length_dropLast]; exact hlt)
      have eL : L.dropLast.getD k [] = L.getD k [] := by
        rw [List.getD_eq_getElem?_getD, List.getD_eq_getElem?_getD, List.getElem?_dropLast, if_pos hlt]
      have hmem : L.getD k [] ∈ L := by
        rw [List.getD_eq_getElem?_getD, List.getElem?_eq_getElem (by omega), Option.getD_some]
        exact List.getElem_mem _
      have hc : wr.cell? ⟨S0 + 1, k, none⟩ = some (.string (bs (L.getD k []))) := by
        have h1 := HS2.out k (by omega)
        rw [Nat.zero_add] at h1
        exact (HBr.out.cell (p := ⟨S0 + 1, k, none⟩) (show S0 + 1 < z by have := HZ2.out.1; omega)).trans h1
      have hrx : wr.heap[S0]? = some (.cells (cfs cfZ).toArray 37 (0, 0)) := (HBr.out.block S0 (by have := HZ2.out.1; omega)).trans HR2.out
      have hln : (bs (L.getD k [])).size ≤ 1000000 := by
        rw [bs_size]; have := HL.out _ hmem; omega
      have HGr := Lib.hid ((HG.out.on HB2.out (by have := HG.out.sz; have := HS0.out; omega)).on HBr.out (by have := HG.out.sz; have := HS0.out; have := HZ2.out.1; omega))
      have h16 : 8 ≤ z := by have := HG.out.sz; have := HS0.out; have := HZ2.out.1; omega
      have HNX := Lib.hid (fun (w' : World) (st' : Nat) (c' : Cf) (X' : Nat → Ch.Fd) (T' : Nat → Te) (lv' : Value) (n' : Nat) (Q' : Nat → Tr) h hd hc => HPr.out.next (w' := w') (st' := st') (c' := c') (X' := X') (T' := T') (lv' := lv') (n' := n') (Q' := Q') HN.out h hd hc)
      have HFA := Lib.hid (fun h => HPB.out _ (HPr.out.fail HN.out h))
      rw [eL] at HNX HFA
      have hkk : L.length - 1 < 1000000 := by omega
      by_cases hk4 : k < 4
      · obtain rfl := h34 hk4
        have KH := Lib.hid (fun (b : Nat) (W : World) (GW : Gl W) (D : DocW W z z c X T lv n Q) (HP : PtrAt W b (adr z (hks st))) hb hzb => head36 st hk4 (bs (L.getD st [])) hln b W GW z c X T lv n Q D h16 HP hb hzb st rfl HPr.out.cnt)
        rw [bs_toList] at KH
        clear hmem eL hln HN
        generalize stepP st (docOf c X T n Q) (L.getD st []) = o at *
        generalize L.getD st [] = ln at *
        cases o with
        | none =>
          have e := HFA.out rfl
          subst e
          go_wp2_with (go_at_call 28; refine (head28_any z st hk4 _).mono ?_; rintro e w3 ⟨rfl, hp3, hb3, hs3⟩; refine Hid.out ?_)
          refine Lib.hid ?_
          have K3 := Lib.hid (KH.out wr.heap.size w3 (HGr.out.mono hb3) (HPr.out.d.mono hb3) hp3 (by omega) hsz)
          have HB3 := Lib.hid (bthen HBr.out hb3 (Nat.le_of_lt hsz))
          have hr3 : w3.heap[S0]? = some (.cells (cfs cfZ).toArray 37 (0, 0)) := (hb3.block S0 (heap_lt hrx)).trans hrx
          clear hp3 hb3 hs3 KH
          go_wp2_with (go_at_call 36; refine K3.out.mono ?_; rintro e w4 ⟨rfl, hb4⟩; have HB4 := Lib.hid (HB3.out.trans hb4); have hr4 := (hb4.block S0 (by have := HZ2.out.1; omega)).trans hr3; clear hb4 K3; refine Hid.out ?_)
          refine Lib.hid ?_
          clear hr3 hrx
          go_wp2_with (first | (refine wpList_store_mid rfl 37 _ _ rfl S0 0 (cfs cfZ).toArray HPV.out rfl (box_there hr4) info37 one_zero ?_))
          exact post_bad HPV.out rfl rfl (by go_num) rfl hr4 (HB2.out.trans (HB4.out.mono (by have := HZ2.out.1; omega))) HS0.out
        | some p =>
          obtain ⟨st', D'⟩ := p
          clear HFA
          go_wp2_with (go_at_call 28; refine (head28_any z st hk4 _).mono ?_; rintro e w3 ⟨rfl, hp3, hb3, hs3⟩; refine Hid.out ?_)
          refine Lib.hid ?_
          have K3 := Lib.hid (KH.out wr.heap.size w3 (HGr.out.mono hb3) (HPr.out.d.mono hb3) hp3 (by omega) hsz)
          have HB3 := Lib.hid (bthen HBr.out hb3 (Nat.le_of_lt hsz))
          clear hp3 hb3 hs3 KH
          go_wp2_with (go_at_call 36; refine K3.out.mono ?_; rintro e w4 ⟨rfl, rfl, ⟨c', hd4, hD4, hc4⟩, hb4⟩; have HP4 := Lib.hid (HNX.out _ _ _ _ _ _ _ _ (by rw [hD4]) hd4 hc4); have HB4 := Lib.hid (HB3.out.trans hb4); clear hb4 K3 hD4 hd4 hc4)
          go_roundw
          case rel => exact ⟨st + 1, st + 1, c', X, T, lv, n, Q, by omega, by go_num, by rw [bfOf_head hk4], HB4.out, HP4.out, fun _ => rfl⟩
          case measure => simp [intOf]; omega
      · have h4s : 4 ≤ st := HPr.out.s2 (by omega)
        have KA := add37 (bs (L.getD k [])) hln wr HGr.out z z c X T lv n Q HPr.out.d h16 (by omega) k HPr.out.cnt (by omega) st h4s HPr.out.ok
        rw [bs_toList, ← bfOf_hi h4s] at KA
        have KA := Lib.hid KA
        clear hmem eL hln HN
        generalize stepP st (docOf c X T n Q) (L.getD k []) = o at *
        generalize L.getD k [] = ln at *
        cases o with
        | none =>
          have e := HFA.out rfl
          subst e
          clear HFA HPG HPB
          go_wp2_with (first | (go_at_call 37; refine KA.out.mono ?_; rintro e w4 ⟨⟨x, rfl⟩, hb4⟩; have HB4 := Lib.hid (HBr.out.trans hb4); have hr4 := (hb4.block S0 (by have := HZ2.out.1; omega)).trans hrx; clear hb4 KA hrx) | (refine wpList_store_mid rfl 37 _ _ rfl S0 0 (cfs cfZ).toArray HPV.out rfl (box_there hr4) info37 one_zero ?_))
          exact post_bad HPV.out rfl rfl (by go_num) rfl hr4 (HB2.out.trans (HB4.out.mono (by have := HZ2.out.1; omega))) HS0.out
        | some p =>
          obtain ⟨st', D'⟩ := p
          clear HFA
          go_wp2_with (go_at_call 37; refine KA.out.mono ?_; rintro e w4 ⟨rfl, ⟨c', X', T', lv', n', Q', hd4, hD4, hc4⟩, hb4⟩; have HP4 := Lib.hid (HNX.out _ _ _ _ _ _ _ _ (by rw [hD4]) hd4 hc4); have HB4 := Lib.hid (HBr.out.trans hb4); clear hb4 KA hD4 hd4 hc4)
          go_roundw
          case rel => exact ⟨k + 1, st', c', X', T', lv', n', Q', by omega, by go_num, by rw [bfOf_hi (HP4.out.s2 (by omega))], HB4.out, HP4.out, fun h => absurd h (by omega)⟩
          case measure => simp [intOf]; omega
    · obtain rfl : k = L.length - 1 := by omega
      have hD : runP 0 0 doc0 L.dropLast = .good st (docOf c X T n Q) := HPr.out.run.trans (by
        rw [← List.length_dropLast]; exact runP_end)
      have e := HPG.out _ _ hD
      clear HPG HPB hD h34
      have hc : wr.cell? ⟨S0 + 1, L.length - 1, none⟩ = some (.string (bs (L.getLastD []))) := by
        have h1 := HS2.out (L.length - 1) (by omega)
        rw [Nat.zero_add] at h1
        have h2 := (HBr.out.cell (p := ⟨S0 + 1, L.length - 1, none⟩) (show S0 + 1 < z by have := HZ2.out.1; omega)).trans h1
        rw [h2]
        congr 3
        rw [List.getLastD_eq_getLast?, List.getLast?_eq_getElem?, List.getD_eq_getElem?_getD]
      have hrx : wr.heap[S0]? = some (.cells (cfs cfZ).toArray 37 (0, 0)) := (HBr.out.block S0 (by have := HZ2.out.1; omega)).trans HR2.out
      generalize L.getLastD [] = la at *
      have hBw : Below S0 w wr := HB2.out.trans (HBr.out.mono (by have := HZ2.out.1; omega))
      have HBW := Lib.hid hBw
      clear hBw
      by_cases hla : la = []
      · subst hla
        rw [if_neg (fun h => h rfl)] at e
        by_cases h3 : L.length - 1 ≤ 3
        · rw [if_pos h3] at e
          subst e
          go_wp2_with (first | (refine wpList_store_mid rfl 37 _ _ rfl S0 0 (cfs cfZ).toArray HPV.out rfl (box_there hrx) info37 one_zero ?_))
          exact post_bad HPV.out rfl rfl (by omega) rfl hrx HBW.out HS0.out
        · rw [if_neg h3] at e
          subst e
          have HD := Lib.hid HPr.out.d
          obtain ⟨a, cc, rfl, hncc, hnm, htr⟩ := HPr.out.d.trR
          have K26 := check26 c X T a n cc Q wr HPr.out.d.cfIn htr hnm
          rw [chkM_doc c X T n Q HPr.out.d.h15 HPr.out.d.eq] at K26
          unfold cfv at K26
          have K26 := Lib.hid K26
          have HRC := Lib.hid (range_doc HPr.out.d.hz)
          have hc20 := cell_box HPr.out.d.hz (k := 20) (v := .slice a n cc) rfl
          have HZ3 := Lib.hid (show S0 < z by have := HZ2.out.1; omega)
          clear htr HPr HL HP2 HS2 HZ2 HR2
          by_cases h0 : chkD (docOf c X T n Q) = 0
          · rw [if_pos h0]
            rw [h0] at K26 ⊢
            go_upto_region 22 with (first | (refine wpList_load_mid rfl 37 (.tmp 60) rfl z 0 rfl (cfs c) _ HRC.out Tryz.underlying37 rfl (by kernel_rfl) ?_) | (go_at_call 26; refine K26.out.mono ?_; rintro e w5 ⟨rfl, hb5⟩; have HB5 := Lib.hid hb5; clear hb5))
            have HD5 := Lib.hid (HD.out.mono HB5.out)
            have HW5 := Lib.hid (bthen HBW.out HB5.out (Nat.le_of_lt (heap_lt hrx)))
            have HR5 := Lib.hid ((HB5.out.block S0 (heap_lt hrx)).trans hrx)
            clear hc20 hc hrx HRC K26 HD HBW HB5 HBr
            rw [h0, if_pos rfl]
            refine wp_region_peel 0 5 (St22 w5 S0 z c (.slice a n cc)) (by kernel_rfl) (by kernel_rfl) rfl (fun _ _ d _ _ h => by cases d <;> exact h) (fun L L' vs vs' u h1 h2 S => S.congr h1 h2) ⟨(Below.refl _ _).drew, fun _ _ _ => rfl, fun i _ h => by have := of_decide_eq_true h; omega, fun _ => HR5.out, fun h => by have := of_decide_eq_true h; omega⟩ ?_ ?_
            · intro i o _ hi ho L0 vf u hL hwt S
              have HS := Lib.hid S
              have Hw := Lib.hid hwt
              have HL0 := Lib.hid hL
              have hzu : u.heap[z]? = some (.cells (docCs c (.slice a n cc)) 81 (0, 0)) := (S.k z (by have := HZ3.out; omega) (heap_lt HD5.out.hz)).trans HD5.out.hz
              have HRU := Lib.hid (range_doc hzu)
              have hc20 := cell_box hzu (k := 20) (v := .slice a n cc) rfl
              clear S hwt hL hzu
              have hi' : i = 0 ∨ i = 1 ∨ i = 2 ∨ i = 3 ∨ i = 4 := by omega
              rcases hi' with rfl | rfl | rfl | rfl | rfl
              · obtain rfl := Option.some.inj ho
                simp only [fillA, List.take_succ_cons, List.take_zero, List.drop_succ_cons, List.drop_zero]
                go_wp2
                exact ⟨rfl, HS.out.step (by decide) rfl⟩
              · obtain rfl := Option.some.inj ho
                have f0 := HS.out.f 0 (by omega) (Hw.out 0 (by kernel_rfl))
                simp only [fillA, List.take_succ_cons, List.take_zero, List.drop_succ_cons, List.drop_zero]
                refine wpList_load_mid rfl 37 (.tmp 69) rfl z 0 f0 (cfs c) _ HRU.out Tryz.underlying37 rfl (by kernel_rfl) ?_
                go_wp2
                exact ⟨rfl, HS.out.step (by decide) rfl⟩
              · obtain rfl := Option.some.inj ho
                simp only [fillA, List.take_succ_cons, List.take_zero, List.drop_succ_cons, List.drop_zero]
                go_wp2
                exact ⟨rfl, HS.out.step (by decide) rfl⟩
              · obtain rfl := Option.some.inj ho
                have f2 : vf 2 = .pointer (some ⟨z, 20, none⟩) := HS.out.f 2 (by omega) (Hw.out 2 (by kernel_rfl))
                simp only [fillA, List.take_succ_cons, List.take_zero, List.drop_succ_cons, List.drop_zero]
                go_wp2
                exact ⟨rfl, HS.out.step (by decide) rfl⟩
              · obtain rfl := Option.some.inj ho
                have f1 := HS.out.f 1 (by omega) (Hw.out 1 (by kernel_rfl))
                simp only [fillA, List.take_succ_cons, List.take_zero, List.drop_succ_cons, List.drop_zero]
                have ht := box_there (HS.out.r0 HL0.out)
                refine wpList_store_mid rfl 37 (.tmp 2) (.tmp 70) rfl S0 0 (cfs c).toArray HPV.out f1 (show u.there S0 0 (cfs c).toArray.size from ht) info37 (one_c c) ?_
                go_wp2
                exact ⟨rfl, HS.out.store HL0.out⟩
            · intro vf u S
              have HS := Lib.hid S
              have f3 : vf 3 = .slice a n cc := S.f 3 (by omega) rfl
              clear S
              simp only [fillA, List.take_succ_cons, List.take_zero, List.drop_succ_cons, List.drop_zero]
              go_wp2
              exact post_good HS.out HPV.out rfl rfl rfl HD5.out HZ3.out HW5.out HS0.out
          · have hq : (chkD (docOf c X T n Q) != 0) = true := by simp [h0]
            rw [if_neg h0]
            generalize chkD (docOf c X T n Q) = er at *
            clear HD
            go_wp2_with (first | (refine wpList_load_mid rfl 37 (.tmp 60) rfl z 0 rfl (cfs c) _ HRC.out Tryz.underlying37 rfl (by kernel_rfl) ?_) | (go_at_call 26; refine K26.out.mono ?_; rintro e w5 ⟨rfl, hb5⟩; have hr5 := (hb5.block S0 (heap_lt hrx)).trans hrx; have HB5 := Lib.hid (bthen HBW.out hb5 (Nat.le_of_lt (heap_lt hrx))); clear hb5) | (refine wpList_store_mid rfl 37 _ _ rfl S0 0 (cfs cfZ).toArray HPV.out rfl (box_there hr5) info37 one_zero ?_))
            exact post_bad HPV.out rfl rfl (by rfl) rfl hr5 HB5.out HS0.out
      · rw [if_pos hla] at e
        subst e
        have hq : la.isEmpty = false := by simpa using hla
        go_wp2_with (first | (refine wpList_store_mid rfl 37 _ _ rfl S0 0 (cfs cfZ).toArray HPV.out rfl (box_there hrx) info37 one_zero ?_))
        exact post_bad HPV.out rfl rfl (by omega) rfl hrx HBW.out HS0.out
end Go.Proofs.YtgflfdnajchjaaaGreatDoor
