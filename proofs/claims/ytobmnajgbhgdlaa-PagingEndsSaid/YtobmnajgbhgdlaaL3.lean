/- Layer 36: the walk of PagingAnswers. -/
import Derived.Test.YtobmnajgbhgdlaaP17
import Derived.BigRegion
namespace Go.Proofs.Ytobmnajgbhgdlaa
set_option linter.unusedVariables false
set_option linter.unusedSimpArgs false
open Go.RowKit Go.Sort
attribute [local go_sem] gcell

/-- The pages behind a call for a terminal. -/
def nx (L : List Pg) (id : Int) : List Pg := if id ∈ ids L then L else L ++ [(id, 0, 0)]
theorem nx_ids {L : List Pg} {id x : Int} : x ∈ ids (nx L id) ↔ x ∈ ids L ∨ x = id := by
  unfold nx
  split
  · rename_i h
    exact ⟨.inl, fun h2 => h2.elim (fun h3 => h3) fun h3 => h3 ▸ h⟩
  · rw [ids_snoc, mem_snoc]
theorem nx_len (L : List Pg) (id : Int) : (nx L id).length ≤ L.length + 1 := by
  unfold nx
  split
  · omega
  · rw [List.length_append, List.length_singleton]; exact Nat.le_refl _
theorem nx_vl {L : List Pg} {id : Int} (h : VL 3 L) (hi : 0 ≤ id ∧ id < 65536) : VL 3 (nx L id) := by
  unfold nx
  split
  · exact h
  · exact h.call (by assumption) hi (by omega) (by omega)
def oth (L : List Pg) (g : Int) : List Pg := L.filter fun x => decide (x.1 ≠ g)
theorem oth_ids {L : List Pg} {g x : Int} : x ∈ ids (oth L g) ↔ x ∈ ids L ∧ x ≠ g := by
  unfold oth ids
  simp only [List.mem_map, List.mem_filter, decide_eq_true_eq]
  constructor
  · rintro ⟨y, ⟨h1, h2⟩, rfl⟩
    exact ⟨⟨y, h1, rfl⟩, h2⟩
  · rintro ⟨⟨y, h1, rfl⟩, h2⟩
    exact ⟨y, ⟨h1, h2⟩, rfl⟩
theorem oth_nx_gone (L : List Pg) (g : Int) : oth (nx L g) g = oth L g := by
  unfold nx
  split
  · rfl
  · unfold oth; rw [List.filter_append]; simp
theorem oth_nx {L : List Pg} {g id : Int} (h : id ≠ g) : oth (nx L id) g = nx (oth L g) id := by
  unfold nx
  by_cases hm : id ∈ ids L
  · rw [if_pos hm, if_pos (oth_ids.2 ⟨hm, h⟩)]
  · rw [if_neg hm, if_neg (fun e => hm (oth_ids.1 e).1)]
    unfold oth
    rw [List.filter_append]
    simp [h]
theorem oth_len (L : List Pg) (g : Int) : (oth L g).length ≤ L.length := List.length_filter_le _ _
def mOf (L : List Pg) (x : Int) : Option Value := if x ∈ ids L then some (.bool true) else none
theorem mOf_put (L : List Pg) (id x : Int) : mOf (nx L id) x = putM (mOf L) id (.bool true) x := by
  unfold putM mOf
  by_cases h : x = id
  · rw [if_pos h, if_pos (nx_ids.2 (.inr h))]
  · rw [if_neg h]
    by_cases h2 : x ∈ ids L
    · rw [if_pos h2, if_pos (nx_ids.2 (.inl h2))]
    · rw [if_neg h2, if_neg (fun e => (nx_ids.1 e).elim h2 h)]
theorem nx_call {cy mo : Int} {L : List Pg} {id : Int} (hp : 1 ≤ cy ∧ cy ≤ 256 ∧ 1 ≤ mo ∧ mo ≤ 16) (h : VL 3 L) (hl : L.length < 16) (hi : 0 ≤ id ∧ id < 65536) :
    clO cy mo 3 id 0 L.length (pI L) (pS L) (pC L) = nx L id := by
  rw [(cl_ok (t := 0) (cy := cy) (mo := mo) ⟨hp.1, hp.2.1, hp.2.2.1, hp.2.2.2, by omega, by omega⟩ h hl (by omega) hi).2]
  rfl
/-- Two pagers and a map. -/
structure AnS (w wr : World) (B1 B2 bm m : Nat) (cy g : Int) (a1 : Option Addr) (c1 : Nat) (a2 : Option Addr) (c2 : Nat) (L : List Pg) : Prop where
  bel : Below w.heap.size w wr
  p : PB wr B1 cy 16 3 a1 c1 L
  q : PB wr B2 cy 16 3 a2 c2 (oth L g)
  mp : MapAt wr bm m (mOf L)
  lt : w.heap.size ≤ B1 ∧ w.heap.size ≤ B2 ∧ w.heap.size ≤ bm ∧ B1 ≠ B2 ∧ B1 ≠ bm ∧ B2 ≠ bm
  v : VL 3 L
theorem u8_wf {x : Int} (h : 0 ≤ x ∧ x ≤ 255) : (Lit.int .i64 x).wf = true := by
  simp only [Lit.wf, Bool.and_eq_true, decide_eq_true_eq]
  exact ⟨by show (-9223372036854775808 : Int) ≤ x; omega, by show x ≤ (9223372036854775807 : Int); omega⟩

/-- Two pagers with the same pages. -/
structure An2 (w wr : World) (B1 B2 : Nat) (cy g : Int) (a1 : Option Addr) (c1 : Nat) (a2 : Option Addr) (c2 : Nat) (Q : List Pg) : Prop where
  bel : Below w.heap.size w wr
  p : PB wr B1 cy 16 3 a1 c1 Q
  q : PB wr B2 cy 16 3 a2 c2 Q
  lt : w.heap.size ≤ B1 ∧ w.heap.size ≤ B2 ∧ B1 ≠ B2
  v : VL 3 Q
  ne : g ∉ ids Q
  len : Q.length ≤ 8
theorem nI_mem {A : List Int} {k : Nat} (h : k < A.length) : nI A k ∈ A := by
  unfold nI
  rw [List.getD_eq_getElem?_getD, List.getElem?_eq_getElem h]
  exact List.getElem_mem h
theorem zero4 : ∀ w, (zeroValue 4).run Try.prog w = .ok (.bool false) w := fun w => by kernel_rfl
/-- A slice of bytes that came in. -/
structure U8s (w : World) (a : Option Addr) (b m n : Nat) (xs : Nat → Int) : Prop where
  ha : 0 < n → a = some ⟨b, m, none⟩
  hx : ∀ k, k < n → w.cell? ⟨b, m + k, none⟩ = some (.int .u8 (xs k)) ∧ 0 ≤ xs k ∧ xs k ≤ 255
set_option maxRecDepth 100000 in
set_option maxHeartbeats 8000000 in
theorem answers6 (a : Option Addr) (b m n c : Nat) (xs : Nat → Int) (x1 x2 : Int) (w : World) (L : U8s w a b m n xs) (hn : n ≤ 281474976710656) (b1 : 0 ≤ x1 ∧ x1 ≤ 255) (b2 : 0 ≤ x2 ∧ x2 ≤ 255) :
    Calls Try.prog 6 #[.slice a n c, .int .u8 x1, .int .u8 x2] w fun e w' => e = .returned (.bool true) ∧ Below w.heap.size w w' := by
  have HL := Lib.hid L
  clear L
  obtain ⟨N, hN⟩ : ∃ N : Nat, N = min n 8 := ⟨_, rfl⟩
  have hN8 : N ≤ 8 ∧ N ≤ n := by omega
  have q1 : (if (8 : Int) < (n : Int) then (8 : Int) else (n : Int)) = (N : Int) := by split <;> omega
  have hmm := @run_makeMap Try.prog
  have hw0 := blA w (.cells #[.int .i64 (1 + x2 % 6), .int .i64 16, .int .i64 3, .slice none 0 0] 25)
  have hw1 := blA (w.alloc (.cells #[.int .i64 (1 + x2 % 6), .int .i64 16, .int .i64 3, .slice none 0 0] 25)) (.cells #[.int .i64 (1 + x2 % 6), .int .i64 16, .int .i64 3, .slice none 0 0] 25)
  have hw2 := blA ((w.alloc (.cells #[.int .i64 (1 + x2 % 6), .int .i64 16, .int .i64 3, .slice none 0 0] 25)).alloc (.cells #[.int .i64 (1 + x2 % 6), .int .i64 16, .int .i64 3, .slice none 0 0] 25)) (.map #[] 0)
  have hp0 : PB _ w.heap.size (1 + x2 % 6) 16 3 none 0 ([] : List Pg) := PB.new w (1 + x2 % 6) 16 3 (R3.zero _ _ _ _ _) ⟨Nat.le_refl _, by omega⟩ (fun _ => rfl)
  have hq0 : PB _ (w.alloc (.cells #[.int .i64 (1 + x2 % 6), .int .i64 16, .int .i64 3, .slice none 0 0] 25)).heap.size (1 + x2 % 6) 16 3 none 0 ([] : List Pg) := PB.new _ (1 + x2 % 6) 16 3 (R3.zero _ _ _ _ _) ⟨Nat.le_refl _, by omega⟩ (fun _ => rfl)
  have hm0 := MapAt.made ((w.alloc (.cells #[.int .i64 (1 + x2 % 6), .int .i64 16, .int .i64 3, .slice none 0 0] 25)).alloc (.cells #[.int .i64 (1 + x2 % 6), .int .i64 16, .int .i64 3, .slice none 0 0] 25))
  have HS0 := Lib.hid (show AnS w (((w.alloc (.cells #[.int .i64 (1 + x2 % 6), .int .i64 16, .int .i64 3, .slice none 0 0] 25)).alloc (.cells #[.int .i64 (1 + x2 % 6), .int .i64 16, .int .i64 3, .slice none 0 0] 25)).alloc (.map #[] 0)) w.heap.size (w.heap.size + 1) (w.heap.size + 1 + 1) 0 (1 + x2 % 6) x1 none 0 none 0 [] from
    ⟨bthen' (bthen' hw0 hw1) hw2, (hp0.mono hw1).mono hw2, by simpa [oth] using hq0.mono hw2, (by simpa using hm0.congr (N := mOf []) (fun x => rfl)), ⟨Nat.le_refl _, by omega, by omega, by omega, by omega, by omega⟩, ⟨by simp, by simp⟩⟩)
  clear hN hw0 hw1 hw2 hp0 hq0 hm0
  have bcy : 1 ≤ 1 + x2 % 6 ∧ 1 + x2 % 6 ≤ 6 := by omega
  go_enter Try.func6, Try.ntmps6
  go_upto_region 6 with fail
  generalize (((w.alloc (.cells #[.int .i64 (1 + x2 % 6), .int .i64 16, .int .i64 3, .slice none 0 0] 25)).alloc (.cells #[.int .i64 (1 + x2 % 6), .int .i64 16, .int .i64 3, .slice none 0 0] 25)).alloc (.map #[] 0)) = w0 at *
  generalize w.heap.size + 1 + 1 = bm at *
  generalize w.heap.size + 1 = B2 at *
  generalize 1 + x2 % 6 = cy at *
  clear hmm q1
  go_wp2_with fail
  go_loopw [12] (fun s12 wr => ∃ (i : Nat) (L : List Pg) (a1 : Option Addr) (c1 : Nat) (a2 : Option Addr) (c2 : Nat), s12 = .int .i64 i ∧ i ≤ N ∧ L.length ≤ i ∧ AnS w wr w.heap.size B2 bm i cy x1 a1 c1 a2 c2 L) (fun s12 _ => N - (intOf s12).toNat)
  case atStart => exact ⟨0, [], none, 0, none, 0, rfl, Nat.zero_le _, Nat.le_refl _, HS0.out⟩
  case round =>
    clear HS0
    obtain ⟨i, L, a1, c1, a2, c2, rfl, hi, hl, hS⟩ := hrel
    have HS := Lib.hid hS
    have hsr := hS.bel.size
    have hol := oth_len L x1
    have HLT := Lib.hid hS.lt
    by_cases hlt : i < N
    · obtain ⟨gy, gz⟩ := HL.out.hx i (by omega)
      have hai := HL.out.ha (by omega)
      subst hai
      have gx := up hS.bel gy
      have i1 : (0 : Int) ≤ (i : Int) := by omega
      have i2 : (i : Int) < (n : Int) := by omega
      have hxi : 0 ≤ xs i ∧ xs i < 65536 := by omega
      have wfi := u8_wf gz
      have WFI := Lib.hid wfi
      have bxi := gz
      have hnl := nx_len L (xs i)
      have hnl2 := nx_len (oth L x1) (xs i)
      have HX1 := Lib.hid (fun (h : xs i ≠ x1) => oth_nx (L := L) h)
      have HX2 := Lib.hid (fun (h : xs i = x1) => show oth (nx L (xs i)) x1 = oth L x1 by rw [h]; exact oth_nx_gone L x1)
      have HMP := Lib.hid (fun x => mOf_put L (xs i) x)
      have HV := Lib.hid (nx_vl hS.v hxi)
      have HC1 := Lib.hid (nx_call (cy := cy) (mo := 16) ⟨by omega, by omega, by omega, by omega⟩ hS.v (by omega) hxi)
      have HC2 := Lib.hid (nx_call (cy := cy) (mo := 16) (L := oth L x1) ⟨by omega, by omega, by omega, by omega⟩ (hS.v.filter _) (by omega) hxi)
      have K1 := Lib.hid (call7 cy 16 3 (xs i) 0 a1 L.length c1 _ _ _ wr hS.p.r hS.p.k.1 hS.p.k.2 hS.p.n (by omega))
      clear wfi gz hxi gy
      generalize xs i = id at *
      have x0 := hS.p.x.c0
      have x1 := hS.p.x.c1
      have x2 := hS.p.x.c2
      have x3 := hS.p.x.c3
      clear hS
      unfold gv at *
      go_wp2_with fail
      refine K1.out.mono ?_
      rintro e w2 ⟨P, a3, c3, hP, rfl, hc3, hA3, hR3, hb⟩
      rw [HC1.out] at hP
      have hPl : P.length ≤ L.length + 1 := by rw [hP]; exact hnl
      have hp2 := HS.out.p.mono hb
      have hq2 := HS.out.q.mono hb
      have hm2 := HS.out.mp.mono hb
      have hB2' := bthen HS.out.bel hb hsr
      obtain ⟨l1, l2, l3, l4, l5, l6⟩ := HLT.out
      have hp3 := hp2.re hR3 hc3 hA3
      have hq3 := hq2.other hp2 l4 (.slice a3 P.length c3)
      have hm3 := hm2.rebox (cy := cy) (mo := 16) (tr := 3) (u := .slice a3 P.length c3) l5
      have HB3 := Lib.hid (below_rebox (B := w.heap.size) (cy := cy) (mo := 16) (tr := 3) (u := .slice a3 P.length c3) hB2' l1)
      have HP3 := Lib.hid hp3
      have HQ3 := Lib.hid hq3
      have HM3 := Lib.hid hm3
      have HPP := Lib.hid hP
      have hBl : w.heap.size < w2.heap.size := hp2.x.lt
      have y0 := hp2.x.c0
      have y1 := hp2.x.c1
      have y2 := hp2.x.c2
      have y3 := hp2.x.c3
      have g0 := hp2.x.f 0
      have g1 := hp2.x.f 1
      have g2 := hp2.x.f 2
      have g3 := hp2.x.f 3
      clear hb hc3 hA3 hR3 hp2 hq2 hm2 hB2' hp3 hq3 hm3 K1 hP x0 x1 x2 x3 gx HS
      unfold gv at *
      go_upto_region 11 with fail
      have e7 : (((w2.setCell ⟨w.heap.size, 0, none⟩ (.int .i64 cy)).setCell ⟨w.heap.size, 1, none⟩ (.int .i64 16)).setCell ⟨w.heap.size, 2, none⟩ (.int .i64 3)).setCell ⟨w.heap.size, 3, none⟩ (.slice a3 P.length c3) = rebox w2 w.heap.size cy 16 3 (.slice a3 P.length c3) := rfl
      rw [e7]
      clear e7 y0 y1 y2 y3 g0 g1 g2 g3 hBl
      generalize rebox w2 w.heap.size cy 16 3 (.slice a3 P.length c3) = w3 at *
      by_cases hg : id = x1
      · have d1 : (id == x1) = true := beq_iff_eq.2 hg
        have d2 : (id != x1) = false := by simp [bne, d1]
        have HX := Lib.hid (HX2.out hg)
        clear hg
        go_wp2_with (at_mapUpdate; refine wpList_mapPut w3 rfl _ _ _ 46 rfl 3 4 Try.underlying3 Try.underlying46 bm i (mOf L) rfl HM3.out (by unfold maxLen; omega) id (.bool true) WFI.out rfl rfl ?_; intro w4 hm4 hg4 hz4; have HM4 := Lib.hid hm4; have HG4 := Lib.hid hg4; clear hm4 hg4)
        go_roundw
        case rel => exact ⟨i + 1, P, a3, c3, a2, c2, by go_num, by omega, by omega, below_map HB3.out HG4.out l3, HP3.out.map HM3.out HG4.out, by rw [HPP.out, HX.out]; exact HQ3.out.map HM3.out HG4.out, by rw [HPP.out]; exact HM4.out.congr HMP.out, HLT.out, by rw [HPP.out]; exact HV.out⟩
        case measure => simp [intOf]; omega
      · have d1 : (id == x1) = false := beq_eq_false_iff_ne.2 hg
        have d2 : (id != x1) = true := by simp [bne, d1]
        have HX := Lib.hid (HX1.out hg)
        clear hg
        have K2 := Lib.hid (call7 cy 16 3 id 0 a2 (oth L x1).length c2 _ _ _ w3 HQ3.out.r HQ3.out.k.1 HQ3.out.k.2 HQ3.out.n (by omega))
        unfold gv at *
        have x0 := HQ3.out.x.c0
        have x1 := HQ3.out.x.c1
        have x2 := HQ3.out.x.c2
        have x3 := HQ3.out.x.c3
        go_wp2_with fail
        refine K2.out.mono ?_
        rintro e w5 ⟨P2, a4, c4, hP, rfl, hc4, hA4, hR4, hb⟩
        rw [HC2.out] at hP
        have hs5 := hb.size
        have hs3 := HB3.out.size
        have hp5 := HP3.out.mono hb
        have hq5 := HQ3.out.mono hb
        have hm5 := HM3.out.mono hb
        have hB5 := bthen HB3.out hb hs3
        have hp6 := hp5.other hq5 (Ne.symm l4) (.slice a4 P2.length c4)
        have hq6 := hq5.re hR4 hc4 hA4
        have hm6 := hm5.rebox (cy := cy) (mo := 16) (tr := 3) (u := .slice a4 P2.length c4) l6
        have HB6 := Lib.hid (below_rebox (B := B2) (cy := cy) (mo := 16) (tr := 3) (u := .slice a4 P2.length c4) hB5 l2)
        have HP6 := Lib.hid hp6
        have HQ6 := Lib.hid hq6
        have HM6 := Lib.hid hm6
        have HPQ := Lib.hid hP
        have hBl : B2 < w5.heap.size := hq5.x.lt
        have y0 := hq5.x.c0
        have y1 := hq5.x.c1
        have y2 := hq5.x.c2
        have y3 := hq5.x.c3
        have g0 := hq5.x.f 0
        have g1 := hq5.x.f 1
        have g2 := hq5.x.f 2
        have g3 := hq5.x.f 3
        clear hb hc4 hA4 hR4 hp5 hq5 hm5 hB5 hp6 hq6 hm6 K2 hP x0 x1 x2 x3 HB3 HP3 HQ3 HM3 hs5 hs3
        unfold gv at *
        go_upto_region 13 with fail
        have e7 : (((w5.setCell ⟨B2, 0, none⟩ (.int .i64 cy)).setCell ⟨B2, 1, none⟩ (.int .i64 16)).setCell ⟨B2, 2, none⟩ (.int .i64 3)).setCell ⟨B2, 3, none⟩ (.slice a4 P2.length c4) = rebox w5 B2 cy 16 3 (.slice a4 P2.length c4) := rfl
        rw [e7]
        clear e7 y0 y1 y2 y3 g0 g1 g2 g3 hBl
        generalize rebox w5 B2 cy 16 3 (.slice a4 P2.length c4) = w6 at *
        go_wp2_with (at_mapUpdate; refine wpList_mapPut w6 rfl _ _ _ 46 rfl 3 4 Try.underlying3 Try.underlying46 bm i (mOf L) rfl HM6.out (by unfold maxLen; omega) id (.bool true) WFI.out rfl rfl ?_; intro w7 hm4 hg4 hz4; have HM4 := Lib.hid hm4; have HG4 := Lib.hid hg4; clear hm4 hg4)
        go_roundw
        case rel => exact ⟨i + 1, P, a3, c3, a4, c4, by go_num, by omega, by omega, below_map HB6.out HG4.out l3, HP6.out.map HM6.out HG4.out, by rw [HPP.out, HX.out, ← HPQ.out]; exact HQ6.out.map HM6.out HG4.out, by rw [HPP.out]; exact HM4.out.congr HMP.out, HLT.out, by rw [HPP.out]; exact HV.out⟩
        case measure => simp [intOf]; omega
    · obtain rfl : i = N := by omega
      have K1 := Lib.hid (answer18 cy 16 3 x1 a1 L.length c1 _ _ _ wr hS.p.r hS.p.k.1 hS.p.k.2 hS.p.n (by omega))
      obtain ⟨HA1, HA2⟩ := an_ok (id := x1) (cy := cy) (mo := 16) (tr := 3) ⟨by omega, by omega, by omega, by omega, by omega, by omega⟩ hS.v (by omega)
      have HAE := Lib.hid HA1
      have HAO := Lib.hid HA2
      have HV := Lib.hid (hS.v.filter fun x => decide (x.1 ≠ x1))
      have wfx := u8_wf b1
      have WFX := Lib.hid wfx
      have z0 := hS.p.x.c0
      have z1 := hS.p.x.c1
      have z2 := hS.p.x.c2
      have z3 := hS.p.x.c3
      clear hS HA1 HA2 wfx
      unfold gv at *
      go_wp2_with fail
      refine K1.out.mono ?_
      rintro e w2 ⟨P, a3, c3, hP, rfl, hc3, hA3, hR3, hb⟩
      rw [HAE.out]
      have hP' : P = oth L x1 := hP.trans HAO.out
      have hp2 := HS.out.p.mono hb
      have hq2 := HS.out.q.mono hb
      have hm2 := HS.out.mp.mono hb
      have hB2' := bthen HS.out.bel hb hsr
      obtain ⟨l1, l2, l3, l4, l5, l6⟩ := HLT.out
      have hm3 := hm2.rebox (cy := cy) (mo := 16) (tr := 3) (u := .slice a3 P.length c3) l5
      have HS3 := Lib.hid (show An2 w (rebox w2 w.heap.size cy 16 3 (.slice a3 P.length c3)) w.heap.size B2 cy x1 a3 c3 a2 c2 P from
        ⟨below_rebox hB2' l1, hp2.re hR3 hc3 hA3, by rw [hP']; exact hq2.other hp2 l4 _, ⟨l1, l2, l4⟩, by rw [hP']; exact HV.out, by rw [hP']; exact fun e => (oth_ids.1 e).2 rfl, by rw [hP']; omega⟩)
      have HM3 := Lib.hid hm3
      have HLK := Lib.hid (show (mOf L x1).getD (.bool false) = .bool (decide (x1 ∈ ids L)) by
        unfold mOf
        by_cases h : x1 ∈ ids L
        · rw [if_pos h, decide_eq_true h]; rfl
        · rw [if_neg h, decide_eq_false h]; rfl)
      have hBl : w.heap.size < w2.heap.size := hp2.x.lt
      have y0 := hp2.x.c0
      have y1 := hp2.x.c1
      have y2 := hp2.x.c2
      have y3 := hp2.x.c3
      have g0 := hp2.x.f 0
      have g1 := hp2.x.f 1
      have g2 := hp2.x.f 2
      have g3 := hp2.x.f 3
      clear hb hc3 hA3 hR3 hp2 hq2 hm2 hB2' hm3 K1 hP hP' z0 z1 z2 z3 HS
      unfold gv at *
      generalize decide (x1 ∈ ids L) = G at *
      have dG : (G != G) = false := by cases G <;> rfl
      go_upto_region 15 with fail
      have e7 : (((w2.setCell ⟨w.heap.size, 0, none⟩ (.int .i64 cy)).setCell ⟨w.heap.size, 1, none⟩ (.int .i64 16)).setCell ⟨w.heap.size, 2, none⟩ (.int .i64 3)).setCell ⟨w.heap.size, 3, none⟩ (.slice a3 P.length c3) = rebox w2 w.heap.size cy 16 3 (.slice a3 P.length c3) := rfl
      rw [e7]
      clear e7 y0 y1 y2 y3 g0 g1 g2 g3 hBl
      generalize rebox w2 w.heap.size cy 16 3 (.slice a3 P.length c3) = w3 at *
      go_upto_region 17 with (at_lookup; refine wpList_mapLook w3 rfl _ _ 46 rfl 3 4 Try.underlying3 Try.underlying46 bm i (mOf L) rfl HM3.out (.bool false) (zero4 _) x1 WFX.out rfl (.bool G) HLK.out ?_)
      clear HM3 HLK dG HV HAE HAO hol hl HLT hi
      go_wp2_with fail
      go_loopw [15] (fun s15 wx => ∃ (t : Nat) (a1 : Option Addr) (c1 : Nat) (a2 : Option Addr) (c2 : Nat) (Q : List Pg), s15 = .int .i64 t ∧ t ≤ 40 ∧ An2 w wx w.heap.size B2 cy x1 a1 c1 a2 c2 Q) (fun s15 _ => 40 - (intOf s15).toNat)
      case atStart => exact ⟨0, a3, c3, a2, c2, P, rfl, by omega, HS3.out⟩
      case round =>
        clear HS3
        obtain ⟨t, a1, c1, a2, c2, Q, rfl, ht, hS⟩ := hrel
        have HS := Lib.hid hS
        have hsr := hS.bel.size
        by_cases ht2 : t < 40
        · obtain ⟨HE1, HO1⟩ := tk_ok (t := (t : Int)) (cy := cy) (mo := 16) (tr := 3) ⟨by omega, by omega, by omega, by omega, by omega, by omega⟩ hS.v (by have := hS.len; omega) ⟨by omega, by omega⟩
          have HTI := Lib.hid (tkF_inv (cy := cy) (mo := 16) (tr := 3) (t := (t : Int)) ⟨by omega, by omega⟩ (by omega) (by omega) _ Q rfl hS.v)
          have HFL := Lib.hid (tkF_len cy 16 3 (t : Int) Q)
          have HE := Lib.hid HE1
          have HO := Lib.hid HO1
          have i1 : (t : Int) < 40 := by omega
          have K1 := Lib.hid (tick8 cy 16 3 (t : Int) a1 Q.length c1 _ _ _ _ hS.p.r hS.p.k.1 hS.p.k.2 hS.p.n (by have := hS.len; omega))
          have z0 := hS.p.x.c0
          have z1 := hS.p.x.c1
          have z2 := hS.p.x.c2
          have z3 := hS.p.x.c3
          clear hS HE1 HO1
          unfold gv at *
          go_wp2_with fail
          refine K1.out.mono ?_
          rintro e w4 ⟨P, A, B, a3, b3, d3, c3, e3, f3, hP, rfl, hc3, hA3, hR3, hI3, hJ3, hb⟩
          rw [HE.out]
          have HS4 := Lib.hid (show An2 w w4 w.heap.size B2 cy x1 a1 c1 a2 c2 Q from ⟨bthen HS.out.bel hb hsr, HS.out.p.mono hb, HS.out.q.mono hb, HS.out.lt, HS.out.v, HS.out.ne, HS.out.len⟩)
          have HP := Lib.hid hP
          have HC3 := Lib.hid hc3
          have HA3 := Lib.hid hA3
          have hs4 := HS4.out.bel.size
          have HR3 := Lib.hid hR3
          have HI3 := Lib.hid hI3
          clear hb hP hc3 hA3 hR3 hI3 hJ3 K1 HS z0 z1 z2 z3
          unfold gv at *
          go_upto_region 21 with fail
          have hbn := blA w4 (.cells #[.int .i64 cy, .int .i64 16, .int .i64 3, .slice a3 P.length c3] 25)
          have HX5 := Lib.hid (PB.new (L := P) w4 cy 16 3 HR3.out HC3.out HA3.out)
          have HS5 := Lib.hid (show An2 w (w4.alloc (.cells #[.int .i64 cy, .int .i64 16, .int .i64 3, .slice a3 P.length c3] 25)) w.heap.size B2 cy x1 a1 c1 a2 c2 Q from ⟨bthen HS4.out.bel hbn hs4, HS4.out.p.mono hbn, HS4.out.q.mono hbn, HS4.out.lt, HS4.out.v, HS4.out.ne, HS4.out.len⟩)
          have HI5 := Lib.hid (HI3.out.mono hbn)
          have lB1 := HS4.out.p.x.lt
          have lB2 := HS4.out.q.x.lt
          clear hbn HS4 HI3 HR3
          generalize (w4.alloc (.cells #[.int .i64 cy, .int .i64 16, .int .i64 3, .slice a3 P.length c3] 25)) = w5 at *
          generalize w4.heap.size = B3 at *
          have hs5 := HS5.out.bel.size
          have K2 := Lib.hid (tick8 cy 16 3 (t : Int) a2 Q.length c2 _ _ _ w5 HS5.out.q.r HS5.out.q.k.1 HS5.out.q.k.2 HS5.out.q.n (by have := HS5.out.len; omega))
          have z0 := HS5.out.q.x.c0
          have z1 := HS5.out.q.x.c1
          have z2 := HS5.out.q.x.c2
          have z3 := HS5.out.q.x.c3
          unfold gv at *
          go_wp2_with fail
          refine K2.out.mono ?_
          rintro e w6 ⟨P', A', B', a4, b4, d4, c4, e4, f4, hP, rfl, hc4, hA4, hR4, hI4, hJ4, hb⟩
          rw [HE.out]
          have h3 : (P', A', B') = (P, A, B) := hP.trans HP.out.symm
          cases h3
          have HS6 := Lib.hid (show An2 w w6 w.heap.size B2 cy x1 a1 c1 a2 c2 Q from ⟨bthen HS5.out.bel hb hs5, HS5.out.p.mono hb, HS5.out.q.mono hb, HS5.out.lt, HS5.out.v, HS5.out.ne, HS5.out.len⟩)
          have HX6 := Lib.hid (HX5.out.mono hb)
          have HI6 := Lib.hid (HI5.out.mono hb)
          have HJ6 := Lib.hid hI4
          have HC4 := Lib.hid hc4
          have HA4 := Lib.hid hA4
          have HR4 := Lib.hid hR4
          have hs6 := HS6.out.bel.size
          have lB3 := HX6.out.x.lt
          clear hb hP hc4 hA4 hR4 hI4 hJ4 K2 HS5 HX5 HI5 z0 z1 z2 z3
          unfold gv at *
          go_upto_region 22 with fail
          have hbn := blA w6 (.cells #[.int .i64 cy, .int .i64 16, .int .i64 3, .slice a4 P.length c4] 25)
          have HY7 := Lib.hid (PB.new (L := P) w6 cy 16 3 HR4.out HC4.out HA4.out)
          have HX7 := Lib.hid (HX6.out.mono hbn)
          have HI7 := Lib.hid (HI6.out.mono hbn)
          have HJ7 := Lib.hid (HJ6.out.mono hbn)
          have HS7 := Lib.hid (show An2 w (w6.alloc (.cells #[.int .i64 cy, .int .i64 16, .int .i64 3, .slice a4 P.length c4] 25)) w.heap.size B2 cy x1 a1 c1 a2 c2 Q from ⟨bthen HS6.out.bel hbn hs6, HS6.out.p.mono hbn, HS6.out.q.mono hbn, HS6.out.lt, HS6.out.v, HS6.out.ne, HS6.out.len⟩)
          clear hbn HS6 HX6 HI6 HJ6 HR4
          generalize (w6.alloc (.cells #[.int .i64 cy, .int .i64 16, .int .i64 3, .slice a4 P.length c4] 25)) = w7 at *
          generalize w6.heap.size = B4 at *
          have hPF : (P, A, B) = tkF cy 16 3 (t : Int) Q := HP.out.trans HO.out
          have hTI := HTI.out
          have hFL := HFL.out
          rw [← hPF] at hTI hFL
          have HT := Lib.hid hTI
          have hQ8 := HS7.out.len
          have hlA : A.length ≤ Q.length := hFL.2.1
          have hlB : B.length ≤ Q.length := hFL.2.2
          have hlP : P.length ≤ Q.length := hFL.1
          have HNE := Lib.hid (fun (k : Nat) (hk : k < A.length) => show nI A k ≠ x1 from fun e => HS7.out.ne (e ▸ hTI.sP _ (hTI.sA _ (nI_mem hk))))
          have qA : ((A.length : Int) != (A.length : Int)) = false := by simp
          have qB : ((B.length : Int) != (B.length : Int)) = false := by simp
          clear hPF hTI hFL HTI HFL HE HO HP
          go_wp2_with fail
          clear qA qB
          have hs7 := HS7.out.bel.size
          go_loopw [24] (fun s24 wx => ∃ (j : Nat), s24 = .int .i64 j ∧ j ≤ A.length ∧ Below w7.heap.size w7 wx) (fun s24 _ => A.length - (intOf s24).toNat)
          case atStart => exact ⟨0, rfl, Nat.zero_le _, Below.refl _ _⟩
          case round =>
            obtain ⟨j, rfl, hj, hB⟩ := hrel
            have HB := Lib.hid hB
            by_cases hjl : j < A.length
            · obtain ⟨bb, mm, ha1, ha2⟩ := HI7.out.mono hB
              obtain ⟨bb', mm', ha3, ha4⟩ := HJ7.out.mono hB
              obtain rfl := ha1 (by omega)
              obtain rfl := ha3 (by omega)
              have e1 := ha2 j hjl
              have e2 := ha4 j hjl
              have e3 := HNE.out j hjl
              have q1 : (nI A j != nI A j) = false := by simp
              have q2 : (nI A j == x1) = false := beq_eq_false_iff_ne.2 e3
              have j1 : (0 : Int) ≤ (j : Int) := by omega
              have j2 : (j : Int) < (A.length : Int) := by omega
              clear ha1 ha2 ha3 ha4 e3 hB
              generalize nI A j = aj at *
              go_wp2_with fail
              go_quiet (fail)
              go_wp2
              go_roundw
              case rel => exact ⟨j + 1, by go_num, by omega, ⟨HB.out.os, HB.out.tape, HB.out.output, HB.out.size, HB.out.block⟩⟩
              case measure => simp [intOf]; omega
            · obtain rfl : j = A.length := by omega
              have HS8 := Lib.hid (show An2 w wr w.heap.size B2 cy x1 a1 c1 a2 c2 Q from ⟨bthen HS7.out.bel hB hs7, HS7.out.p.mono hB, HS7.out.q.mono hB, HS7.out.lt, HS7.out.v, HS7.out.ne, HS7.out.len⟩)
              have HX8 := Lib.hid (HX7.out.mono hB)
              have HY8 := Lib.hid (HY7.out.mono hB)
              clear hB
              have xa0 := HX8.out.x.c0
              have xa1 := HX8.out.x.c1
              have xa2 := HX8.out.x.c2
              have xa3 := HX8.out.x.c3
              have ya0 := HY8.out.x.c0
              have ya1 := HY8.out.x.c1
              have ya2 := HY8.out.x.c2
              have ya3 := HY8.out.x.c3
              have za0 := HS8.out.p.x.c0
              have za1 := HS8.out.p.x.c1
              have za2 := HS8.out.p.x.c2
              have za3 := HS8.out.p.x.c3
              have ga0 := HS8.out.p.x.f 0
              have ga1 := HS8.out.p.x.f 1
              have ga2 := HS8.out.p.x.f 2
              have ga3 := HS8.out.p.x.f 3
              have va0 := HS8.out.q.x.c0
              have va1 := HS8.out.q.x.c1
              have va2 := HS8.out.q.x.c2
              have va3 := HS8.out.q.x.c3
              have fa0 := HS8.out.q.x.f 0
              have fa1 := HS8.out.q.x.f 1
              have fa2 := HS8.out.q.x.f 2
              have fa3 := HS8.out.q.x.f 3
              have nb := HS8.out.lt
              have N1 : w.heap.size ≠ B2 := nb.2.2
              have N2 : B2 ≠ w.heap.size := Ne.symm N1
              have N3 : w.heap.size ≠ B3 := by omega
              have N4 : w.heap.size ≠ B4 := by omega
              have N5 : B2 ≠ B3 := by omega
              have N6 : B2 ≠ B4 := by omega
              have l1 : w.heap.size < wr.heap.size := HS8.out.p.x.lt
              have l2 : B2 < wr.heap.size := HS8.out.q.x.lt
              clear nb
              go_wp2_with fail
              go_region
              have nv1 := HS8.out.p.nv
              have p1 := HS8.out.p.re HX8.out.r HX8.out.k HX8.out.n
              have r1 := HS8.out.p.x.r3 nv1 (.slice a3 P.length c3) HY8.out.r
              have o1 := HS8.out.q.other HS8.out.p N1 (.slice a3 P.length c3)
              have p2 := p1.other o1 N2 (.slice a4 P.length c4)
              have o2 := o1.re r1 HY8.out.k HY8.out.n
              have bb1 := below_rebox (B := w.heap.size) (cy := cy) (mo := 16) (tr := 3) (u := .slice a3 P.length c3) HS8.out.bel HS8.out.lt.1
              have bb2 := below_rebox (B := B2) (cy := cy) (mo := 16) (tr := 3) (u := .slice a4 P.length c4) bb1 HS8.out.lt.2.1
              have HS9 := Lib.hid (show An2 w (rebox (rebox wr w.heap.size cy 16 3 (.slice a3 P.length c3)) B2 cy 16 3 (.slice a4 P.length c4)).drew w.heap.size B2 cy x1 a3 c3 a4 c4 P from
                ⟨bb2.drew, p2.mono (Below.refl _ _).drew, o2.mono (Below.refl _ _).drew, HS8.out.lt, HT.out.vl HS8.out.v, fun e => HS8.out.ne (HT.out.sP _ e), by omega⟩)
              unfold rebox at HS9
              clear nv1 p1 r1 o1 p2 o2 bb1 bb2
              generalize ((((((((wr.setCell ⟨w.heap.size, 0, none⟩ (.int .i64 cy)).setCell ⟨w.heap.size, 1, none⟩ (.int .i64 16)).setCell ⟨w.heap.size, 2, none⟩ (.int .i64 3)).setCell ⟨w.heap.size, 3, none⟩ (.slice a3 P.length c3)).setCell ⟨B2, 0, none⟩ (.int .i64 cy)).setCell ⟨B2, 1, none⟩ (.int .i64 16)).setCell ⟨B2, 2, none⟩ (.int .i64 3)).setCell ⟨B2, 3, none⟩ (.slice a4 P.length c4)).drew = w9 at *
              clear xa0 xa1 xa2 xa3
              clear ya0 ya1 ya2 ya3
              clear za0 za1 za2 za3
              clear va0 va1 va2 va3
              clear ga0 ga1 ga2 ga3
              clear fa0 fa1 fa2 fa3
              go_wp2
              go_roundw
              case rel => exact ⟨t + 1, a3, c3, a4, c4, P, by go_num, by omega, HS9.out⟩
              case measure => simp [intOf]; omega
        · obtain rfl : t = 40 := by omega
          have oF : occ 2 1 0 = false := by decide
          have HB := Lib.hid hS.bel
          clear hS
          go_wp2_with fail
          refine (occ19 2 1 0 _).mono ?_
          rw [oF]
          rintro e w4 ⟨rfl, hb⟩
          have HB4 := Lib.hid (bthen HB.out hb hsr)
          have hs4 := HB4.out.size
          clear hb
          go_wp2_with fail
          refine (awake9 _).mono ?_
          rintro e w5 ⟨rfl, hb⟩
          have HB5 := Lib.hid (bthen HB4.out hb hs4)
          clear hb
          go_wp2
          go_ret
          exact ⟨rfl, HB5.out⟩
end Go.Proofs.Ytobmnajgbhgdlaa
