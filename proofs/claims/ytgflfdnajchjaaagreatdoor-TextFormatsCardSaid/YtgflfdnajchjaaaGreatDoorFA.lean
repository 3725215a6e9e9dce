/- Layer 45: documents in memory, the program's Format of them, the sanity check. -/
import Derived.Test.YtgflfdnajchjaaaGreatDoorKL
import Derived.Test.YtgflfdnajchjaaaGreatDoorKM
import Derived.Test.YtgflfdnajchjaaaGreatDoorJT
import Derived.Test.YtgflfdnajchjaaaGreatDoorJX
import Derived.Deep.WholeRow
namespace Go.Proofs.YtgflfdnajchjaaaGreatDoor
set_option linter.unusedVariables false
set_option linter.unusedSimpArgs false
open Go.RowKit Go.Sort
open Go.Lib (itoa)
open Tm
attribute [local go_sem] gcell bs_tl
structure DocIn (w : World) (c : Cf) (X : Nat → Ch.Fd) (T : Nat → Te) (a : Option Addr) (n : Nat) (Q : Nat → Tr) (D : DocS) : Prop where
  cf : CfIn w c X T
  tr : TrR w a n Q
  le : n ≤ maxLen
  eq : docOf c X T n Q = D
  h15 : c.h 15 = 0
  kb : ∀ k, k < c.tn → (T k).kn = (T k).bn
theorem DocIn.mono {w w' : World} {c : Cf} {X : Nat → Ch.Fd} {T : Nat → Te} {a : Option Addr} {n : Nat} {Q : Nat → Tr} {D : DocS} (H : DocIn w c X T a n Q D) (hb : Below w.heap.size w w') : DocIn w' c X T a n Q D := ⟨H.cf.mono hb, H.tr.mono hb, H.le, H.eq, H.h15, H.kb⟩
def docGot (o : Nat × Int × Option DocS) : DocS := o.2.2.getD doc0
theorem ParsePost.gen {w w' : World} {o : Nat × Int × Option DocS} {e : Ending} (h : ParsePost w o e w') : ∃ c X T a n cc Q, e = .returned (.tuple #[cfv c, .slice a n cc, .int .i64 o.1, .int .i64 o.2.1]) ∧ DocIn w' c X T a n Q (docGot o) ∧ Below w.heap.size w w' := by
  obtain ⟨ln, er, d⟩ := o
  cases d with
  | none =>
    obtain ⟨he, hb⟩ := h
    refine ⟨cfZ, fun _ => ⟨0, 0, 0, 0, 0⟩, fun _ => teN [], none, 0, 0, fun _ => ⟨0, 0, 0, 0, none, 0, 0, []⟩, he, ⟨⟨?_, ?_, Nat.zero_le _, Nat.zero_le _⟩, ?_, Nat.zero_le _, rfl, rfl, fun k hk => absurd hk (Nat.not_lt_zero k)⟩, hb⟩
    · exact ⟨0, 0, fun h => absurd h (Nat.lt_irrefl _), fun k hk => absurd hk (Nat.not_lt_zero k)⟩
    · exact ⟨0, 0, fun h => absurd h (Nat.lt_irrefl _), fun k hk => absurd hk (Nat.not_lt_zero k)⟩
    · exact ⟨0, 0, fun h => absurd h (Nat.lt_irrefl _), fun k hk => absurd hk (Nat.not_lt_zero k)⟩
  | some D =>
    obtain ⟨c, X, T, a, n, cc, Q, he, h1, h2, h3, h4, h5, h6, hb⟩ := h
    exact ⟨c, X, T, a, n, cc, Q, he, ⟨h1, h2, h3, h4, h5, h6⟩, hb⟩
theorem docGot_small (s : List UInt8) : DocN (docGot (parseP chkD 66 s)) := by
  rcases ho : parseP chkD 66 s with ⟨ln, er, _ | D⟩
  · exact docN0
  · exact (parseP_small ho).1
theorem wpList_wanted {P : Program} {ops : Array Oper} {Q : Exit → Act → World → Prop} {a : Act} {w : World} {rest : List Oper} {o : Oper} (hw : Region.wanted o (yielded ops a.tmps) = true) (h : ∀ K : Act → World → Prop, (∀ a w, wpList P ops Q rest a w → K a w) → o.wp P a w K Q) : wpList P ops Q (o :: rest) a w :=
  wpList_step fun K hK => by rw [if_pos hw]; exact h K hK
/-- A guarded load of a whole struct whose guard says yes. -/
theorem wpList_load_midW {P : Program} {ops : Array Oper} {Q : Exit → Act → World → Prop} {a : Act} {w : World} {rest : List Oper} {op : Oper} (hw : Region.wanted op (yielded ops a.tmps) = true) (ty : TypeId) (x : Operand) (ho : op.op = .load ty x)
    (b o : Nat) (hx : a.eval x = .pointer (some ⟨b, o, none⟩)) (cs : List Value) (d : TypeDesc) (hc : w.rangeAt b o cs)
    (hu : P.underlying ty = some d) (hd : d.isRow = true) (hi : (P.info? ty).map (·.size) = some cs.length)
    (h : wpList P ops Q rest (a.put op.dst (.agg cs.toArray)) w) : wpList P ops Q (op :: rest) a w :=
  wpList_wanted hw fun _ hK => wp_load_mid ty x ho b o hx cs d hc hu hd hi (hK _ _ h)
theorem sml_at {l : List Int} (h : SmL l) : I64s l := fun k hk => by
  rw [List.getD_eq_getElem?_getD, List.getElem?_eq_getElem hk]
  have := h l[k] (List.getElem_mem hk)
  unfold smallI at this
  show -9223372036854775808 < l[k] ∧ l[k] ≤ 9223372036854775807
  omega
/-- Documents of small numbers and packets that are not long can be written. -/
theorem numN_of {c : Cf} {X : Nat → Ch.Fd} {T : Nat → Te} {n : Nat} {Q : Nat → Tr} (H : DocN (docOf c X T n Q)) (hz : ∀ x ∈ (docOf c X T n Q).pkts, x.2.length ≤ 1000000) (he : ∀ i, i < c.tn → (T i).kn = (T i).bn) : NumN c X T n Q := by
  refine ⟨⟨sml_at H.h0, sml_at H.h1, sml_at H.h2, sml_at H.h3⟩, fun j hj => sml_at (H.f _ (List.mem_map.2 ⟨j, List.mem_range.2 hj, rfl⟩)), fun i hi => sml_at (H.t (teS (T i)) (List.mem_map.2 ⟨i, List.mem_range.2 hi, rfl⟩)).1, fun i j hi hj => sml_at ((H.t (teS (T i)) (List.mem_map.2 ⟨i, List.mem_range.2 hi, rfl⟩)).2 _ (List.mem_map.2 ⟨j, List.mem_range.2 hj, rfl⟩)), fun k hk => sml_at (H.p (trS (Q k)) (List.mem_map.2 ⟨k, List.mem_range.2 hk, rfl⟩)), fun k hk => hz (trS (Q k)) (List.mem_map.2 ⟨k, List.mem_range.2 hk, rfl⟩), he⟩
/-- The numbers of a document in memory, by what it says. -/
theorem numN_doc {c : Cf} {X : Nat → Ch.Fd} {T : Nat → Te} {n : Nat} {Q : Nat → Tr} {D : DocS} (e : docOf c X T n Q = D) (H : DocN D) (hz : (catL (textS D)).length ≤ 1000000) (he : ∀ i, i < c.tn → (T i).kn = (T i).bn) : NumN c X T n Q := by
  subst e
  exact numN_of H (fun x hx => Nat.le_trans (pkt_size hx) hz) he
/-- The program's Format of a document in memory, by what it says. -/
theorem fmt16_doc {c : Cf} {X : Nat → Ch.Fd} {T : Nat → Te} {a : Option Addr} {n cc : Nat} {Q : Nat → Tr} {D : DocS} {W : World} (G : Gl W) (H : DocIn W c X T a n Q D) (hN : chkD D = 0 → DocN D) (hz : (catL (textS D)).length ≤ 1000000) :
    Calls Tryz.prog 16 #[cfv c, .slice a n cc] W fun e w' => e = .returned (.tuple #[.string (bs (if chkD D = 0 then catL (textS D) else [])), .int .i64 (chkD D)]) ∧ Below W.heap.size W w' := by
  have e := H.eq
  have ec : chkM c X T n Q = chkD D := by rw [chkM_doc c X T n Q H.h15 H.kb, e]
  have k := fmt16 c X T a n cc Q W G H.cf H.tr H.le (fun h0 => numN_doc e (hN (ec ▸ h0)) hz H.kb) (by rw [e]; exact Nat.le_trans (catL_ge _) hz) (by rw [e]; omega)
  rw [ec, e] at k
  exact k
/-! ### The sanity check -/
def plainL : List UInt8 := [110, 101, 116, 119, 111, 114, 107, 32, 48, 32, 49, 32, 57, 32, 50, 32, 50, 32, 51, 32, 49, 32, 49, 32, 48, 10, 112, 97, 116, 105, 101, 110, 99, 101, 32, 53, 32, 53, 32, 53, 10, 114, 117, 108, 101, 32, 48, 32, 48, 32, 49, 10, 111, 117, 116, 101, 114, 32, 48, 32, 48, 10, 102, 97, 100, 101, 32, 48, 32, 48, 32, 48, 32, 53, 48, 32, 48, 10, 116, 101, 114, 109, 105, 110, 97, 108, 32, 48, 32, 48, 32, 49, 48, 48, 32, 48, 32, 49, 32, 48, 32, 49, 32, 48, 32, 49, 32, 48, 32, 48, 32, 48, 10, 98, 101, 97, 114, 101, 114, 32, 49, 32, 48, 32, 48, 32, 54, 32, 51, 32, 54, 32, 49, 32, 57, 32, 51, 32, 48, 32, 57, 32, 48, 32, 48, 32, 48, 32, 48, 10, 112, 97, 99, 107, 101, 116, 32, 48, 32, 48, 32, 48, 32, 48, 32, 48, 49, 102, 102, 10]
def D0 : DocS := ⟨[0, 1, 9, 2, 2, 3, 1, 1, 0], [5, 5, 5], [0, 0, 1], [0, 0], [[0, 0, 0, 50, 0]], [⟨[0, 0, 100, 0, 1, 0, 1, 0, 1, 0, 0, 0], [[1, 0, 0, 6, 3, 6, 1, 9, 3, 0, 9, 0, 0, 0, 0]]⟩], [([0, 0, 0, 0], [1, 255])]⟩
theorem dig1 {u : Nat} (h : u < 10) : itoa (u : Int) = [UInt8.ofNat (48 + u)] := by
  have := decDigits_small h
  simp [itoa, this]
theorem itoa_1 : itoa 1 = [49] := dig1 (u := 1) (by omega)
theorem itoa_2 : itoa 2 = [50] := dig1 (u := 2) (by omega)
theorem itoa_3 : itoa 3 = [51] := dig1 (u := 3) (by omega)
theorem itoa_5 : itoa 5 = [53] := dig1 (u := 5) (by omega)
theorem itoa_6 : itoa 6 = [54] := dig1 (u := 6) (by omega)
theorem itoa_9 : itoa 9 = [57] := dig1 (u := 9) (by omega)
theorem dec_50 : Lib.decDigits 50 = [53, 48] := by rw [decDigits_big (by omega), decDigits_small (by omega)]; rfl
theorem dec_100 : Lib.decDigits 100 = [49, 48, 48] := by rw [decDigits_big (by omega), decDigits_big (by omega), decDigits_small (by omega)]; rfl
theorem itoa_50 : itoa 50 = [53, 48] := by simp [itoa, dec_50]
theorem itoa_100 : itoa 100 = [49, 48, 48] := by simp [itoa, dec_100]
theorem plain_text : catL (textS D0) = plainL := by
  simp only [textS, D0, lineS, List.map_cons, List.map_nil, itoa_0, itoa_1, itoa_2, itoa_3, itoa_5, itoa_6, itoa_9, itoa_50, itoa_100, List.flatMap_cons, List.flatMap_nil, termS, pktS]
  rfl
theorem D0_form : DocF D0 := ⟨rfl, rfl, rfl, rfl, by decide, fun x hx => by rw [List.mem_singleton.1 hx]; exact ⟨rfl, by decide⟩, fun x hx => by rw [List.mem_singleton.1 hx]; exact ⟨rfl, by decide⟩⟩
theorem D0_small : DocN D0 := by
  refine ⟨?_, ?_, ?_, ?_, ?_, fun x hx => ?_, fun x hx => ?_⟩
  · unfold SmL smallI; decide
  · unfold SmL smallI; decide
  · unfold SmL smallI; decide
  · unfold SmL smallI; decide
  · unfold SmL smallI; decide
  · rw [List.mem_singleton.1 hx]; unfold SmL smallI; decide
  · rw [List.mem_singleton.1 hx]; unfold SmL smallI; decide
theorem D0_good : chkD D0 = 0 := by kernel_rfl
theorem plain_parse : parseP chkD 66 plainL = (0, 0, some D0) := by
  rw [← plain_text, parse_text D0_form D0_small, D0_good, if_pos rfl]
set_option maxRecDepth 100000 in
theorem plain17 (w : World) (G : Gl w) : Calls Tryz.prog 17 #[.string (bs plainL)] w (ParsePost w (0, 0, some D0)) := by
  have k := parse17 (bs plainL) (by rw [bs_size]; decide) w G
  rw [bs_toList, plain_parse] at k
  exact k
set_option maxRecDepth 100000 in
set_option maxHeartbeats 4000000 in
theorem awake8 (w : World) (G : Gl w) : Calls Tryz.prog 8 #[] w fun e w' => e = .returned (.bool true) ∧ Below w.heap.size w w' := by
  have HG := Lib.hid G
  have K17 := Lib.hid (plain17 w G)
  clear G
  go_enter Tryz.func8, Tryz.ntmps8
  go_wp2_with (go_at_call 17; refine K17.out.mono ?_; rintro e w1 ⟨c, X, T, a, n, cc, Q, rfl, hcf, htr, hle, hD, h15, hkb, hb1⟩; refine Hid.out ?_)
  refine Lib.hid ?_
  clear K17
  have hn1 : n = 1 := by
    have := congrArg (fun D => D.pkts.length) hD
    simpa [docOf, D0] using this
  have ht1 : c.tn = 1 := by
    have := congrArg (fun D => D.terms.length) hD
    simpa [docOf, D0] using this
  subst hn1
  have HT1 := Lib.hid ht1
  have hcv : cfv c = .agg (cfs c).toArray := rfl
  have hst1 : (storeCells ⟨w1.heap.size, 0, none⟩ (cfs c) 0).run Tryz.prog (w1.alloc (.cells #[.int .i64 0, .int .i64 0, .int .i64 0, .int .i64 0, .int .i64 0, .int .i64 0, .int .i64 0, .int .i64 0, .int .i64 0, .int .i64 0, .int .i64 0, .int .i64 0, .int .i64 0, .int .i64 0, .int .i64 0, .int .i64 0, .int .i64 0, .int .i64 0, .slice none 0 0, .slice none 0 0] 37)) = .ok () (w1.alloc (.cells (cfs c).toArray 37)) := run_storeCells_new w1 37 #[.int .i64 0, .int .i64 0, .int .i64 0, .int .i64 0, .int .i64 0, .int .i64 0, .int .i64 0, .int .i64 0, .int .i64 0, .int .i64 0, .int .i64 0, .int .i64 0, .int .i64 0, .int .i64 0, .int .i64 0, .int .i64 0, .int .i64 0, .int .i64 0, .slice none 0 0, .slice none 0 0] (cfs c).toArray (by kernel_rfl) rfl (one_c c)
  have ha1 : Below w1.heap.size w1 (w1.alloc (.cells (cfs c).toArray 37)) := (Below.refl _ _).alloc (Nat.le_refl _) _
  have HA1 := Lib.hid (bthen' hb1 ha1)
  have HR1 := Lib.hid (range_new w1 c)
  have HI := Lib.hid (DocIn.mono ⟨hcf, htr, hle, hD, h15, hkb⟩ ha1)
  clear hcf htr hle hD h15 hkb hb1 ha1 ht1
  rw [hcv]
  go_upto_region 2 with fail
  clear hst1
  generalize w1.alloc (.cells (cfs c).toArray 37) = w2 at *
  generalize w1.heap.size = z at *
  have K16 := fmt16_doc (cc := cc) (HG.out.mono HA1.out) HI.out (fun _ => D0_small) (by rw [plain_text]; decide)
  rw [D0_good, if_pos rfl, plain_text, hcv] at K16
  have K16 := Lib.hid K16
  go_wp2_with (first | (refine wpList_load_midW rfl 37 (.tmp 1) rfl z 0 rfl (cfs c) _ HR1.out Tryz.underlying37 rfl (by kernel_rfl) ?_) | (go_at_call 16; refine K16.out.mono ?_; rintro e w3 ⟨rfl, hb3⟩; refine Hid.out ?_))
  refine Lib.hid ?_
  clear K16
  have hc19 := up hb3 (HR1.out 19 _ rfl)
  rw [Nat.zero_add, HT1.out] at hc19
  have hpl : (plainL == [110, 101, 116, 119, 111, 114, 107, 32, 48, 32, 49, 32, 57, 32, 50, 32, 50, 32, 51, 32, 49, 32, 49, 32, 48, 10, 112, 97, 116, 105, 101, 110, 99, 101, 32, 53, 32, 53, 32, 53, 10, 114, 117, 108, 101, 32, 48, 32, 48, 32, 49, 10, 111, 117, 116, 101, 114, 32, 48, 32, 48, 10, 102, 97, 100, 101, 32, 48, 32, 48, 32, 48, 32, 53, 48, 32, 48, 10, 116, 101, 114, 109, 105, 110, 97, 108, 32, 48, 32, 48, 32, 49, 48, 48, 32, 48, 32, 49, 32, 48, 32, 49, 32, 48, 32, 49, 32, 48, 32, 48, 32, 48, 10, 98, 101, 97, 114, 101, 114, 32, 49, 32, 48, 32, 48, 32, 54, 32, 51, 32, 54, 32, 49, 32, 57, 32, 51, 32, 48, 32, 57, 32, 48, 32, 48, 32, 48, 32, 48, 10, 112, 97, 99, 107, 101, 116, 32, 48, 32, 48, 32, 48, 32, 48, 32, 48, 49, 102, 102, 10]) = true := by unfold plainL; exact beq_self_eq_true _
  have HA3 := Lib.hid (bthen' HA1.out hb3)
  have hbx : Below w3.heap.size w3 ((w3.alloc (.cells #[.int .u8 255] 5)).alloc (.cells #[.int .i64 0, .int .i64 1, .int .i64 0, .int .i64 0, .int .i64 0, .int .i64 0, .slice (some ⟨w3.heap.size, 0, none⟩) 1 1] 64)) := ((Below.refl _ _).alloc (Nat.le_refl _) _).alloc (by simp) _
  have hd5 : ((w3.alloc (.cells #[.int .u8 255] 5)).alloc (.cells #[.int .i64 0, .int .i64 1, .int .i64 0, .int .i64 0, .int .i64 0, .int .i64 0, .slice (some ⟨w3.heap.size, 0, none⟩) 1 1] 64)).heap[w3.heap.size]? = some (.cells #[.int .u8 255] 5 (0, 0)) := by
    rw [Below.heap_alloc _ _ _ (by simp)]
    exact (MapKept.heap_alloc w3 _).1
  have hr5 : ((w3.alloc (.cells #[.int .u8 255] 5)).alloc (.cells #[.int .i64 0, .int .i64 1, .int .i64 0, .int .i64 0, .int .i64 0, .int .i64 0, .slice (some ⟨w3.heap.size, 0, none⟩) 1 1] 64)).heap[w3.heap.size + 1]? = some (.cells #[.int .i64 0, .int .i64 1, .int .i64 0, .int .i64 0, .int .i64 0, .int .i64 0, .slice (some ⟨w3.heap.size, 0, none⟩) 1 1] 64 (0, 0)) := by
    have := (MapKept.heap_alloc (w3.alloc (.cells #[.int .u8 255] 5)) (.cells #[.int .i64 0, .int .i64 1, .int .i64 0, .int .i64 0, .int .i64 0, .int .i64 0, .slice (some ⟨w3.heap.size, 0, none⟩) 1 1] 64)).1
    simpa using this
  have KR := Lib.hid (rep20 (w3.heap.size + 1) w3.heap.size _ (HG.out.mono (bthen' HA3.out hbx)) hr5 hd5)
  have HB5 := Lib.hid (bthen' HA3.out hbx)
  have hrep : (repM 4 ++ [32, 102, 102] ++ [10] == [48, 32, 105, 110, 32, 48, 32, 48, 32, 48, 32, 48, 32, 102, 102, 10]) = true := by decide
  clear hbx hr5 hd5 hb3
  go_wp2_with (go_at_call 20; refine KR.out.mono ?_; rintro e w6 ⟨rfl, hb6⟩)
  go_ret
  exact ⟨rfl, bthen' HB5.out hb6⟩
end Go.Proofs.YtgflfdnajchjaaaGreatDoor
