import Derived.Test.YtgflfdnajchjaaaGreatDoorJT
import Derived.Test.YtgflfdnajchjaaaGreatDoorJB
import Derived.Lib.AppendStr
/- Layer 45: the reference's small functions. -/
namespace Go.Proofs.YtgflfdnajchjaaaGreatDoor
set_option linter.unusedVariables false
set_option linter.unusedSimpArgs false
open Go.RowKit Go.Sort
open Go.Lib (itoa atoiAll decDigits)
open Tm
theorem small91 (n : Int) (w : World) : Calls Tryz.prog 91 #[.int .i64 n] w fun e w' => e = .returned (.bool (decide (-1099511627776 ≤ n ∧ n ≤ 1099511627776))) ∧ w' = w := by
  go_enter Tryz.func91, Tryz.ntmps91
  by_cases h1 : -1099511627776 ≤ n
  · by_cases h2 : n ≤ 1099511627776
    · have e : decide (-1099511627776 ≤ n ∧ n ≤ 1099511627776) = true := decide_eq_true ⟨h1, h2⟩
      rw [e]
      go_wp2
      go_ret
      exact ⟨rfl, rfl⟩
    · have e : decide (-1099511627776 ≤ n ∧ n ≤ 1099511627776) = false := decide_eq_false fun h => h2 h.2
      rw [e]
      go_wp2
      go_ret
      exact ⟨rfl, rfl⟩
  · have e : decide (-1099511627776 ≤ n ∧ n ≤ 1099511627776) = false := decide_eq_false fun h => h1 h.1
    rw [e]
    go_wp2
    go_ret
    exact ⟨rfl, rfl⟩
theorem within45 (n : Int) (w : World) : Calls Tryz.prog 45 #[.int .i64 n] w fun e w' => e = .returned (.bool (inR n)) ∧ w' = w := by
  go_enter Tryz.func45, Tryz.ntmps45
  by_cases h1 : -1048576 ≤ n
  · by_cases h2 : n ≤ 1048576
    · have e : inR n = true := decide_eq_true ⟨h1, h2⟩
      rw [e]
      go_wp2
      go_ret
      exact ⟨rfl, rfl⟩
    · have e : inR n = false := decide_eq_false fun h => h2 h.2
      rw [e]
      go_wp2
      go_ret
      exact ⟨rfl, rfl⟩
  · have e : inR n = false := decide_eq_false fun h => h1 h.1
    rw [e]
    go_wp2
    go_ret
    exact ⟨rfl, rfl⟩
theorem itoa_nat (u : Nat) : itoa (u : Int) = decDigits u := by
  unfold itoa
  simp
theorem conv_at {w : World} {a : Option Addr} {l : List UInt8} (c : Nat) (H : ByAt w a l) : (convert 46 9 (.slice a l.length c)).run Tryz.prog w = .ok (.string (bs l)) w := by
  obtain ⟨b, m, h1, h2⟩ := H
  rcases Nat.eq_zero_or_pos l.length with h0 | h0
  · obtain rfl := List.length_eq_zero_iff.1 h0
    rw [run_convert_bytes_string w 46 9 5 a _ c Tryz.underlying46 Tryz.underlying5 Tryz.underlying9]
    rcases a with _ | a
    · simp [Conv.bytesToString, bs]; rfl
    · rw [List.length_nil, run_bytesToString w a 0 c [] rfl]; rfl
  · obtain rfl := h1 h0
    refine run_convert_bytes_back w 46 9 5 ⟨b, m, none⟩ c l Tryz.underlying46 Tryz.underlying5 Tryz.underlying9 fun j hj => ?_
    rw [Addr.add_mid, h2 j hj, List.getD_eq_getElem?_getD, List.getElem?_eq_getElem hj]
    rfl
theorem conv_one {w : World} {b : Nat} {x : UInt8} (h : w.heap[b]? = some (.cells #[.int .u8 (x.toNat : Int)] 5 (0, 0))) : (convert 46 9 (.slice (some ⟨b, 0, none⟩) 1 1)).run Tryz.prog w = .ok (.string (bs [x])) w :=
  conv_at (l := [x]) 1 ⟨b, 0, fun _ => rfl, fun k hk => by
    obtain rfl : k = 0 := by simp at hk; exact hk
    exact cell_box h rfl⟩
theorem dig_val {d : Nat} (h : d < 10) : (48 : Int) + (d : Int) = ((UInt8.ofNat (48 + d)).toNat : Int) := by
  rw [digit_nat h]; omega
set_option maxRecDepth 100000 in
set_option maxHeartbeats 1000000 in
theorem decD70 (u : Nat) (h10 : u < 10) (w : World) : Calls Tryz.prog 70 #[.int .i64 u] w fun e w' => e = .returned (.string (bs (decDigits u))) ∧ Below w.heap.size w w' := by
  rw [decDigits_small h10]
  obtain ⟨dg, hdg⟩ : ∃ dg, dg = UInt8.ofNat (48 + u) := ⟨_, rfl⟩
  rw [← hdg]
  have hv := dig_val h10
  rw [← hdg] at hv
  clear hdg
  have hcv : (convert 46 9 (.slice (some ⟨w.heap.size, 0, none⟩) 1 1)).run Tryz.prog (w.alloc (.cells #[.int .u8 (48 + (u : Int))] 5)) = .ok (.string (bs [dg])) (w.alloc (.cells #[.int .u8 (48 + (u : Int))] 5)) := conv_one (by rw [← hv]; exact (MapKept.heap_alloc w _).1)
  clear hv
  go_enter Tryz.func70, Tryz.ntmps70
  go_wp2
  go_ret
  exact ⟨rfl, (Below.refl _ _).alloc (Nat.le_refl _) _⟩
set_option maxRecDepth 100000 in
set_option maxHeartbeats 1000000 in
theorem decB70 (u q r : Nat) (dg : UInt8) (A : List UInt8) (h10 : ¬ u < 10) (h64 : u < 9223372036854775808) (hq : IntKind.i64.wrap ((u : Int) / 10) = q) (hr : (u : Int).tmod 10 = r) (hA : A.length ≤ 40) (hr10 : r < 10) (hv : (48 : Int) + r = (dg.toNat : Int)) (ih : ∀ w, Calls Tryz.prog 70 #[.int .i64 q] w fun e w' => e = .returned (.string (bs A)) ∧ Below w.heap.size w w')
    (w : World) : Calls Tryz.prog 70 #[.int .i64 u] w fun e w' => e = .returned (.string (bs (A ++ [dg]))) ∧ Below w.heap.size w w' := by
      have IH := Lib.hid ih
      have HV := Lib.hid hv
      have w5 : IntKind.i64.wrap (48 + (r : Int)) = 48 + r := by rw [IntKind.wrap_i64]; omega
      have w6 : IntKind.u8.wrap (48 + (r : Int)) = 48 + r := by rw [IntKind.wrap_u8]; omega
      have z1 : (bs A).size ≤ 40 := by rw [bs_size]; exact hA
      have z2 : (bs [dg]).size = 1 := rfl
      clear ih hv hA
      go_enter Tryz.func70, Tryz.ntmps70
      go_wp2
      refine wp_region_peelF 0 10 (fun i v u' => match i with
        | 0 => v = .int .i64 u
        | 1 => v = .int .i64 q
        | 2 => v = .string (bs (A))
        | 3 => v = .int .i64 u
        | 4 => v = .int .i64 r
        | 5 => v = .int .i64 (48 + r)
        | 6 => v = .int .u8 (48 + r)
        | 7 => ∃ b, v = .slice (some ⟨b, 0, none⟩) 1 1 ∧ u'.heap[b]? = some (.cells #[.int .u8 (48 + r)] 5 (0, 0))
        | 8 => v = .string (bs [dg])
        | 9 => v = .string (bs (A ++ [dg]))
        | _ => True) (by kernel_rfl) (by kernel_rfl) rfl (fun _ _ d _ _ h => by cases d <;> exact h) ?_ ?_ ?_
      · intro i v w1 w2 hb h
        match i with
        | 0 => exact h
        | 1 => exact h
        | 2 => exact h
        | 3 => exact h
        | 4 => exact h
        | 5 => exact h
        | 6 => exact h
        | 7 =>
          obtain ⟨b, e1, e2⟩ := h
          exact ⟨b, e1, (hb.block b (heap_lt e2)).trans e2⟩
        | 8 => exact h
        | 9 => exact h
        | n + 10 => exact h
      · intro i o hp hi ho vf w1 hb hd
        have hi' : i = 0 ∨ i = 1 ∨ i = 2 ∨ i = 3 ∨ i = 4 ∨ i = 5 ∨ i = 6 ∨ i = 7 ∨ i = 8 ∨ i = 9 := by omega
        rcases hi' with rfl | rfl | rfl | rfl | rfl | rfl | rfl | rfl | rfl | rfl
        · obtain rfl := Option.some.inj ho
          clear hd
          simp only [fillA, List.take_succ_cons, List.take_zero, List.drop_succ_cons, List.drop_zero]
          go_wp2
          exact ⟨rfl, Below.refl _ _, rfl⟩
        · obtain rfl := Option.some.inj ho
          have f0 := hd 0 (by omega) (by omega) (by kernel_rfl)
          clear hd
          simp only [fillA, List.take_succ_cons, List.take_zero, List.drop_succ_cons, List.drop_zero]
          go_wp2
          exact ⟨rfl, Below.refl _ _, rfl⟩
        · obtain rfl := Option.some.inj ho
          have f0 := hd 1 (by omega) (by omega) (by kernel_rfl)
          clear hd
          simp only [fillA, List.take_succ_cons, List.take_zero, List.drop_succ_cons, List.drop_zero, Nat.zero_add, Nat.reduceAdd]
          generalize vf 1 = v1 at *
          subst f0
          go_wp2_with (go_at_call 70; refine (IH.out _).mono ?_; rintro e w3 ⟨rfl, hb3⟩)
          exact ⟨rfl, hb3, rfl⟩
        · obtain rfl := Option.some.inj ho
          clear hd
          simp only [fillA, List.take_succ_cons, List.take_zero, List.drop_succ_cons, List.drop_zero]
          go_wp2
          exact ⟨rfl, Below.refl _ _, rfl⟩
        · obtain rfl := Option.some.inj ho
          have f0 := hd 3 (by omega) (by omega) (by kernel_rfl)
          clear hd
          simp only [fillA, List.take_succ_cons, List.take_zero, List.drop_succ_cons, List.drop_zero]
          go_wp2
          exact ⟨rfl, Below.refl _ _, rfl⟩
        · obtain rfl := Option.some.inj ho
          have f0 := hd 4 (by omega) (by omega) (by kernel_rfl)
          clear hd
          simp only [fillA, List.take_succ_cons, List.take_zero, List.drop_succ_cons, List.drop_zero]
          go_wp2
          exact ⟨rfl, Below.refl _ _, rfl⟩
        · obtain rfl := Option.some.inj ho
          have f0 := hd 5 (by omega) (by omega) (by kernel_rfl)
          clear hd
          simp only [fillA, List.take_succ_cons, List.take_zero, List.drop_succ_cons, List.drop_zero]
          go_wp2
          exact ⟨rfl, Below.refl _ _, rfl⟩
        · obtain rfl := Option.some.inj ho
          have f0 := hd 6 (by omega) (by omega) (by kernel_rfl)
          clear hd
          simp only [fillA, List.take_succ_cons, List.take_zero, List.drop_succ_cons, List.drop_zero]
          go_wp2
          exact ⟨rfl, (Below.refl _ _).alloc (Nat.le_refl _) _, _, rfl, (MapKept.heap_alloc w1 _).1⟩
        · obtain rfl := Option.some.inj ho
          obtain ⟨b, f0, f1⟩ := hd 7 (by omega) (by omega) (by kernel_rfl)
          clear hd
          have hcv := conv_one (x := dg) (by rw [← HV.out]; exact f1)
          simp only [fillA, List.take_succ_cons, List.take_zero, List.drop_succ_cons, List.drop_zero]
          go_wp2
          exact ⟨rfl, Below.refl _ _, rfl⟩
        · obtain rfl := Option.some.inj ho
          have f0 := hd 2 (by omega) (by omega) (by kernel_rfl)
          have f1 := hd 8 (by omega) (by omega) (by kernel_rfl)
          clear hd
          simp only [fillA, List.take_succ_cons, List.take_zero, List.drop_succ_cons, List.drop_zero]
          go_wp2
          exact ⟨rfl, Below.refl _ _, by rw [← bs_add]; rfl⟩
      · intro vf w1 hb h
        have f9 := h 9 (by omega) (by omega)
        clear h
        simp only [fillA, List.take_succ_cons, List.take_zero, List.drop_succ_cons, List.drop_zero]
        go_wp2
        go_ret
        exact ⟨rfl, hb⟩
theorem decDigits_len20 {u : Nat} (h : u < 9223372036854775808) : (decDigits u).length ≤ 19 := decDigits_len 18 u (by omega)
theorem decN70 : ∀ (m u : Nat), u ≤ m → u < 9223372036854775808 → ∀ w, Calls Tryz.prog 70 #[.int .i64 u] w fun e w' => e = .returned (.string (bs (decDigits u))) ∧ Below w.heap.size w w' := by
  intro m
  induction m with
  | zero =>
    intro u hu h64 w
    exact decD70 u (by omega) w
  | succ m ih =>
    intro u hu h64 w
    by_cases h10 : u < 10
    · exact decD70 u h10 w
    · rw [decDigits_big h10]
      refine decB70 u (u / 10) (u % 10) _ _ h10 h64 ?_ ?_ ?_ (by omega) (dig_val (Nat.mod_lt _ (by decide))) (ih (u / 10) (by omega) (by omega)) w
      · rw [IntKind.wrap_i64]; omega
      · exact (Int.ofNat_tmod u 10).symm
      · have := decDigits_len20 (u := u / 10) (by omega); omega
set_option maxRecDepth 100000 in
set_option maxHeartbeats 1000000 in
theorem dec70 (n : Int) (h0 : -9223372036854775808 < n) (h1 : n ≤ 9223372036854775807) (w : World) : Calls Tryz.prog 70 #[.int .i64 n] w fun e w' => e = .returned (.string (bs (itoa n))) ∧ Below w.heap.size w w' := by
  by_cases hn : n < 0
  · have e1 : itoa n = [45] ++ decDigits n.natAbs := by unfold itoa; rw [if_pos hn]; rfl
    rw [e1]
    have K := decN70 n.natAbs n.natAbs (Nat.le_refl _) (by omega)
    have e2 : ((n.natAbs : Nat) : Int) = -n := by omega
    rw [e2] at K
    have KH := Lib.hid K
    have z1 : (bs (decDigits n.natAbs)).size ≤ 19 := by rw [bs_size]; exact decDigits_len20 (by omega)
    have ha : (⟨#[45]⟩ : ByteArray) ++ bs (decDigits n.natAbs) = bs ([45] ++ decDigits n.natAbs) := by rw [← bs_add]; rfl
    clear K e1 e2
    generalize decDigits n.natAbs = A at *
    have hw : IntKind.i64.wrap (-n) = -n := by rw [IntKind.wrap_i64]; omega
    go_enter Tryz.func70, Tryz.ntmps70
    go_wp2_with (go_at_call 70; refine (KH.out _).mono ?_; rintro e w3 ⟨rfl, hb3⟩)
    go_ret
    exact ⟨rfl, hb3⟩
  · have K := decN70 n.toNat n.toNat (Nat.le_refl _) (by omega) w
    have e2 : ((n.toNat : Nat) : Int) = n := by omega
    rw [e2] at K
    have e1 : itoa n = decDigits n.toNat := by unfold itoa; rw [if_neg hn]
    rw [e1]
    exact K
end Go.Proofs.YtgflfdnajchjaaaGreatDoor
/- Layer 45: bytes are put to a row of bytes; the reference's hexadecimal digits, the numbers of a report. -/
namespace Go.Proofs.YtgflfdnajchjaaaGreatDoor
set_option linter.unusedVariables false
set_option linter.unusedSimpArgs false
open Go.RowKit Go.Sort
open Go.Lib (itoa atoiAll decDigits)
open Tm
theorem u8v_cells (l : List UInt8) : (List.range l.length).map (u8v l) = Lib.byteCells l := by
  unfold Lib.byteCells u8v
  refine List.ext_getElem? fun k => ?_
  rw [List.getElem?_map, List.getElem?_map]
  by_cases hk : k < l.length
  · rw [List.getElem?_range hk, List.getElem?_eq_getElem hk]
    simp [List.getD_eq_getElem?_getD, List.getElem?_eq_getElem hk]
  · rw [List.getElem?_eq_none (by simp; omega), List.getElem?_eq_none (by omega)]
    rfl
theorem ownU_cells {w : World} {B : Nat} {v : Value} {l : List UInt8} (h : OwnU w B v l) : w.ownsRow B 5 1 v l.length (Lib.byteCells l) := by
  unfold OwnU at h
  rwa [u8v_cells] at h
theorem ownU_of {w : World} {B : Nat} {v : Value} {l : List UInt8} (h : w.ownsRow B 5 1 v l.length (Lib.byteCells l)) : OwnU w B v l := by
  unfold OwnU
  rwa [u8v_cells]
theorem OwnU.slice {w : World} {B : Nat} {v : Value} {l : List UInt8} (h : OwnU w B v l) : ∃ a c, v = .slice a l.length c ∧ l.length ≤ c ∧ ByAt w a l := by
  unfold OwnU at h
  obtain ⟨a, c, rfl, h1, h2, -⟩ := own_slice h
  exact ⟨a, c, rfl, h1, (OwnU.byAt (l := l) (by unfold OwnU; exact h)).1⟩
theorem info5 : ∃ i, Tryz.prog.info? 5 = some i ∧ i.zero = some (.int .u8 0) ∧ i.size = 1 ∧ i.bytes = 1 := info_split pz5
section
variable {ops : Array Oper} {rest : List Oper} {o : Oper} {a : Act} {Q : Exit → Act → World → Prop}
theorem wpB_slice (w W0 : World) (base : Nat) (hgd : o.guard = none) (s x : Operand) (ho : o.op = .call { callee := .builtin .append, args := #[s, x], argTypes := #[46, 46] })
    (v : Value) (l : List UInt8) (hs : a.eval s = v) (hown : OwnU w base v l) (ns : List UInt8) (b c : Nat) (hx : a.eval x = .slice (some ⟨b, 0, none⟩) ns.length c) (hc : ∀ k, k < ns.length → w.cell? ⟨b, k, none⟩ = some (.int .u8 ((ns.getD k 0).toNat : Int)))
    (hlen : l.length + ns.length ≤ 100000000) (hbase : base ≤ w.heap.size) (hB : Below base W0 w)
    (h : ∀ v' w', OwnU w' base v' (l ++ ns) → Below base W0 w' → base ≤ w'.heap.size → wpList Tryz.prog ops Q rest (a.put o.dst v') w') : wpList Tryz.prog ops Q (o :: rest) a w := by
  obtain ⟨i, hi1, hz, hsz, hby⟩ := info5
  refine wpList_append_own_at _ hgd s x 46 ho base 5 i (.int .u8 0) 1 1 Tryz.underlying46 hi1 hz hsz hby rfl (by omega) v l.length _ hs (ownU_cells hown) ⟨b, 0, none⟩ ns.length c (Lib.byteCells ns) hx (by simp [Lib.byteCells]) (fun j u hj => ?_) (fun u hu => ?_) (by unfold maxLen; omega) (by omega) hbase ?_
  · rw [Addr.add_mid, Nat.zero_add]
    have hjl : j < ns.length := by
      have := (List.getElem?_eq_some_iff.1 hj).1
      simpa [Lib.byteCells] using this
    rw [hc j hjl, ← hj, List.getD_eq_getElem?_getD, Lib.byteCells, List.getElem?_map, List.getElem?_eq_getElem hjl]
    rfl
  · obtain ⟨y, -, rfl⟩ := List.mem_map.1 hu
    rfl
  · intro v' w' h2 h3 _ h5
    refine h v' w' (ownU_of ?_) (hB.grown h3 hbase fun k hk => ((ownU_cells hown).lt k hk).1) (Nat.le_trans hbase h3.size)
    rw [List.length_append]
    have : Lib.byteCells (l ++ ns) = Lib.byteCells l ++ Lib.byteCells ns := by simp [Lib.byteCells]
    rw [this]
    exact h2
theorem wpB_str (w W0 : World) (base : Nat) (hgd : o.guard = none) (s x : Operand) (ho : o.op = .call { callee := .builtin .append, args := #[s, x], argTypes := #[46, 9] })
    (v : Value) (l : List UInt8) (hs : a.eval s = v) (hown : OwnU w base v l) (ns : List UInt8) (hx : a.eval x = .string (bs ns))
    (hlen : l.length + ns.length ≤ 100000000) (hbase : base ≤ w.heap.size) (hB : Below base W0 w)
    (h : ∀ v' w', OwnU w' base v' (l ++ ns) → Below base W0 w' → base ≤ w'.heap.size → wpList Tryz.prog ops Q rest (a.put o.dst v') w') : wpList Tryz.prog ops Q (o :: rest) a w := by
  obtain ⟨i, hi1, hz, hsz, hby⟩ := info5
  have hsn : (bs ns).size = ns.length := bs_size ns
  refine Lib.wpList_append_own_string _ hgd s x 46 9 ho base 5 i Tryz.underlying46 Tryz.underlying9 hi1 hz hsz hby v l.length _ hs (ownU_cells hown) (bs ns) hx (by rw [hsn]; unfold maxLen; omega) (by rw [hsn]; omega) hbase ?_
  intro v' w' h2 h3 _
  refine h v' w' (ownU_of ?_) (hB.grown h3 hbase fun k hk => ((ownU_cells hown).lt k hk).1) (Nat.le_trans hbase h3.size)
  rw [List.length_append]
  have e : Lib.byteCells (l ++ ns) = Lib.byteCells l ++ Lib.strCells (bs ns) := by simp [Lib.byteCells, Lib.strCells, bs]
  rw [e, ← hsn]
  exact h2
end
theorem dec42 (n : Int) (h0 : -9223372036854775808 ≤ n) (h1 : n ≤ 9223372036854775807) (w : World) (G : Gl w) : Calls Tryz.prog 42 #[.int .i64 n] w fun e w' => e = .returned (.string (bs (itoa (if -1099511627776 ≤ n ∧ n ≤ 1099511627776 then n else 0)))) ∧ Below w.heap.size w w' := by
  by_cases hn : -1099511627776 ≤ n ∧ n ≤ 1099511627776
  · rw [if_pos hn]
    have hn1 := hn.1
    have hn2 := hn.2
    have K := Lib.hid (itoa52 n h0 h1 w G)
    clear hn
    go_enter Tryz.func42, Tryz.ntmps42
    go_wp2_with (go_at_call 52; refine K.out.mono ?_; rintro e w3 ⟨rfl, hb3⟩)
    go_ret
    exact ⟨rfl, hb3⟩
  · rw [if_neg hn]
    have K := Lib.hid (itoa52 0 (by omega) (by omega) w G)
    have hx : n < -1099511627776 ∨ 1099511627776 < n := by omega
    clear hn
    rcases hx with hx | hx
    · go_enter Tryz.func42, Tryz.ntmps42
      go_wp2_with (go_at_call 52; refine K.out.mono ?_; rintro e w3 ⟨rfl, hb3⟩)
      go_ret
      exact ⟨rfl, hb3⟩
    · go_enter Tryz.func42, Tryz.ntmps42
      go_wp2_with (go_at_call 52; refine K.out.mono ?_; rintro e w3 ⟨rfl, hb3⟩)
      go_ret
      exact ⟨rfl, hb3⟩
end Go.Proofs.YtgflfdnajchjaaaGreatDoor
/- Layer 45: the reference's hexadecimal digits. -/
namespace Go.Proofs.YtgflfdnajchjaaaGreatDoor
set_option linter.unusedVariables false
set_option linter.unusedSimpArgs false
open Go.RowKit Go.Sort
open Go.Lib (itoa atoiAll decDigits)
open Tm
set_option maxRecDepth 100000 in
theorem and15 : ∀ x : Nat, x < 256 → bits .and .u8 (x : Int) 15 = (x : Int) % 16 := by decide
set_option maxRecDepth 100000 in
set_option maxHeartbeats 2000000 in
theorem hex47 (a : Option Addr) (c : Nat) (l : List UInt8) (w : World) (H : ByAt w a l) (hl : l.length ≤ 1000000) :
    Calls Tryz.prog 47 #[.slice a l.length c] w fun e w' => e = .returned (.string (bs (hexS l))) ∧ Below w.heap.size w w' := by
  have HH := Lib.hid H
  clear H
  go_enter Tryz.func47, Tryz.ntmps47
  go_wp2
  go_loopw [3, 4] (fun rv i wr => ∃ (j : Nat) (rv0 : Value), j ≤ l.length ∧ rv0 = rv ∧ i = .int .i64 j ∧ OwnU wr w.heap.size rv (hexS (l.take j)) ∧ Below w.heap.size w wr) (fun _ i _ => l.length - (intOf i).toNat)
  case atStart => exact ⟨0, _, Nat.zero_le _, rfl, rfl, World.ownsRow_nil _ _ _ _, Below.refl _ w⟩
  case round =>
    obtain ⟨j, rv, hj, rfl, rfl, hown, hbr⟩ := hrel
    have HO := Lib.hid hown
    have HR := Lib.hid hbr
    clear hown hbr
    by_cases hlt : j < l.length
    · obtain ⟨b, m, h1, h2⟩ := HH.out.mono HR.out
      obtain rfl := h1 (by omega)
      have hc := h2 j hlt
      have HX := Lib.hid (show hexS (l.take (j + 1)) = hexS (l.take j) ++ [hexD ((l.getD j 0).toNat / 16), hexD ((l.getD j 0).toNat % 16)] by
        rw [List.take_succ_eq_append_getElem hlt, hexS_append, List.getD_eq_getElem?_getD, List.getElem?_eq_getElem hlt]
        simp [hexS])
      have hx := (l.getD j 0).toNat_lt
      have hlen := hexS_len (l.take j)
      rw [List.length_take] at hlen
      have HL := Lib.hid (show (hexS (l.take j)).length + 2 ≤ 100000000 by omega)
      clear h1 h2 hlen
      generalize (l.getD j 0).toNat = x at *
      have hand : bits .and .u8 (x : Int) 15 = (x : Int) % 16 := and15 x hx
      have hi1 := fun wx => run_index_dig wx (x / 16) (by omega) ((x : Int) / 16) (by omega)
      have hi2 := fun wx => run_index_dig wx (x % 16) (by omega) ((x : Int) % 16) (by omega)
      go_wp2
      refine wp_region_peelF 0 14 (fun i v u => match i with
        | 0 => v = rv
        | 1 => v = .slice (some ⟨b, m, none⟩) l.length c
        | 2 => v = .int .i64 j
        | 3 => v = .pointer (some ⟨b, m + j, none⟩)
        | 4 => v = .int .u8 x
        | 5 => v = .int .u8 ((x : Int) / 16)
        | 6 => v = .int .u8 ((hexD (x / 16)).toNat : Int)
        | 7 => v = .slice (some ⟨b, m, none⟩) l.length c
        | 8 => v = .int .i64 j
        | 9 => v = .pointer (some ⟨b, m + j, none⟩)
        | 10 => v = .int .u8 x
        | 11 => v = .int .u8 ((x : Int) % 16)
        | 12 => v = .int .u8 ((hexD (x % 16)).toNat : Int)
        | 13 => ∃ b0, v = .slice (some ⟨b0, 0, none⟩) 2 2 ∧ u.heap[b0]? = some (.cells #[.int .u8 ((hexD (x / 16)).toNat : Int), .int .u8 ((hexD (x % 16)).toNat : Int)] 5 (0, 0))
        | _ => True) (by kernel_rfl) (by kernel_rfl) rfl (fun _ _ d _ _ h => by cases d <;> exact h) ?_ ?_ ?_
      · intro i v w1 w2 hb h
        match i with
        | 0 => exact h
        | 1 => exact h
        | 2 => exact h
        | 3 => exact h
        | 4 => exact h
        | 5 => exact h
        | 6 => exact h
        | 7 => exact h
        | 8 => exact h
        | 9 => exact h
        | 10 => exact h
        | 11 => exact h
        | 12 => exact h
        | 13 =>
          obtain ⟨b0, e1, e2⟩ := h
          exact ⟨b0, e1, (hb.block b0 (heap_lt e2)).trans e2⟩
        | k + 14 => exact h
      · intro i o hp hi ho vf u1 hb hd
        have hi' : i = 0 ∨ i = 1 ∨ i = 2 ∨ i = 3 ∨ i = 4 ∨ i = 5 ∨ i = 6 ∨ i = 7 ∨ i = 8 ∨ i = 9 ∨ i = 10 ∨ i = 11 ∨ i = 12 ∨ i = 13 := by omega
        rcases hi' with rfl | rfl | rfl | rfl | rfl | rfl | rfl | rfl | rfl | rfl | rfl | rfl | rfl | rfl
        · obtain rfl := Option.some.inj ho
          clear hd
          simp only [fillA, List.take_succ_cons, List.take_zero, List.drop_succ_cons, List.drop_zero, Nat.zero_add, Nat.reduceAdd]
          go_wp2
          exact ⟨rfl, Below.refl _ _, rfl⟩
        · obtain rfl := Option.some.inj ho
          clear hd
          simp only [fillA, List.take_succ_cons, List.take_zero, List.drop_succ_cons, List.drop_zero, Nat.zero_add, Nat.reduceAdd]
          go_wp2
          exact ⟨rfl, Below.refl _ _, rfl⟩
        · obtain rfl := Option.some.inj ho
          clear hd
          simp only [fillA, List.take_succ_cons, List.take_zero, List.drop_succ_cons, List.drop_zero, Nat.zero_add, Nat.reduceAdd]
          go_wp2
          exact ⟨rfl, Below.refl _ _, rfl⟩
        · obtain rfl := Option.some.inj ho
          have f1 := hd 1 (by omega) (by omega) (by kernel_rfl)
          have f2 := hd 2 (by omega) (by omega) (by kernel_rfl)
          clear hd
          simp only [fillA, List.take_succ_cons, List.take_zero, List.drop_succ_cons, List.drop_zero, Nat.zero_add, Nat.reduceAdd]
          go_wp2
          exact ⟨rfl, Below.refl _ _, rfl⟩
        · obtain rfl := Option.some.inj ho
          have f3 := hd 3 (by omega) (by omega) (by kernel_rfl)
          clear hd
          have hcc := (hb.cell (World.block_lt_of_cell? _ _ hc)).trans hc
          simp only [fillA, List.take_succ_cons, List.take_zero, List.drop_succ_cons, List.drop_zero, Nat.zero_add, Nat.reduceAdd]
          go_wp2
          exact ⟨rfl, Below.refl _ _, rfl⟩
        · obtain rfl := Option.some.inj ho
          have f4 := hd 4 (by omega) (by omega) (by kernel_rfl)
          clear hd
          simp only [fillA, List.take_succ_cons, List.take_zero, List.drop_succ_cons, List.drop_zero, Nat.zero_add, Nat.reduceAdd]
          go_wp2
          exact ⟨rfl, Below.refl _ _, rfl⟩
        · obtain rfl := Option.some.inj ho
          have f5 := hd 5 (by omega) (by omega) (by kernel_rfl)
          clear hd
          simp only [fillA, List.take_succ_cons, List.take_zero, List.drop_succ_cons, List.drop_zero, Nat.zero_add, Nat.reduceAdd]
          go_wp2
          exact ⟨rfl, Below.refl _ _, rfl⟩
        · obtain rfl := Option.some.inj ho
          clear hd
          simp only [fillA, List.take_succ_cons, List.take_zero, List.drop_succ_cons, List.drop_zero, Nat.zero_add, Nat.reduceAdd]
          go_wp2
          exact ⟨rfl, Below.refl _ _, rfl⟩
        · obtain rfl := Option.some.inj ho
          clear hd
          simp only [fillA, List.take_succ_cons, List.take_zero, List.drop_succ_cons, List.drop_zero, Nat.zero_add, Nat.reduceAdd]
          go_wp2
          exact ⟨rfl, Below.refl _ _, rfl⟩
        · obtain rfl := Option.some.inj ho
          have f7 := hd 7 (by omega) (by omega) (by kernel_rfl)
          have f8 := hd 8 (by omega) (by omega) (by kernel_rfl)
          clear hd
          simp only [fillA, List.take_succ_cons, List.take_zero, List.drop_succ_cons, List.drop_zero, Nat.zero_add, Nat.reduceAdd]
          go_wp2
          exact ⟨rfl, Below.refl _ _, rfl⟩
        · obtain rfl := Option.some.inj ho
          have f9 := hd 9 (by omega) (by omega) (by kernel_rfl)
          clear hd
          have hcc := (hb.cell (World.block_lt_of_cell? _ _ hc)).trans hc
          simp only [fillA, List.take_succ_cons, List.take_zero, List.drop_succ_cons, List.drop_zero, Nat.zero_add, Nat.reduceAdd]
          go_wp2
          exact ⟨rfl, Below.refl _ _, rfl⟩
        · obtain rfl := Option.some.inj ho
          have f10 := hd 10 (by omega) (by omega) (by kernel_rfl)
          clear hd
          simp only [fillA, List.take_succ_cons, List.take_zero, List.drop_succ_cons, List.drop_zero, Nat.zero_add, Nat.reduceAdd]
          go_wp2
          exact ⟨rfl, Below.refl _ _, rfl⟩
        · obtain rfl := Option.some.inj ho
          have f11 := hd 11 (by omega) (by omega) (by kernel_rfl)
          clear hd
          simp only [fillA, List.take_succ_cons, List.take_zero, List.drop_succ_cons, List.drop_zero, Nat.zero_add, Nat.reduceAdd]
          go_wp2
          exact ⟨rfl, Below.refl _ _, rfl⟩
        · obtain rfl := Option.some.inj ho
          have f6 := hd 6 (by omega) (by omega) (by kernel_rfl)
          have f12 := hd 12 (by omega) (by omega) (by kernel_rfl)
          clear hd
          simp only [fillA, List.take_succ_cons, List.take_zero, List.drop_succ_cons, List.drop_zero, Nat.zero_add, Nat.reduceAdd]
          go_wp2
          exact ⟨rfl, (Below.refl _ _).alloc (Nat.le_refl _) _, _, rfl, (MapKept.heap_alloc u1 _).1⟩
      · intro vf u1 hb hd
        have f0 := hd 0 (by omega) (by omega)
        obtain ⟨b0, f13, g13⟩ := hd 13 (by omega) (by omega)
        clear hd
        have HBu := Lib.hid (HR.out.trans (hb.mono HR.out.size))
        have HOu := Lib.hid (own_below HO.out hb)
        have hn := HBu.out.size
        have HG13 := Lib.hid g13
        clear g13
        have HCs := Lib.hid (show ∀ k, k < [hexD (x / 16), hexD (x % 16)].length → u1.cell? ⟨b0, k, none⟩ = some (.int .u8 (([hexD (x / 16), hexD (x % 16)].getD k 0).toNat : Int)) from fun k hk => by
          have g13 := HG13.out
          have : k = 0 ∨ k = 1 := by (simp at hk; omega)
          rcases this with rfl | rfl
          · exact cell_box g13 rfl
          · exact cell_box g13 rfl)
        simp only [fillA, List.take_succ_cons, List.take_zero, List.drop_succ_cons, List.drop_zero, Nat.zero_add, Nat.reduceAdd, Act.put, List.setIfInBounds_toArray, List.set_cons_succ, List.set_cons_zero]
        generalize vf 0 = v0 at *
        subst f0
        generalize vf 13 = v13 at *
        subst f13
        go_wp2_with (at_builtin; refine wpB_slice u1 w w.heap.size rfl _ _ rfl v0 (hexS (l.take j)) rfl HOu.out [hexD (x / 16), hexD (x % 16)] b0 2 rfl HCs.out HL.out HBu.out.size HBu.out ?_; intro v1 w1 ho1 hb1 hs1; refine Hid.out ?_)
        refine Lib.hid ?_
        rw [← HX.out] at ho1
        have HO1 := Lib.hid ho1
        have HB1 := Lib.hid hb1
        clear ho1 hb1 hs1
        go_wp2
        go_roundw
        case rel => exact ⟨j + 1, _, by omega, rfl, by go_num, HO1.out, HB1.out⟩
        case measure => simp [intOf]; omega
    · obtain rfl : j = l.length := by omega
      have HT := Lib.hid (show l.take l.length = l from List.take_length)
      rw [HT.out] at HO
      obtain ⟨a', c', rfl, -, hby⟩ := HO.out.slice
      have hcv := conv_at c' hby
      clear hby HO
      go_wp2
      go_ret
      exact ⟨rfl, HR.out⟩
end Go.Proofs.YtgflfdnajchjaaaGreatDoor
/- Layer 45: the reference's lines, and texts cut at a byte. -/
namespace Go.Proofs.YtgflfdnajchjaaaGreatDoor
set_option linter.unusedVariables false
set_option linter.unusedSimpArgs false
open Go.RowKit Go.Sort
open Go.Lib (itoa atoiAll decDigits)
open Tm
/-- Numbers in a row. -/
def NumsAt (w : World) (b : Nat) (ns : List Int) : Prop := ∀ k, k < ns.length → w.cell? ⟨b, k, none⟩ = some (.int .i64 (ns.getD k 0))
theorem NumsAt.mono {W w : World} {b : Nat} {ns : List Int} (H : NumsAt W b ns) (hb : Below W.heap.size W w) : NumsAt w b ns := fun k hk => up hb (H k hk)
set_option maxRecDepth 100000 in
set_option maxHeartbeats 1000000 in
theorem line46 (wd : List UInt8) (hwd : wd.length ≤ 8) (b : Nat) (ns : List Int) (c : Nat) (w : World) (HN : NumsAt w b ns) (hns : ∀ k, k < ns.length → -9223372036854775808 < ns.getD k 0 ∧ ns.getD k 0 ≤ 9223372036854775807) (hn : ns.length ≤ 100) :
    Calls Tryz.prog 46 #[.string (bs wd), .slice (some ⟨b, 0, none⟩) ns.length c] w fun e w' => e = .returned (.string (bs (lineS wd ns))) ∧ Below w.heap.size w w' := by
  have HN' := Lib.hid HN
  have HS := Lib.hid hns
  have h0 : bs wd = bs (lineS wd (ns.take 0)) := rfl
  clear HN hns
  go_enter Tryz.func46, Tryz.ntmps46
  go_wp2
  go_loopw [0, 5] (fun out i wr => ∃ j : Nat, j ≤ ns.length ∧ i = .int .i64 j ∧ out = .string (bs (lineS wd (ns.take j))) ∧ Below w.heap.size w wr) (fun _ i _ => ns.length - (intOf i).toNat)
  case atStart => exact ⟨0, Nat.zero_le _, rfl, rfl, Below.refl _ _⟩
  case round =>
    obtain ⟨j, hj, rfl, rfl, hbr⟩ := hrel
    have HR := Lib.hid hbr
    clear hbr
    by_cases hlt : j < ns.length
    · have hc2 := (HN'.out.mono HR.out) j hlt
      have h64 := HS.out j hlt
      have hg : ns.getD j 0 = ns[j] := by rw [List.getD_eq_getElem?_getD, List.getElem?_eq_getElem hlt]; rfl
      have HT := Lib.hid (show bs (lineS wd (ns.take j)) ++ ⟨#[32]⟩ ++ bs (itoa (ns.getD j 0)) = bs (lineS wd (ns.take (j + 1))) by
        rw [List.take_succ_eq_append_getElem hlt, lineS_snoc, ← hg, show (⟨#[32]⟩ : ByteArray) = bs [32] from rfl, bs_add, bs_add]
        simp)
      have hx1 : (bs (itoa (ns.getD j 0))).size ≤ 21 := by rw [bs_size]; exact itoa_len21 _ ⟨by omega, h64.2⟩
      have hx2 : (bs (lineS wd (ns.take j))).size ≤ 3000 := by
        have := lineS_len hwd (ns := ns.take j) (fun k hk => by
          have hk' : k < j := by rw [List.length_take] at hk; omega
          have := HS.out k (by omega)
          rw [List.getD_eq_getElem?_getD] at this ⊢
          rw [List.getElem?_take, if_pos hk']
          exact ⟨by omega, this.2⟩)
        rw [bs_size]
        rw [List.length_take] at this
        omega
      clear hg
      generalize ns.getD j 0 = x at *
      have K := Lib.hid (dec70 x h64.1 h64.2)
      clear h64
      go_wp2_with (go_at_call 70; refine (K.out _).mono ?_; rintro e w2 ⟨rfl, hb2⟩)
      go_roundw
      case rel => exact ⟨j + 1, by omega, by go_num, by rw [← HT.out], bthen HR.out hb2 HR.out.size⟩
      case measure => simp [intOf]; omega
    · obtain rfl : j = ns.length := by omega
      have HT := Lib.hid (show ns.take ns.length = ns from List.take_length)
      go_wp2
      go_ret
      exact ⟨by rw [← HT.out, List.take_length]; rfl, HR.out⟩
end Go.Proofs.YtgflfdnajchjaaaGreatDoor
/- Layer 45: a text cut at a byte, by the reference. -/
namespace Go.Proofs.YtgflfdnajchjaaaGreatDoor
set_option linter.unusedVariables false
set_option linter.unusedSimpArgs false
open Go.RowKit Go.Sort
open Go.Lib (itoa atoiAll decDigits)
open Tm
def strv (M : List (List UInt8)) (k : Nat) : Value := .string (bs (M.getD k []))
/-- A row of texts of one's own. -/
def OwnS (w : World) (base : Nat) (v : Value) (M : List (List UInt8)) : Prop := w.ownsRow base 9 1 v M.length ((List.range M.length).map (strv M))
theorem OwnS.slice {w : World} {B : Nat} {v : Value} {M : List (List UInt8)} (h : OwnS w B v M) : ∃ a c b, v = .slice a M.length c ∧ M.length ≤ c ∧ (0 < M.length → a = some ⟨b, 0, none⟩ ∧ B ≤ b ∧ b < w.heap.size) ∧ StrAt w b 0 M := by
  unfold OwnS at h
  obtain ⟨a, c, b, e, hc, hp, hcell⟩ := own_cells h
  exact ⟨a, c, b, e, hc, hp, fun k hk => by rw [Nat.zero_add]; exact hcell k hk⟩
theorem ext_bs {s : ByteArray} {i j : Nat} (hij : i ≤ j) (hj : j ≤ s.size) : s.extract i j = bs ((s.data.toList.drop i).take (j - i)) := by
  rw [← bs_of (s.extract i j), bs_inj, ByteArray.data_extract, Array.toList_extract]
theorem pz9 : (Tryz.prog.info? 9).map (fun i => (i.zero, i.size, i.bytes)) = some (some (.string ⟨#[]⟩), 1, 16) := by kernel_rfl
theorem spl_at {c : UInt8} {L : List UInt8} {st i : Nat} (hst : st ≤ i) (hi : i < L.length) (hc : L.getD i 0 = c) (hn : c ∉ (L.drop st).take (i - st)) : spl c (L.drop st) = (L.drop st).take (i - st) :: spl c (L.drop (i + 1)) := by
  have e : L.drop st = (L.drop st).take (i - st) ++ c :: L.drop (i + 1) := by
    have h1 : (L.drop st).drop (i - st) = c :: L.drop (i + 1) := by
      rw [List.drop_drop, show st + (i - st) = i by omega, List.drop_eq_getElem_cons hi]
      rw [List.getD_eq_getElem?_getD, List.getElem?_eq_getElem hi] at hc
      rw [← hc]; rfl
    rw [← h1, List.take_append_drop]
  have h2 := spl_app (r := L.drop (i + 1)) hn
  rw [← e] at h2
  exact h2
theorem spl_end {c : UInt8} {L : List UInt8} {st : Nat} (hst : st ≤ L.length) (hn : c ∉ (L.drop st).take (L.length - st)) : spl c (L.drop st) = [(L.drop st).take (L.length - st)] := by
  have e : (L.drop st).take (L.length - st) = L.drop st := List.take_of_length_le (by simp)
  rw [e] at hn ⊢
  exact spl_none hn
theorem drop_cons {M : List (List UInt8)} {p : Nat} {a : List UInt8} {r : List (List UInt8)} (h : M.drop p = a :: r) : p < M.length ∧ M.getD p [] = a ∧ M.drop (p + 1) = r := by
  have hp : p < M.length := by
    rcases Nat.lt_or_ge p M.length with h1 | h1
    · exact h1
    · rw [List.drop_of_length_le h1] at h; cases h
  rw [List.drop_eq_getElem_cons hp] at h
  injection h with h1 h2
  exact ⟨hp, by rw [List.getD_eq_getElem?_getD, List.getElem?_eq_getElem hp]; exact h1, h2⟩
theorem not_mem_snoc {c : UInt8} {L : List UInt8} {st i : Nat} (hst : st ≤ i) (hi : i < L.length) (hc : L.getD i 0 ≠ c) (hn : c ∉ (L.drop st).take (i - st)) : c ∉ (L.drop st).take (i + 1 - st) := by
  rw [show i + 1 - st = (i - st) + 1 by omega, List.take_succ_eq_append_getElem (by simp; omega), List.mem_append]
  rintro (h | h)
  · exact hn h
  · rw [List.mem_singleton, List.getElem_drop] at h
    rw [List.getD_eq_getElem?_getD, List.getElem?_eq_getElem hi] at hc
    apply hc
    have e : st + (i - st) = i := by omega
    simp only [e] at h
    exact h.symm
/-- What cutting has done in front of number i. -/
structure CutSt (c : UInt8) (L : List UInt8) (M : List (List UInt8)) (p st i : Nat) : Prop where
  le : st ≤ i
  mid : i ≤ L.length → M.drop p = spl c (L.drop st) ∧ c ∉ (L.drop st).take (i - st)
  fin : i = L.length + 1 → p = M.length
theorem cut_start (c : UInt8) (L : List UInt8) : CutSt c L (spl c L) 0 0 0 := ⟨Nat.le_refl _, fun _ => ⟨rfl, by simp⟩, fun h => by omega⟩
theorem CutSt.hit {c : UInt8} {L : List UInt8} {M : List (List UInt8)} {p st i : Nat} (S : CutSt c L M p st i) (hi : i ≤ L.length) (h : i = L.length ∨ L.getD i 0 = c) : p < M.length ∧ M.getD p [] = (L.drop st).take (i - st) ∧ CutSt c L M (p + 1) (i + 1) (i + 1) := by
  obtain ⟨h1, h2⟩ := S.mid hi
  by_cases e : i = L.length
  · subst e
    rw [spl_end S.le h2] at h1
    obtain ⟨a1, a2, a3⟩ := drop_cons h1
    have hl : M.length = p + 1 := by have := congrArg List.length a3; simp at this; omega
    exact ⟨a1, a2, Nat.le_refl _, fun h => by omega, fun _ => hl.symm⟩
  · have hc : L.getD i 0 = c := by rcases h with h | h; exact absurd h e; exact h
    have hi2 : i < L.length := by omega
    rw [spl_at S.le hi2 hc h2] at h1
    obtain ⟨a1, a2, a3⟩ := drop_cons h1
    exact ⟨a1, a2, Nat.le_refl _, fun _ => ⟨a3, by simp⟩, fun h => by omega⟩
theorem CutSt.miss {c : UInt8} {L : List UInt8} {M : List (List UInt8)} {p st i : Nat} (S : CutSt c L M p st i) (hi : i < L.length) (h : L.getD i 0 ≠ c) : CutSt c L M p st (i + 1) := by
  obtain ⟨h1, h2⟩ := S.mid (by omega)
  exact ⟨by have := S.le; omega, fun _ => ⟨h1, not_mem_snoc S.le hi h h2⟩, fun h => by omega⟩
set_option maxRecDepth 100000 in
set_option maxHeartbeats 2000000 in
theorem cut38 (s : ByteArray) (hs : s.size ≤ 900000) (c : UInt8) (w : World) :
    Calls Tryz.prog 38 #[.string s, .int .u8 (c.toNat : Int)] w fun e w' => ∃ v, e = .returned v ∧ OwnS w' w.heap.size v (spl c s.data.toList) ∧ Below w.heap.size w w' := by
  have hL : s.data.toList.length = s.size := Array.length_toList
  have hM := spl_count c s.data.toList
  have hcs := cut_start c s.data.toList
  have HI := Lib.hid (fun (k : Nat) (hk : k < s.size) wx => run_index_str (s := s) (k := k) (c := s.data.toList.getD k 0) (by rw [List.getD_eq_getElem?_getD, List.getElem?_eq_getElem (by omega)]; rfl) k rfl wx)
  have HE := Lib.hid (fun (i j : Nat) (h1 : i ≤ j) (h2 : j ≤ s.size) => ext_bs (s := s) h1 h2)
  unfold OwnS
  generalize spl c s.data.toList = M at *
  generalize s.data.toList = L at *
  rw [hL] at hM
  have HS0 := Lib.hid hcs
  clear hcs
  go_enter Tryz.func38, Tryz.ntmps38
  go_wp2
  go_loopw [5, 6, 7] (fun r a i wr => ∃ (p st k : Nat) (rv : Value), k ≤ s.size + 1 ∧ rv = r ∧ a = .int .i64 st ∧ i = .int .i64 k ∧ CutSt c L M p st k ∧ wr.ownsRow w.heap.size 9 1 rv p ((List.range p).map (strv M)) ∧ Below w.heap.size w wr) (fun _ _ i _ => s.size + 1 - (intOf i).toNat)
  case atStart => exact ⟨0, 0, 0, _, Nat.zero_le _, rfl, rfl, rfl, HS0.out, World.ownsRow_nil _ _ _ _, Below.refl _ _⟩
  case round =>
    obtain ⟨p, st, k, rv, hk, rfl, rfl, rfl, hcut, hown, hbr⟩ := hrel
    have HC := Lib.hid hcut
    have HO := Lib.hid hown
    have HR := Lib.hid hbr
    have hst := hcut.le
    clear hcut hown hbr
    by_cases hle : k ≤ s.size
    · by_cases hhit : k = s.size ∨ L.getD k 0 = c
      · obtain ⟨a1, a2, a3⟩ := HC.out.hit (by omega) (by rw [hL]; exact hhit)
        have HC2 := Lib.hid a3
        have HV := Lib.hid (show strv M p = .string (s.extract st k) by unfold strv; rw [a2, HE.out st k hst hle])
        clear a2 a3 HC
        rcases Nat.lt_or_ge k s.size with hlt | hge
        · have hc : L.getD k 0 = c := by rcases hhit with h | h; omega; exact h
          have hix := HI.out k hlt
          rw [hc] at hix
          clear hhit hc
          go_wp2_with (at_builtin; refine wpList_append1 wr w w.heap.size rfl _ _ 77 rfl 9 (.string ⟨#[]⟩) 16 Tryz.underlying77 pz9 rfl (by decide) rv p (strv M) rfl _ rfl HO.out HR.out HR.out.size HV.out.symm rfl (by omega) ?_; intro v' w2 hown hB2 _ hs2 _; refine Hid.out ?_)
          refine Lib.hid ?_
          go_wp2
          go_roundw
          case rel => exact ⟨p + 1, k + 1, k + 1, _, by omega, rfl, by go_num, by go_num, HC2.out, hown, hB2⟩
          case measure => simp [intOf]; omega
        · obtain rfl : k = s.size := by omega
          clear hhit
          go_wp2_with (at_builtin; refine wpList_append1 wr w w.heap.size rfl _ _ 77 rfl 9 (.string ⟨#[]⟩) 16 Tryz.underlying77 pz9 rfl (by decide) rv p (strv M) rfl _ rfl HO.out HR.out HR.out.size HV.out.symm rfl (by omega) ?_; intro v' w2 hown hB2 _ hs2 _; refine Hid.out ?_)
          refine Lib.hid ?_
          go_wp2
          go_roundw
          case rel => exact ⟨p + 1, s.size + 1, s.size + 1, _, by omega, rfl, by go_num, by go_num, HC2.out, hown, hB2⟩
          case measure => simp [intOf]
      · have hne : k ≠ s.size := fun h => hhit (.inl h)
        have hcc : L.getD k 0 ≠ c := fun h => hhit (.inr h)
        have hlt : k < s.size := by omega
        have HC2 := Lib.hid (HC.out.miss (by omega) hcc)
        have hix := HI.out k hlt
        have hq : (((L.getD k 0).toNat : Int) == (c.toNat : Int)) = false := beq_false_of_ne fun h => hcc (UInt8.toNat_inj.1 (by omega))
        clear hhit hcc HC
        generalize L.getD k 0 = x at *
        go_wp2
        go_roundw
        case rel => exact ⟨p, st, k + 1, _, by omega, rfl, by go_num, by go_num, HC2.out, HO.out, HR.out⟩
        case measure => simp [intOf]; omega
    · obtain rfl : k = s.size + 1 := by omega
      have e := HC.out.fin (by omega)
      subst e
      go_wp2
      go_ret
      exact ⟨_, rfl, HO.out, HR.out⟩
end Go.Proofs.YtgflfdnajchjaaaGreatDoor
