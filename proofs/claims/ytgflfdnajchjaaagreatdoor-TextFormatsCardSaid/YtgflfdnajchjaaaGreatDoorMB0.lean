/- Layer 45: rows of bytes of which only the length is known; the functions of a packet's header. -/
import Derived.Test.YtgflfdnajchjaaaGreatDoorMX
import Derived.Test.YtgflfdnajchjaaaGreatDoorRowM
import Derived.Lib.AppendStr
import Derived.Deep.DeepCutAuto
import Derived.Deep.Cut
import Derived.Deep.OwnRows
namespace Go.Proofs.YtgflfdnajchjaaaGreatDoor
set_option linter.unusedVariables false
set_option linter.unusedSimpArgs false
open Go.RowKit Go.Sort
attribute [local go_sem] gcell
/-- A row of n bytes of one's own. -/
def ByR (w : World) (B : Nat) (v : Value) (n : Nat) : Prop := ∃ l : List UInt8, l.length = n ∧ w.ownsRow B 5 1 v n (Lib.byteCells l)
theorem u8_any (x : Int) : ∃ c : UInt8, IntKind.u8.wrap x = (c.toNat : Int) := by
  refine ⟨UInt8.ofNat (x % 256).toNat, ?_⟩
  rw [IntKind.wrap_u8]
  have h1 : 0 ≤ x % 256 := Int.emod_nonneg _ (by omega)
  have h2 : x % 256 < 256 := Int.emod_lt_of_pos _ (by omega)
  simp [UInt8.toNat_ofNat']
  omega
theorem u8_mod (x : Int) : ∃ c : UInt8, x % 256 = (c.toNat : Int) := by
  obtain ⟨c, h⟩ := u8_any x
  rw [IntKind.wrap_u8] at h
  exact ⟨c, h⟩
theorem bc_get (l : List UInt8) (k : Nat) : (Lib.byteCells l)[k]? = (l[k]?).map fun c => Value.int .u8 (c.toNat : Int) := by simp [Lib.byteCells]
theorem ByR.slice {w : World} {B n : Nat} {v : Value} (h : ByR w B v n) : ∃ a c, v = .slice a n c ∧ n ≤ c ∧ (0 < n → ∃ g, a = some ⟨g, 0, none⟩ ∧ B ≤ g ∧ g < w.heap.size ∧ (∀ o, w.frozen? ⟨g, o, none⟩ = false) ∧ ∀ k, k < n → ∃ c : UInt8, w.cell? ⟨g, k, none⟩ = some (.int .u8 (c.toNat : Int))) := by
  obtain ⟨l, hl, h⟩ := h
  have h' := h
  have hlt := h.lt
  obtain ⟨h1, ⟨hv, hn⟩ | ⟨g', cap, cur, hv, hg', hh, hn, hm, hr⟩⟩ := h
  · exact ⟨none, 0, by rw [hv, hn], by omega, fun h => by omega⟩
  · subst hv
    refine ⟨some ⟨g', 0, none⟩, cap, rfl, hn, fun _ => ⟨g', rfl, hg', (hlt g' rfl).2, fun o => h'.frozenAt o, fun k hk => ?_⟩⟩
    refine ⟨l.getD k 0, ?_⟩
    rw [h'.cellAt k (by omega), bc_get, List.getElem?_eq_getElem (by omega), List.getD_eq_getElem?_getD, List.getElem?_eq_getElem (by omega)]
    rfl
theorem ByR.set {w : World} {B n g c k : Nat} (h : ByR w B (.slice (some ⟨g, 0, none⟩) n c) n) (x : UInt8) : ByR (w.setCell ⟨g, k, none⟩ (.int .u8 (x.toNat : Int))) B (.slice (some ⟨g, 0, none⟩) n c) n := by
  obtain ⟨l, hl, h⟩ := h
  have h2 := (h.stored k (.int .u8 (x.toNat : Int))).1
  refine ⟨l.set k x, by simpa using hl, ?_⟩
  have e : Lib.byteCells (l.set k x) = (Lib.byteCells l).set k (.int .u8 (x.toNat : Int)) := by simp [Lib.byteCells, List.map_set]
  rw [e]
  exact h2
theorem byr_kept {w w' : World} {B n : Nat} {v : Value} (h : ByR w B v n) (hk : ∀ g, v.ownBlock = some g → w'.heap[g]? = w.heap[g]?) : ByR w' B v n := by
  obtain ⟨l, hl, h1, h2 | ⟨g, cap, cur, hv, hg, hh, hr⟩⟩ := h
  · exact ⟨l, hl, h1, .inl h2⟩
  · exact ⟨l, hl, h1, .inr ⟨g, cap, cur, hv, hg, (hk g (by rw [hv]; rfl)).trans hh, hr⟩⟩
theorem ByR.lt {w : World} {B n : Nat} {v : Value} (h : ByR w B v n) : ∀ g, v.ownBlock = some g → B ≤ g ∧ g < w.heap.size := by
  obtain ⟨l, hl, h⟩ := h
  exact h.lt
theorem ByR.mono {w w' : World} {B n : Nat} {v : Value} (h : ByR w B v n) (hb : Below w.heap.size w w') : ByR w' B v n := byr_kept h fun g hg => hb.block g (h.lt g hg).2
theorem ByR.base {w : World} {B C n : Nat} {v : Value} (h : ByR w B v n) (hC : C ≤ B) : ByR w C v n := by
  obtain ⟨l, hl, h1, h2 | ⟨g, cap, cur, hv, hg, hh, hr⟩⟩ := h
  · exact ⟨l, hl, h1, .inl h2⟩
  · exact ⟨l, hl, h1, .inr ⟨g, cap, cur, hv, Nat.le_trans hC hg, hh, hr⟩⟩
theorem byr_new (w : World) (l : List UInt8) (hl : l.length ≤ 1000000) : ByR (w.alloc (.cells (Lib.byteCells l).toArray 5)) w.heap.size (.slice (some ⟨w.heap.size, 0, none⟩) l.length l.length) l.length :=
  ⟨l, rfl, by simp [Lib.byteCells], .inr ⟨w.heap.size, l.length, (Lib.byteCells l).toArray, rfl, Nat.le_refl _, (MapKept.heap_alloc w _).1, Nat.le_refl _, by unfold maxLen; omega, by simp [Lib.byteCells], by rw [List.take_of_length_le (by simp [Lib.byteCells])]⟩⟩
theorem ByR.alloc {w : World} {B n : Nat} {v : Value} (h : ByR w B v n) (o : Obj) : ByR (w.alloc o) B v n := h.mono ((Below.refl _ _).alloc (Nat.le_refl _) o)
theorem ByR.only {w w' : World} {B n p : Nat} {v : Value} (h : ByR w B v n) (ho : OnlyP w w' p) (hp : p < B) : ByR w' B v n := byr_kept h fun g hg => only_block ho (by have := (h.lt g hg).1; omega) (h.lt g hg).2
theorem bz5 : (Tryz.prog.info? 5).map (fun i => (i.zero, i.size, i.bytes)) = some (some (.int .u8 0), 1, 1) := by kernel_rfl
section
variable {ops : Array Oper} {rest : List Oper} {o : Oper} {a : Act} {Q : Exit → Act → World → Prop}
theorem bytes_list {w : World} {g q : Nat} : ∀ {m : Nat}, (∀ k, k < m → ∃ c : UInt8, w.cell? ⟨g, q + k, none⟩ = some (.int .u8 (c.toNat : Int))) → ∃ l : List UInt8, l.length = m ∧ ∀ k u, (Lib.byteCells l)[k]? = some u → w.cell? ⟨g, q + k, none⟩ = some u
  | 0, _ => ⟨[], rfl, fun k u hu => by simp [Lib.byteCells] at hu⟩
  | m + 1, h => by
    obtain ⟨l, hl, hc⟩ := bytes_list (m := m) fun k hk => h k (by omega)
    obtain ⟨c, hcc⟩ := h m (by omega)
    refine ⟨l ++ [c], by simp [hl], fun k u hu => ?_⟩
    rw [bc_get] at hu
    by_cases hk : k < m
    · rw [List.getElem?_append_left (by omega)] at hu
      exact hc k u (by rw [bc_get]; exact hu)
    · by_cases hkm : k = m
      · subst hkm
        rw [← hl, List.getElem?_concat_length] at hu
        rw [hcc, ← hu]
        rfl
      · rw [List.getElem?_eq_none (by simp; omega)] at hu
        cases hu
/-- Bytes are put to a row of bytes. -/
theorem wpList_append_by (w : World) (base : Nat) (hgd : o.guard = none) (s x : Operand) (ho : o.op = .call { callee := .builtin .append, args := #[s, x], argTypes := #[46, 46] })
    (v : Value) (n : Nat) (hs : a.eval s = v) (hown : ByR w base v n) (g q m c : Nat) (hx : a.eval x = .slice (some ⟨g, q, none⟩) m c) (hc : ∀ k, k < m → ∃ c : UInt8, w.cell? ⟨g, q + k, none⟩ = some (.int .u8 (c.toNat : Int)))
    (hlen : n + m ≤ 1000000) (hbase : base ≤ w.heap.size)
    (h : ∀ v' w', ByR w' base v' (n + m) → w.grownBy w' v.ownBlock → (v'.ownBlock = v.ownBlock ∨ v'.ownBlock = some w.heap.size) → wpList Tryz.prog ops Q rest (a.put o.dst v') w') : wpList Tryz.prog ops Q (o :: rest) a w := by
  obtain ⟨i, hi1, hz, hsz, hby⟩ := info_split bz5
  obtain ⟨l, hl, hown⟩ := hown
  obtain ⟨l2, hl2, hc2⟩ := bytes_list hc
  refine wpList_append_own_at _ hgd s x 46 ho base 5 i (.int .u8 0) 1 1 Tryz.underlying46 hi1 hz hsz hby rfl (by omega) v n _ hs hown ⟨g, q, none⟩ m c (Lib.byteCells l2) hx (by simp [Lib.byteCells, hl2]) (fun j u hj => ?_) (fun u hu => ?_) (by unfold maxLen; omega) (by omega) hbase ?_
  · rw [Addr.add_mid]
    exact hc2 j u hj
  · obtain ⟨y, -, rfl⟩ := List.mem_map.1 hu
    rfl
  · intro v' w' h2 h3 _ h5
    refine h v' w' ⟨l ++ l2, by rw [List.length_append]; omega, ?_⟩ h3 h5
    have : Lib.byteCells (l ++ l2) = Lib.byteCells l ++ Lib.byteCells l2 := by simp [Lib.byteCells]
    rw [this]
    exact h2
end
theorem new_by (w : World) (cs : Array Value) (h : ∀ v ∈ cs.toList, ∃ c : UInt8, v = .int .u8 (c.toNat : Int)) : ∀ k, k < cs.size → ∃ c : UInt8, (w.alloc (.cells cs 5)).cell? ⟨w.heap.size, 0 + k, none⟩ = some (.int .u8 (c.toNat : Int)) := fun k hk => by
  obtain ⟨c, hc⟩ := h cs[k] (by simp)
  refine ⟨c, ?_⟩
  rw [Nat.zero_add, cell_of_row _ w.heap.size k cs 5 (0, 0) (MapKept.heap_alloc w _).1, Array.getElem?_eq_getElem hk, hc]
theorem by_one (x : Int) : ∀ v ∈ (#[Value.int .u8 (x % 256)] : Array Value).toList, ∃ c : UInt8, v = .int .u8 (c.toNat : Int) := fun v hv => by
  obtain ⟨c, hc⟩ := u8_mod x
  rw [List.mem_singleton.1 hv, hc]
  exact ⟨c, rfl⟩
theorem by_app {B : Nat} {w wr w1 : World} {o : Obj} {v : Value} {n : Nat} (hb : Below B w wr) (hB : B ≤ w.heap.size) (hu : ByR wr B v n) (hg : (wr.alloc o).grownBy w1 v.ownBlock) : Below B w w1 :=
  (hb.alloc (Nat.le_trans hB hb.size) o).grown hg (by have := hb.size; simp; omega) fun k hk => (hu.lt k hk).1
theorem byr_made (w : World) (n : Nat) (hn : n ≤ 1000000) : ByR (w.alloc (.cells (madeCells #[.int .u8 0] n) 5)) w.heap.size (.slice (some ⟨w.heap.size, 0, none⟩) n n) n := by
  have e : madeCells #[Value.int .u8 0] n = (Lib.byteCells (List.replicate n 0)).toArray := by
    apply Array.toList_inj.1
    rw [toList_madeCells_one]
    simp [Lib.byteCells]
  rw [e]
  have := byr_new w (List.replicate n 0) (by simpa using hn)
  simpa using this
theorem in102 (n m : Int) (h0 : 0 ≤ n) (h1 : n ≤ m) (w : World) : Calls Tryz.prog 102 #[.int .i64 n, .int .i64 m] w fun e w' => e = .returned (.bool true) ∧ w' = w := by
  go_enter Tryz.func102, Tryz.ntmps102
  go_wp2
  go_ret
  exact ⟨rfl, rfl⟩
/-- set: two bytes of a row. -/
theorem set73 (w : World) (B n c g : Nat) (at' : Nat) (x : Int) (hx : 0 ≤ x ∧ x ≤ 1000000000) (hat : at' + 1 < n) (hn : n ≤ 1000000) (H : ByR w B (.slice (some ⟨g, 0, none⟩) n c) n) : Calls Tryz.prog 73 #[.slice (some ⟨g, 0, none⟩) n c, .int .i64 at', .int .i64 x] w fun e w' => e = .returned (.tuple #[]) ∧ ByR w' B (.slice (some ⟨g, 0, none⟩) n c) n ∧ w.grownBy w' (some g) := by
  have HH := Lib.hid H
  obtain ⟨a, c', e, hc, hp⟩ := H.slice
  injection e with e1 e2 e3
  subst e1 e3
  obtain ⟨g', e, hB, hg, hfr, hcell⟩ := hp (by omega)
  injection e with e; injection e with e; subst e
  have f1 := hfr at'
  have f2 := hfr (at' + 1)
  obtain ⟨c1, k1⟩ := hcell at' (by omega)
  obtain ⟨c2, k2⟩ := hcell (at' + 1) (by omega)
  go_enter Tryz.func73, Tryz.ntmps73
  go_wp2
  refine bodyPost_end (results_none rfl _ _ _) rfl ?_
  obtain ⟨y1, q1⟩ := u8_mod (x / 256)
  obtain ⟨y2, q2⟩ := u8_mod x
  rw [q1, q2]
  refine ⟨rfl, (HH.out.set (k := at') y1).set (k := at' + 1) y2, rfl, rfl, rfl, by simp [World.setCell], fun i hi hne => ?_⟩
  have : i ≠ g := by simpa using hne
  exact (Below.heap_setCell _ _ _ _ this).trans (Below.heap_setCell _ _ _ _ this)
theorem fold126 (x : Int) (hx : 0 ≤ x ∧ x ≤ 1000000000) (w : World) : Calls Tryz.prog 126 #[.int .i64 x] w fun e w' => (∃ y : Int, e = .returned (.int .i64 y) ∧ 0 ≤ y ∧ y ≤ 65535) ∧ w' = w := by
  go_enter Tryz.func126, Tryz.ntmps126
  go_wp2
  go_loopw [0] (fun i wr => ∃ y : Int, i = .int .i64 y ∧ 0 ≤ y ∧ y ≤ 1000000000 ∧ wr = w) (fun i _ => (intOf i).toNat)
  case atStart => exact ⟨x, rfl, hx.1, hx.2, rfl⟩
  case round =>
    obtain ⟨y, rfl, h0, h1, rfl⟩ := hrel
    by_cases hlt : 65535 < y
    · go_wp2
      go_roundw
      case rel => exact ⟨_, rfl, by omega, by omega, trivial⟩
      case measure => simp [intOf]; omega
    · go_wp2
      go_ret
      exact ⟨⟨y, rfl, h0, by omega⟩, rfl⟩
theorem add104 (n g c : Nat) (hn : n ≤ 1000000) (w : World) (H : ∀ k, k < n → ∃ c : UInt8, w.cell? ⟨g, k, none⟩ = some (.int .u8 (c.toNat : Int))) : Calls Tryz.prog 104 #[.int .i64 0, .slice (some ⟨g, 0, none⟩) n c] w fun e w' => (∃ y : Int, e = .returned (.int .i64 y) ∧ 0 ≤ y ∧ y ≤ 65535) ∧ w' = w := by
  go_enter Tryz.func104, Tryz.ntmps104
  go_wp2_with (go_at_call 126; refine (fold126 _ (by omega) _).mono ?_; rintro e w' ⟨⟨y, rfl, h0, h1⟩, rfl⟩)
  go_loopw [5, 6, 7] (fun s i z wr => ∃ (y : Int) (j : Nat), s = .int .i64 y ∧ 0 ≤ y ∧ y ≤ 65535 ∧ i = .int .i64 j ∧ j ≤ n + 1 ∧ wr = w') (fun _ i _ _ => n + 1 - (intOf i).toNat)
  case atStart => exact ⟨y, 0, rfl, h0, h1, rfl, Nat.zero_le _, rfl⟩
  case round =>
    obtain ⟨x, j, rfl, h2, h3, rfl, hj, rfl⟩ := hrel
    by_cases hlt : j < n
    · obtain ⟨c1, k1⟩ := H j hlt
      have b1 := c1.toNat_lt
      by_cases hl2 : j + 1 < n
      · obtain ⟨c2, k2⟩ := H (j + 1) hl2
        have b2 := c2.toNat_lt
        go_wp2_with (go_at_call 126; refine (fold126 _ (by omega) _).mono ?_; rintro e w' ⟨⟨y', rfl, h0', h1'⟩, rfl⟩)
        go_roundw
        case rel => exact ⟨y', j + 2, rfl, h0', h1', by go_num, by omega, trivial⟩
        case measure => simp [intOf]; omega
      · go_wp2_with (go_at_call 126; refine (fold126 _ (by omega) _).mono ?_; rintro e w' ⟨⟨y', rfl, h0', h1'⟩, rfl⟩)
        go_roundw
        case rel => exact ⟨y', j + 2, rfl, h0', h1', by go_num, by omega, trivial⟩
        case measure => simp [intOf]; omega
    · go_wp2
      go_ret
      exact ⟨⟨x, rfl, h2, h3⟩, rfl⟩
theorem sum74 (n g c : Nat) (hn : n ≤ 1000000) (w : World) (H : ∀ k, k < n → ∃ c : UInt8, w.cell? ⟨g, k, none⟩ = some (.int .u8 (c.toNat : Int))) : Calls Tryz.prog 74 #[.slice (some ⟨g, 0, none⟩) n c] w fun e w' => (∃ y : Int, e = .returned (.int .i64 y) ∧ 0 ≤ y ∧ y ≤ 65535) ∧ w' = w := by
  go_enter Tryz.func74, Tryz.ntmps74
  go_wp2_with (go_at_call 104; refine (add104 n g c hn _ H).mono ?_; rintro e w' ⟨⟨y', rfl, h0', h1'⟩, rfl⟩)
  go_ret
  exact ⟨⟨_, rfl, by omega, by omega⟩, rfl⟩
/-- Put: a number's bytes at the end of a row. -/
theorem put103 (k : Nat) (x : Int) (hk : k ≤ 8) (v : Value) (n B : Nat) (hn : n ≤ 100000) (w : World) (H : ByR w B v n) (hB : B ≤ w.heap.size) : Calls Tryz.prog 103 #[v, .int .i64 k, .int .i64 x] w fun e w' => ∃ v', e = .returned v' ∧ ByR w' B v' (n + k) ∧ Below B w w' := by
  have HH := Lib.hid H
  clear H
  go_enter Tryz.func103, Tryz.ntmps103
  go_wp2
  go_loopw [0, 7] (fun s i wr => ∃ (m j : Nat) (u : Value), s = u ∧ i = .int .i64 ((m : Int) - 1) ∧ j + m = k ∧ ByR wr B u (n + j) ∧ Below B w wr) (fun _ i _ => (intOf i + 1).toNat)
  case atStart => exact ⟨k, 0, v, rfl, rfl, Nat.zero_add _, HH.out, Below.refl _ _⟩
  case round =>
    obtain ⟨m, j, u, rfl, rfl, hj, hu, hb⟩ := hrel
    have HU := Lib.hid hu
    have HB := Lib.hid hb
    clear hu hb
    rcases m with _ | m
    · go_wp2
      go_ret
      exact ⟨_, rfl, by rw [← hj]; exact HU.out, HB.out⟩
    · have e1 : ((m + 1 : Nat) : Int) - 1 = m := by omega
      rw [e1]
      go_upto_region 4 with fail
      go_wp2_with (at_builtin; refine wpList_append_by (wr.alloc (.cells #[.int .u8 (x / 2 ^ (8 * m) % 256)] 5)) B rfl (.tmp 14) (.tmp 21) rfl _ (n + j) rfl (HU.out.alloc _) wr.heap.size 0 1 1 rfl (new_by wr _ (by_one (x / 2 ^ (8 * m)))) (by omega) (by have := HB.out.size; simp; omega) ?_; intro v1 w1 h1 hg1 hv1)
      have HU1 := Lib.hid h1
      have HB1 := Lib.hid (by_app HB.out (by omega) HU.out hg1)
      clear h1 hg1 hv1
      go_roundw
      case rel => exact ⟨m, j + 1, _, rfl, rfl, by omega, HU1.out, HB1.out⟩
      case measure => simp [intOf]
/-- The dice's bytes. -/
theorem bytes48 (n p B : Nat) (hn : 1 ≤ n ∧ n ≤ 1000) (w : World) (D : DiceS w p B) : Calls Tryz.prog 48 #[.pointer (some ⟨p, 0, none⟩), .int .i64 n] w fun e w' => ∃ v, e = .returned v ∧ ByR w' w.heap.size v n ∧ DiceS w' p B ∧ OnlyP w w' p := by
  have hp := D.lt
  have hB := D.le
  have D1 := Lib.hid D
  have O1 := Lib.hid (only_refl w p)
  clear D
  have hmk := fun w0 : World => run_make_row' (P := Tryz.prog) 46 5 (.int .u8 0) 1 Tryz.underlying46 bz5 rfl .i64 .i64 n (by omega) (by omega) w0
  have HR := Lib.hid (byr_made w n (by omega))
  go_enter Tryz.func48, Tryz.ntmps48
  go_upto_region 2 with fail
  have hpw : p < w.heap.size := by omega
  replace D1 := Lib.hid (D1.out.alloc (.cells (madeCells #[.int .u8 0] n) 5))
  replace O1 := Lib.hid (only_alloc O1.out (.cells (madeCells #[.int .u8 0] n) 5))
  generalize w.alloc _ = w1 at *
  clear hmk
  go_wp2_with (go_at_call 12; refine (next12 (by decide) (by decide) D1.out).mono ?_; rintro e w2 ⟨k, rfl, h0, h1, hd, ho⟩; replace O1 := Lib.hid (only_trans O1.out ho); replace D1 := Lib.hid hd; replace HR := Lib.hid (HR.out.only ho hpw); clear ho hd)
  go_loopw [7] (fun i wr => ∃ j : Nat, i = .int .i64 j ∧ j ≤ n ∧ ByR wr w.heap.size (.slice (some ⟨w.heap.size, 0, none⟩) n n) n ∧ DiceS wr p B ∧ OnlyP w wr p) (fun i _ => n - (intOf i).toNat)
  case atStart => exact ⟨0, rfl, Nat.zero_le _, HR.out, D1.out, O1.out⟩
  case round =>
    clear HR D1 O1
    obtain ⟨j, rfl, hj, hr, hd, ho⟩ := hrel
    have HR := Lib.hid hr
    have D1 := Lib.hid hd
    have O1 := Lib.hid ho
    clear hr hd ho
    by_cases hlt : j < n
    · have hm0 : 0 ≤ (j : Int) * (k + 7) := Int.mul_nonneg (by omega) (by omega)
      have hm1 : (j : Int) * (k + 7) ≤ 1000 * 263 := Int.mul_le_mul (by omega) (by omega) (by omega) (by omega)
      obtain ⟨a, c', e, hc, hpp⟩ := HR.out.slice
      injection e with e1 e2 e3
      subst e1 e3
      obtain ⟨g', e, hB', hg, hfr, hcell⟩ := hpp (by omega)
      injection e with e; injection e with e; subst e
      have f1 := hfr j
      obtain ⟨c1, k1⟩ := hcell j hlt
      clear hfr hcell hpp
      obtain ⟨y, hy⟩ := u8_mod (k + (j : Int) * (k + 7))
      have HY := Lib.hid hy
      clear hy
      go_wp2
      rw [HY.out]
      go_roundw
      case rel => exact ⟨j + 1, by go_num, by omega, HR.out.set y, D1.out.set (by omega), only_setNew O1.out (Nat.le_refl _) _ _⟩
      case measure => simp [intOf]; omega
    · go_wp2
      go_ret
      exact ⟨_, rfl, by obtain rfl : j = n := by omega
                        exact HR.out, D1.out, O1.out⟩
/-- A header's numbers. -/
structure Hd where
  k : Int
  id : Int
  fp : Int
  ty : Int
  sq : Int
  ti : Int
  so : Int
def hdc (h : Hd) : List Value := [.int .i64 h.k, .int .i64 0, .int .i64 h.id, .int .i64 0, .int .i64 64, .int .i64 167772161, .int .i64 167772162, .int .i64 h.fp, .int .i64 2000, .int .i64 0, .int .i64 0, .int .i64 h.ty, .int .i64 h.sq, .int .i64 h.ti, .int .i64 h.so]
def hdv (h : Hd) : Value := .agg #[.int .i64 h.k, .int .i64 0, .int .i64 h.id, .int .i64 0, .int .i64 64, .int .i64 167772161, .int .i64 167772162, .int .i64 h.fp, .int .i64 2000, .int .i64 0, .int .i64 0, .int .i64 h.ty, .int .i64 h.sq, .int .i64 h.ti, .int .i64 h.so]
structure HdOk (h : Hd) : Prop where
  id : 0 ≤ h.id ∧ h.id ≤ 65535
  fp : 0 ≤ h.fp ∧ h.fp ≤ 65535
  k : h.k = 1 ∧ h.ty = 0 ∧ h.sq = 0 ∧ h.ti = 0 ∧ h.so = 0 ∨ h.k = 2
  ty : 0 ≤ h.ty ∧ h.ty ≤ 127
  sq : 0 ≤ h.sq ∧ h.sq ≤ 65535
  ti : 0 ≤ h.ti ∧ h.ti ≤ 4294967295
  so : 0 ≤ h.so ∧ h.so ≤ 4294967295
set_option maxRecDepth 100000 in
set_option maxHeartbeats 4000000 in
theorem valid71 (h : Hd) (H : HdOk h) (w : World) : Calls Tryz.prog 71 #[hdv h] w fun e w' => e = .returned (.bool true) ∧ Below w.heap.size w w' := by
  obtain ⟨k, id, fp, ty, sq, ti, so⟩ := h
  obtain ⟨⟨a1, a2⟩, ⟨b1, b2⟩, hk, ⟨c1, c2⟩, ⟨d1, d2⟩, ⟨e1, e2⟩, ⟨f1, f2⟩⟩ := H
  dsimp only at a1 a2 b1 b2 hk c1 c2 d1 d2 e1 e2 f1 f2
  have hbl := (Below.refl w.heap.size w).alloc (Nat.le_refl _) (.cells #[.int .i64 k, .int .i64 0, .int .i64 id, .int .i64 0, .int .i64 64, .int .i64 167772161, .int .i64 167772162, .int .i64 fp, .int .i64 2000, .int .i64 0, .int .i64 0, .int .i64 ty, .int .i64 sq, .int .i64 ti, .int .i64 so] 121)
  have HB := Lib.hid hbl
  clear hbl
  show Calls Tryz.prog 71 #[.agg #[.int .i64 k, .int .i64 0, .int .i64 id, .int .i64 0, .int .i64 64, .int .i64 167772161, .int .i64 167772162, .int .i64 fp, .int .i64 2000, .int .i64 0, .int .i64 0, .int .i64 ty, .int .i64 sq, .int .i64 ti, .int .i64 so]] w _
  rcases hk with ⟨rfl, rfl, rfl, rfl, rfl⟩ | rfl
  · go_enter Tryz.func71, Tryz.ntmps71
    go_wp2_with (go_at_call 102; refine (in102 _ _ (by omega) (by omega) _).mono ?_; rintro e w1 ⟨rfl, rfl⟩)
    go_ret
    exact ⟨rfl, HB.out⟩
  · go_enter Tryz.func71, Tryz.ntmps71
    go_wp2_with (go_at_call 102; refine (in102 _ _ (by omega) (by omega) _).mono ?_; rintro e w1 ⟨rfl, rfl⟩)
    go_ret
    exact ⟨rfl, HB.out⟩
end Go.Proofs.YtgflfdnajchjaaaGreatDoor
