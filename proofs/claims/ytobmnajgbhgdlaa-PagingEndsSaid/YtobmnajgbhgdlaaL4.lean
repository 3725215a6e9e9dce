/- Layer 36: the walk of PagingEnds. -/
import Derived.Test.YtobmnajgbhgdlaaP18
import Derived.Deep.RegionHeld3
namespace Go.Proofs.Ytobmnajgbhgdlaa
set_option linter.unusedVariables false
set_option linter.unusedSimpArgs false
open Go.RowKit Go.Sort
attribute [local go_sem] gcell

/-- A slice of 16-bit numbers that came in. -/
structure U16s (w : World) (a : Option Addr) (b m n : Nat) (xs : Nat → Int) : Prop where
  ha : 0 < n → a = some ⟨b, m, none⟩
  hx : ∀ k, k < n → w.cell? ⟨b, m + k, none⟩ = some (.int .u16 (xs k)) ∧ 0 ≤ xs k ∧ xs k ≤ 65535
/-- A pager and the map of calls. -/
structure En (w wr : World) (B bm : Nat) (cy mo tr : Int) (a : Option Addr) (c : Nat) (L : List Pg) (M : Int → Option Value) : Prop where
  bel : Below w.heap.size w wr
  p : PB wr B cy mo tr a c L
  mp : MapE wr bm M
  lt : w.heap.size ≤ B ∧ w.heap.size ≤ bm ∧ B ≠ bm
  v : VL tr L
  mi : MI M L
/-- .. as long as nobody has been called. -/
structure E0 (L : List Pg) (M : Int → Option Value) (xs : Nat → Int) (i : Nat) : Prop where
  len : L.length ≤ i
  z : ∀ y ∈ L, y.2.2 = 0
  m : ∀ x, x ∉ ids L → M x = none
  k : ∀ k, k < i → M (xs k) ≠ none
theorem E0.isSome {L : List Pg} {M : Int → Option Value} {xs : Nat → Int} {i : Nat} (h : E0 L M xs i) (hm : MI M L) (x : Int) : (M x).isSome = decide (x ∈ ids L) := by
  by_cases h1 : x ∈ ids L
  · obtain ⟨y, hy, rfl⟩ := List.mem_map.1 h1
    rw [hm.m1 y hy, decide_eq_true h1]; rfl
  · rw [h.m x h1, decide_eq_false h1]; rfl
theorem E0.next {tr : Int} {L : List Pg} {M : Int → Option Value} {xs : Nat → Int} {i : Nat} (h : E0 L M xs i) (hm : MI M L) : E0 (nx L (xs i)) (putM M (xs i) (.int .i64 0)) xs (i + 1) ∧ MI (putM M (xs i) (.int .i64 0)) (nx L (xs i)) := by
  have key : ∀ y ∈ nx L (xs i), y.2.2 = 0 := fun y hy => by
    unfold nx at hy
    split at hy
    · exact h.z y hy
    · rcases mem_snoc.1 hy with hy | rfl
      · exact h.z y hy
      · rfl
  refine ⟨⟨Nat.le_trans (nx_len L (xs i)) (by have := h.len; omega), key, fun x hx => ?_, fun k hk => ?_⟩, ⟨fun y hy => ?_, fun x hx => .inl ?_⟩⟩
  · unfold putM
    rw [if_neg fun e => hx (nx_ids.2 (.inr e))]
    exact h.m x fun e => hx (nx_ids.2 (.inl e))
  · unfold putM
    split
    · exact fun e => by cases e
    · rename_i hne
      exact h.k k (by
        rcases Nat.lt_or_ge k i with h1 | h1
        · exact h1
        · exact absurd (congrArg xs (show k = i by omega)) hne)
  · unfold putM
    split
    · rw [key y hy]
    · rename_i hne
      have : y.1 ∈ ids L := (nx_ids.1 (List.mem_map_of_mem hy)).resolve_right hne
      obtain ⟨z, hz, e⟩ := List.mem_map.1 this
      rw [← e, hm.m1 z hz, h.z z hz, key y hy]
  · unfold putM
    rw [if_neg fun e => hx (nx_ids.2 (.inr e))]
    exact h.m x fun e => hx (nx_ids.2 (.inl e))
/-- What a call has made of a list, beside what was there. -/
structure NewP (wr W w2 : World) (L P : List Pg) (id : Int) (a : Option Addr) (c : Nat) : Prop where
  e : P = nx L id
  k : CapOk P.length c
  n : a = none → P.length = 0
  r : R3 w2 a P.length (pI P) (pS P) (pC P)
  h : Below W.heap.size W w2
  b : Below wr.heap.size wr w2
  l : ∀ x : Addr, a = some x → W.heap.size ≤ x.block
def CallX (cy mo tr id E : Int) (L : List Pg) (wr W : World) (e : Ending) (w2 : World) : Prop :=
  ∃ P a c, e = .returned (.tuple #[.agg #[.int .i64 cy, .int .i64 mo, .int .i64 tr, .slice a P.length c], .int .i64 E]) ∧ Hid (NewP wr W w2 L P id a c)
theorem En.mono {w wr w' : World} {B bm : Nat} {cy mo tr : Int} {a : Option Addr} {c : Nat} {L : List Pg} {M : Int → Option Value} (h : En w wr B bm cy mo tr a c L M) (hb : Below wr.heap.size wr w') : En w w' B bm cy mo tr a c L M :=
  ⟨bthen h.bel hb h.bel.size, h.p.mono hb, h.mp.mono hb, h.lt, h.v, h.mi⟩
theorem Bx.of_sets {W : World} {B : Nat} {cy mo tr : Int} {v z0 z1 z2 z3 : Value} (u0 : W.cell? ⟨B, 0, none⟩ = some z0) (u1 : W.cell? ⟨B, 1, none⟩ = some z1) (u2 : W.cell? ⟨B, 2, none⟩ = some z2) (u3 : W.cell? ⟨B, 3, none⟩ = some z3) (f : ∀ o, W.frozen? ⟨B, o, none⟩ = false) : Bx (rebox W B cy mo tr v) B cy mo tr v := by
  unfold rebox
  refine ⟨?_, ?_, ?_, ?_, fun o => ?_⟩
  · simp [cell_set, u0]
  · simp [cell_set, u1]
  · simp [cell_set, u2]
  · simp [cell_set, u3]
  · rw [World.frozen?_setCell, World.frozen?_setCell, World.frozen?_setCell, World.frozen?_setCell]
    exact f o
theorem R3.far {w : World} {a : Option Addr} {n : Nat} {I S C : Nat → Int} (H : R3 w a n I S C) {z : Nat} (hz : ∀ x : Addr, a = some x → x.block ≠ z) (o : Nat) (v : Value) : R3 (w.setCell ⟨z, o, none⟩ v) a n I S C := by
  obtain ⟨b, m, h1, h2⟩ := H
  refine ⟨b, m, h1, fun k hk => ?_⟩
  have hb : z ≠ b := Ne.symm (hz ⟨b, m, none⟩ (h1 (by omega)))
  obtain ⟨c0, c1, c2⟩ := h2 k hk
  exact ⟨by rw [cell_set, if_neg (by simp [hb])]; exact c0, by rw [cell_set, if_neg (by simp [hb])]; exact c1, by rw [cell_set, if_neg (by simp [hb])]; exact c2⟩
/-- A tick's pagers, map and lists. -/
structure St (w wr : World) (B B3 bm : Nat) (cy mo tr : Int) (a : Option Addr) (c : Nat) (L : List Pg) (a3 : Option Addr) (c3 : Nat) (P : List Pg) (M : Int → Option Value) (bA : Option Addr) (A : List Int) (bB : Option Addr) (G : List Int) : Prop where
  bel : Below w.heap.size w wr
  p : PB wr B cy mo tr a c L
  q : PB wr B3 cy mo tr a3 c3 P
  mp : MapE wr bm M
  rA : Row wr bA A.length (nI A)
  rB : Row wr bB G.length (nI G)
theorem St.mono {w wr w' : World} {B B3 bm : Nat} {cy mo tr : Int} {a : Option Addr} {c : Nat} {L : List Pg} {a3 : Option Addr} {c3 : Nat} {P : List Pg} {M : Int → Option Value} {bA : Option Addr} {A : List Int} {bB : Option Addr} {G : List Int} (h : St w wr B B3 bm cy mo tr a c L a3 c3 P M bA A bB G) (hb : Below wr.heap.size wr w') : St w w' B B3 bm cy mo tr a c L a3 c3 P M bA A bB G :=
  ⟨bthen h.bel hb h.bel.size, h.p.mono hb, h.q.mono hb, h.mp.mono hb, h.rA.mono hb, h.rB.mono hb⟩
theorem St.put {w wr w' : World} {B B3 bm : Nat} {cy mo tr : Int} {a : Option Addr} {c : Nat} {L : List Pg} {a3 : Option Addr} {c3 : Nat} {P : List Pg} {M M' : Int → Option Value} {bA : Option Addr} {A : List Int} {bB : Option Addr} {G : List Int} (h : St w wr B B3 bm cy mo tr a c L a3 c3 P M bA A bB G) (hm : MapE w' bm M') (hg : wr.grownBy w' (some bm)) (hl : w.heap.size ≤ bm) : St w w' B B3 bm cy mo tr a c L a3 c3 P M' bA A bB G := by
  obtain ⟨n, hn⟩ := h.mp
  exact ⟨below_map h.bel hg hl, h.p.map hn hg, h.q.map hn hg, hm, h.rA.map hn hg, h.rB.map hn hg⟩
theorem mul_bd {a b c d : Int} (h1 : 0 ≤ a ∧ a ≤ c) (h2 : 0 ≤ b ∧ b ≤ d) : 0 ≤ a * b ∧ a * b ≤ c * d :=
  ⟨Int.mul_nonneg h1.1 h2.1, Int.mul_le_mul h1.2 h2.2 h2.1 (by omega)⟩
theorem nx_vl' {tr : Int} {L : List Pg} {id : Int} (h : VL tr L) (hi : 0 ≤ id ∧ id < 65536) (ht : 0 ≤ tr) : VL tr (nx L id) := by
  unfold nx
  split
  · exact h
  · exact h.call (by assumption) hi (by omega) ht
theorem i64_wf {x : Int} (h : -1000 ≤ x ∧ x ≤ 65536) : (Lit.int .i64 x).wf = true := by
  simp only [Lit.wf, Bool.and_eq_true, decide_eq_true_eq]
  exact ⟨by show (-9223372036854775808 : Int) ≤ x; omega, by show x ≤ (9223372036854775807 : Int); omega⟩
theorem zero3 : ∀ w, (zeroValue 3).run Try.prog w = .ok (.int .i64 0) w := fun w => by kernel_rfl
set_option maxRecDepth 100000 in
set_option maxHeartbeats 16000000 in
theorem ends3 (a : Option Addr) (b m n c : Nat) (xs : Nat → Int) (x1 x2 x3 : Int) (w : World) (L : U16s w a b m n xs) (hn : n ≤ 140737488351232) (b1 : 0 ≤ x1 ∧ x1 ≤ 255) (b2 : 0 ≤ x2 ∧ x2 ≤ 255) (b3 : 0 ≤ x3 ∧ x3 ≤ 255) :
    Calls Try.prog 3 #[.slice a n c, .int .u8 x1, .int .u8 x2, .int .u8 x3] w fun e w' => e = .returned (.bool true) ∧ Below w.heap.size w w' := by
  have HL := Lib.hid L
  clear L
  obtain ⟨N, hN⟩ : ∃ N : Nat, N = min n 10 := ⟨_, rfl⟩
  have hN8 : N ≤ 10 ∧ N ≤ n := by omega
  have q1 : (if (10 : Int) < (n : Int) then (10 : Int) else (n : Int)) = (N : Int) := by split <;> omega
  have hmm := @run_makeMap Try.prog
  have hw0 := blA w (.cells #[.int .i64 (1 + x1 % 9), .int .i64 (1 + x2 % 4), .int .i64 (1 + x3 % 4), .slice none 0 0] 25)
  have hw1 := blA (w.alloc (.cells #[.int .i64 (1 + x1 % 9), .int .i64 (1 + x2 % 4), .int .i64 (1 + x3 % 4), .slice none 0 0] 25)) (.map #[] 0)
  have hp0 : PB _ w.heap.size (1 + x1 % 9) (1 + x2 % 4) (1 + x3 % 4) none 0 ([] : List Pg) := PB.new w (1 + x1 % 9) (1 + x2 % 4) (1 + x3 % 4) (R3.zero _ _ _ _ _) ⟨Nat.le_refl _, by omega⟩ (fun _ => rfl)
  have hm0 := MapAt.made (w.alloc (.cells #[.int .i64 (1 + x1 % 9), .int .i64 (1 + x2 % 4), .int .i64 (1 + x3 % 4), .slice none 0 0] 25))
  have HS0 := Lib.hid (show En w ((w.alloc (.cells #[.int .i64 (1 + x1 % 9), .int .i64 (1 + x2 % 4), .int .i64 (1 + x3 % 4), .slice none 0 0] 25)).alloc (.map #[] 0)) w.heap.size (w.heap.size + 1) (1 + x1 % 9) (1 + x2 % 4) (1 + x3 % 4) none 0 [] (fun _ => none) from
    ⟨bthen' hw0 hw1, hp0.mono hw1, ⟨0, by simpa using hm0⟩, ⟨Nat.le_refl _, by omega, by omega⟩, ⟨by simp, by simp⟩, ⟨by simp, fun _ _ => .inl rfl⟩⟩)
  have HZ0 := Lib.hid (show E0 [] (fun _ => none) xs 0 from ⟨Nat.le_refl _, by simp, fun _ _ => rfl, fun k hk => absurd hk (Nat.not_lt_zero _)⟩)
  clear hN hw0 hw1 hp0 hm0
  have bcy : 1 ≤ 1 + x1 % 9 ∧ 1 + x1 % 9 ≤ 9 := by omega
  have bmo : 1 ≤ 1 + x2 % 4 ∧ 1 + x2 % 4 ≤ 4 := by omega
  have btr : 1 ≤ 1 + x3 % 4 ∧ 1 + x3 % 4 ≤ 4 := by omega
  go_enter Try.func3, Try.ntmps3
  go_upto_region 4 with fail
  generalize ((w.alloc (.cells #[.int .i64 (1 + x1 % 9), .int .i64 (1 + x2 % 4), .int .i64 (1 + x3 % 4), .slice none 0 0] 25)).alloc (.map #[] 0)) = w0 at *
  generalize w.heap.size + 1 = bm at *
  generalize 1 + x1 % 9 = cy at *
  generalize 1 + x2 % 4 = mo at *
  generalize 1 + x3 % 4 = tr at *
  clear hmm q1
  go_wp2_with fail
  go_loopw [12] (fun s12 wx => ∃ (i : Nat) (L : List Pg) (M : Int → Option Value) (a1 : Option Addr) (c1 : Nat), s12 = .int .i64 i ∧ i ≤ N ∧ E0 L M xs i ∧ En w wx w.heap.size bm cy mo tr a1 c1 L M) (fun s12 _ => N - (intOf s12).toNat)
  case atStart => exact ⟨0, [], _, none, 0, rfl, Nat.zero_le _, HZ0.out, HS0.out⟩
  case round =>
    clear HS0 HZ0
    obtain ⟨i, L, M, a1, c1, rfl, hi, hE, hS⟩ := hrel
    have HS := Lib.hid hS
    have HE := Lib.hid hE
    have hsr := hS.bel.size
    by_cases hlt : i < N
    · obtain ⟨gy, gz⟩ := HL.out.hx i (by omega)
      have hai := HL.out.ha (by omega)
      subst hai
      have gx := up hS.bel gy
      have i1 : (0 : Int) ≤ (i : Int) := by omega
      have i2 : (i : Int) < (n : Int) := by omega
      have hxi : 0 ≤ xs i ∧ xs i < 65536 := by omega
      have HNX := Lib.hid (hE.next (tr := tr) hS.mi)
      have HSM := Lib.hid (hE.isSome hS.mi (xs i))
      have hl := hE.len
      obtain ⟨hC1, hC2⟩ := cl_ok (t := 0) (cy := cy) (mo := mo) (tr := tr) (id := xs i) ⟨by omega, by omega, by omega, by omega, by omega, by omega⟩ hS.v (by omega) (by omega) hxi
      have HCE := Lib.hid hC1
      have HCO := Lib.hid (show clO cy mo tr (xs i) 0 L.length (pI L) (pS L) (pC L) = nx L (xs i) from hC2)
      have HV := Lib.hid (nx_vl' hS.v hxi (by omega))
      have WFI := Lib.hid (i64_wf (x := xs i) (by omega))
      have bxi := hxi
      by_cases hG : xs i ∈ ids L
      · have HEE := Lib.hid (show (12 : Int) = (if xs i ∈ ids L then 12 else 0) by rw [if_pos hG])
        have HS1 := Lib.hid (show (M (xs i)).isSome = true by rw [HSM.out]; exact decide_eq_true hG)
        clear hG
        have HK := Lib.hid fun (W : World) (h : Below wr.heap.size wr W) => show Calls Try.prog 7 #[gv cy mo tr a1 L.length c1, .int .i64 (xs i), .int .i64 0] W (CallX cy mo tr (xs i) 12 L wr W) from
          (call7n cy mo tr (xs i) 0 a1 L.length c1 _ _ _ W (hS.p.r.mono h) hS.p.k.1 hS.p.k.2 hS.p.n (by omega)).mono fun e w2 ⟨P, a3, c3, g1, g2, g3, g4, g5, g6, g7⟩ => by
            rw [HCO.out] at g1
            rw [HCE.out, ← HEE.out] at g2
            exact ⟨P, a3, c3, g2, g1, g3, g4, g5, g6, bthen' h g6, g7⟩
        generalize hid : xs i = id at *
        have HID := Lib.hid hid
        clear hid
        have x0 := hS.p.x.c0
        have x1 := hS.p.x.c1
        have x2 := hS.p.x.c2
        have x3 := hS.p.x.c3
        have HGX := Lib.hid gy
        have HSX0 := Lib.hid (show Below w.heap.size w wr from hS.bel)
        have ne0 := World.new_ne wr _ x0
        have ne1 := World.new_ne wr _ x1
        have ne2 := World.new_ne wr _ x2
        have ne3 := World.new_ne wr _ x3
        have ne4 := World.new_ne wr _ gx
        clear hS hE gz hxi gy hC1 hC2
        unfold gv at *
        have wI : IntKind.i64.wrap id = id := IntWalk.i64_in _ (by omega)
        have HBd := Lib.hid (show Below wr.heap.size wr wr.drew from (Below.refl _ _).drew)
        have HBa := Lib.hid (show Below wr.heap.size wr (wr.alloc (.cells #[.int .i64 0, .int .i64 0, .int .i64 0, .slice none 0 0] 25)).drew from (blA wr _).drew)
        have HBa2 := Lib.hid (show Below wr.heap.size wr (wr.drew.alloc (.cells #[.int .i64 0, .int .i64 0, .int .i64 0, .slice none 0 0] 25)) from (Below.refl _ _).drew.alloc (Nat.le_refl _) _)
        go_upto_region 7 with fail
        go_region_held3 (fun w' => w'.cell? ⟨w.heap.size, 0, none⟩ = some (.int .i64 cy) ∧ w'.cell? ⟨w.heap.size, 1, none⟩ = some (.int .i64 mo) ∧ w'.cell? ⟨w.heap.size, 2, none⟩ = some (.int .i64 tr) ∧ w'.cell? ⟨w.heap.size, 3, none⟩ = some (.slice a1 L.length c1) ∧ w'.cell? ⟨b, m + i, none⟩ = some (.int .u16 id)) (first | (go_keep; done)) ((go_at_call 7; (first | ((with_reducible refine (HK.out wr.drew HBd.out).mono ?_); rintro e w2 ⟨P, a3, c3, rfl, HN⟩) | ((with_reducible refine (HK.out (wr.alloc (.cells #[.int .i64 0, .int .i64 0, .int .i64 0, .slice none 0 0] 25)).drew HBa.out).mono ?_); rintro e w2 ⟨P, a3, c3, rfl, HN⟩; have u0 := up HN.out.h (b := wr.heap.size) (o := 0) (v := .int .i64 0) (by simp [go_sem]); have p0 := upf HN.out.h (b := wr.heap.size) (o := 0) (by simp) (by simp [go_sem]); have u1 := up HN.out.h (b := wr.heap.size) (o := 1) (v := .int .i64 0) (by simp [go_sem]); have p1 := upf HN.out.h (b := wr.heap.size) (o := 1) (by simp) (by simp [go_sem]); have u2 := up HN.out.h (b := wr.heap.size) (o := 2) (v := .int .i64 0) (by simp [go_sem]); have p2 := upf HN.out.h (b := wr.heap.size) (o := 2) (by simp) (by simp [go_sem]); have u3 := up HN.out.h (b := wr.heap.size) (o := 3) (v := .slice none 0 0) (by simp [go_sem]); have p3 := upf HN.out.h (b := wr.heap.size) (o := 3) (by simp) (by simp [go_sem]); have lw2 : wr.heap.size < w2.heap.size := lt_of_cell u0; have PF := Lib.hid (fun (o : Nat) => upf HN.out.h (b := wr.heap.size) (o := o) (by simp) (by simp [go_sem])); have LOC := Lib.hid (fun (x : Addr) (hx : a3 = some x) => show x.block ≠ wr.heap.size by have := HN.out.l x hx; simp at this; omega)) | ((with_reducible refine (HK.out (wr.drew.alloc (.cells #[.int .i64 0, .int .i64 0, .int .i64 0, .slice none 0 0] 25)) HBa2.out).mono ?_); rintro e w2 ⟨P, a3, c3, rfl, HN⟩; have u0 := up HN.out.h (b := wr.heap.size) (o := 0) (v := .int .i64 0) (by simp [go_sem]); have p0 := upf HN.out.h (b := wr.heap.size) (o := 0) (by simp) (by simp [go_sem]); have u1 := up HN.out.h (b := wr.heap.size) (o := 1) (v := .int .i64 0) (by simp [go_sem]); have p1 := upf HN.out.h (b := wr.heap.size) (o := 1) (by simp) (by simp [go_sem]); have u2 := up HN.out.h (b := wr.heap.size) (o := 2) (v := .int .i64 0) (by simp [go_sem]); have p2 := upf HN.out.h (b := wr.heap.size) (o := 2) (by simp) (by simp [go_sem]); have u3 := up HN.out.h (b := wr.heap.size) (o := 3) (v := .slice none 0 0) (by simp [go_sem]); have p3 := upf HN.out.h (b := wr.heap.size) (o := 3) (by simp) (by simp [go_sem]); have lw2 : wr.heap.size < w2.heap.size := lt_of_cell u0; have PF := Lib.hid (fun (o : Nat) => upf HN.out.h (b := wr.heap.size) (o := o) (by simp) (by simp [go_sem])); have LOC := Lib.hid (fun (x : Addr) (hx : a3 = some x) => show x.block ≠ wr.heap.size by have := HN.out.l x hx; simp at this; omega))); have y0 := up HN.out.b x0; have y1 := up HN.out.b x1; have y2 := up HN.out.b x2; have y3 := up HN.out.b x3; have gw := up HN.out.b gx; have nf0 := World.new_ne w2 _ y0; have nf1 := World.new_ne w2 _ y1; have nf2 := World.new_ne w2 _ y2; have nf3 := World.new_ne w2 _ y3; have nf4 := World.new_ne w2 _ gw; clear HK))
        all_goals
          clear ne0 ne1 ne2 ne3 ne4 nf0 nf1 nf2 nf3 nf4 x0 x1 x2 x3 gx y0 y1 y2 y3 gw
          have hs2 := HN.out.b.size
          have hml : bm < wr.heap.size := HS.out.mp.lt
          have hpl : w.heap.size < wr.heap.size := HS.out.p.x.lt
          first
            | (have hbx : Below wr.heap.size wr ((((w2.setCell ⟨wr.heap.size, 0, none⟩ (.int .i64 cy)).setCell ⟨wr.heap.size, 1, none⟩ (.int .i64 mo)).setCell ⟨wr.heap.size, 2, none⟩ (.int .i64 tr)).setCell ⟨wr.heap.size, 3, none⟩ (.slice a3 P.length c3)) := below_rebox (w := wr) HN.out.b (Nat.le_refl _)
               have HQ := Lib.hid (show PB ((((w2.setCell ⟨wr.heap.size, 0, none⟩ (.int .i64 cy)).setCell ⟨wr.heap.size, 1, none⟩ (.int .i64 mo)).setCell ⟨wr.heap.size, 2, none⟩ (.int .i64 tr)).setCell ⟨wr.heap.size, 3, none⟩ (.slice a3 P.length c3)) wr.heap.size cy mo tr a3 c3 P from
                 ⟨Bx.of_sets u0 u1 u2 u3 PF.out, (((HN.out.r.far LOC.out 0 _).far LOC.out 1 _).far LOC.out 2 _).far LOC.out 3 _, HN.out.k, HN.out.n⟩)
               have HSX := Lib.hid (HS.out.mono hbx)
               have hBq : wr.heap.size ≠ w.heap.size ∧ wr.heap.size ≠ bm := by omega
               have gq := up hbx (up HSX0.out HGX.out)
               clear hbx u0 u1 u2 u3 p0 p1 p2 p3 PF LOC lw2
               generalize ((((w2.setCell ⟨wr.heap.size, 0, none⟩ (.int .i64 cy)).setCell ⟨wr.heap.size, 1, none⟩ (.int .i64 mo)).setCell ⟨wr.heap.size, 2, none⟩ (.int .i64 tr)).setCell ⟨wr.heap.size, 3, none⟩ (.slice a3 P.length c3)) = wx at *
               generalize wr.heap.size = Bq at *)
            | (have hbx := bthen' HN.out.b (blA w2 (.cells #[.int .i64 cy, .int .i64 mo, .int .i64 tr, .slice a3 P.length c3] 25))
               have HQ := Lib.hid (show PB (w2.alloc (.cells #[.int .i64 cy, .int .i64 mo, .int .i64 tr, .slice a3 P.length c3] 25)) w2.heap.size cy mo tr a3 c3 P from PB.new w2 cy mo tr HN.out.r HN.out.k HN.out.n)
               have HSX := Lib.hid (HS.out.mono hbx)
               have hBq : w2.heap.size ≠ w.heap.size ∧ w2.heap.size ≠ bm := by omega
               have gq := up hbx (up HSX0.out HGX.out)
               clear hbx
               generalize (w2.alloc (.cells #[.int .i64 cy, .int .i64 mo, .int .i64 tr, .slice a3 P.length c3] 25)) = wx at *
               generalize w2.heap.size = Bq at *)
          have HPE := Lib.hid HN.out.e
          obtain ⟨mn, hmn⟩ := HSX.out.mp
          have HM := Lib.hid hmn
          clear HN hmn HS hs2 hml hpl
          obtain ⟨rv, hrv⟩ : ∃ rv, (M id).getD (.int .i64 0) = rv := ⟨_, rfl⟩
          have HRV := Lib.hid hrv
          clear hrv
          have hP10 : P.length ≤ 10 := by rw [HPE.out]; have := nx_len L id; omega
          obtain ⟨l1, l2, l3⟩ := HSX.out.lt
          have FIN := Lib.hid fun (w9 : World) (hm9 : MapE w9 bm (putM M id (.int .i64 0))) (hg9 : wx.grownBy w9 (some bm)) => show En w (rebox w9 w.heap.size cy mo tr (.slice a3 P.length c3)) w.heap.size bm cy mo tr a3 c3 P (putM M id (.int .i64 0)) ∧ E0 P (putM M id (.int .i64 0)) xs (i + 1) ∧ Bx w9 w.heap.size cy mo tr (.slice a1 L.length c1) ∧ Bx w9 Bq cy mo tr (.slice a3 P.length c3) by
            have hp9 := HSX.out.p.map HM.out hg9
            have hq9 := HQ.out.map HM.out hg9
            have hb9 := below_map HSX.out.bel hg9 l2
            refine ⟨⟨below_rebox hb9 l1, hp9.re hq9.r hq9.k hq9.n, (((hm9.setCell (o := 0) l3).setCell (o := 1) l3).setCell (o := 2) l3).setCell (o := 3) l3, ⟨l1, l2, l3⟩, by rw [HPE.out]; exact HV.out, by rw [HPE.out]; exact HNX.out.2⟩, by rw [HPE.out]; exact HNX.out.1, hp9.x, hq9.x⟩
          have hPM := Lib.hid hP10
          clear hP10
          go_wp2_with (first | (at_lookup; refine wpList_mapLookOk wx rfl _ _ 26 rfl 3 3 Try.underlying3 Try.underlying26 bm mn M rfl HM.out (.int .i64 0) (zero3 _) id WFI.out rfl rv true HRV.out HS1.out ?_) | (at_mapUpdate; refine wpList_mapPutE wx rfl _ _ _ 26 rfl 3 3 Try.underlying3 Try.underlying26 bm M rfl ⟨mn, HM.out⟩ id (.int .i64 0) WFI.out rfl rfl ?_; intro w9 hm9 hg9 hz9; obtain ⟨hF1, hF2, hF3, hF4⟩ := FIN.out w9 hm9 hg9; have HF1 := Lib.hid hF1; have HF2 := Lib.hid hF2; have y0 := hF3.c0; have y1 := hF3.c1; have y2 := hF3.c2; have y3 := hF3.c3; have g0 := hF3.f 0; have g1 := hF3.f 1; have g2 := hF3.f 2; have g3 := hF3.f 3; have z0 := hF4.c0; have z1 := hF4.c1; have z2 := hF4.c2; have z3 := hF4.c3; have hBl := hF3.lt; clear hF1 hF2 hF3 hF4 hm9 hg9))
          go_roundw
          case rel => exact ⟨i + 1, P, _, a3, c3, by go_num, by omega, HF2.out, HF1.out⟩
          case measure => simp [intOf]; omega
      · have HEE := Lib.hid (show (0 : Int) = (if xs i ∈ ids L then 12 else 0) by rw [if_neg hG])
        have HS1 := Lib.hid (show (M (xs i)).isSome = false by rw [HSM.out]; exact decide_eq_false hG)
        clear hG
        have HK := Lib.hid fun (W : World) (h : Below wr.heap.size wr W) => show Calls Try.prog 7 #[gv cy mo tr a1 L.length c1, .int .i64 (xs i), .int .i64 0] W (CallX cy mo tr (xs i) 0 L wr W) from
          (call7n cy mo tr (xs i) 0 a1 L.length c1 _ _ _ W (hS.p.r.mono h) hS.p.k.1 hS.p.k.2 hS.p.n (by omega)).mono fun e w2 ⟨P, a3, c3, g1, g2, g3, g4, g5, g6, g7⟩ => by
            rw [HCO.out] at g1
            rw [HCE.out, ← HEE.out] at g2
            exact ⟨P, a3, c3, g2, g1, g3, g4, g5, g6, bthen' h g6, g7⟩
        generalize hid : xs i = id at *
        have HID := Lib.hid hid
        clear hid
        have x0 := hS.p.x.c0
        have x1 := hS.p.x.c1
        have x2 := hS.p.x.c2
        have x3 := hS.p.x.c3
        have HGX := Lib.hid gy
        have HSX0 := Lib.hid (show Below w.heap.size w wr from hS.bel)
        have ne0 := World.new_ne wr _ x0
        have ne1 := World.new_ne wr _ x1
        have ne2 := World.new_ne wr _ x2
        have ne3 := World.new_ne wr _ x3
        have ne4 := World.new_ne wr _ gx
        clear hS hE gz hxi gy hC1 hC2
        unfold gv at *
        have wI : IntKind.i64.wrap id = id := IntWalk.i64_in _ (by omega)
        have HBd := Lib.hid (show Below wr.heap.size wr wr.drew from (Below.refl _ _).drew)
        have HBa := Lib.hid (show Below wr.heap.size wr (wr.alloc (.cells #[.int .i64 0, .int .i64 0, .int .i64 0, .slice none 0 0] 25)).drew from (blA wr _).drew)
        have HBa2 := Lib.hid (show Below wr.heap.size wr (wr.drew.alloc (.cells #[.int .i64 0, .int .i64 0, .int .i64 0, .slice none 0 0] 25)) from (Below.refl _ _).drew.alloc (Nat.le_refl _) _)
        go_upto_region 7 with fail
        go_region_held3 (fun w' => w'.cell? ⟨w.heap.size, 0, none⟩ = some (.int .i64 cy) ∧ w'.cell? ⟨w.heap.size, 1, none⟩ = some (.int .i64 mo) ∧ w'.cell? ⟨w.heap.size, 2, none⟩ = some (.int .i64 tr) ∧ w'.cell? ⟨w.heap.size, 3, none⟩ = some (.slice a1 L.length c1) ∧ w'.cell? ⟨b, m + i, none⟩ = some (.int .u16 id)) (first | (go_keep; done)) ((go_at_call 7; (first | ((with_reducible refine (HK.out wr.drew HBd.out).mono ?_); rintro e w2 ⟨P, a3, c3, rfl, HN⟩) | ((with_reducible refine (HK.out (wr.alloc (.cells #[.int .i64 0, .int .i64 0, .int .i64 0, .slice none 0 0] 25)).drew HBa.out).mono ?_); rintro e w2 ⟨P, a3, c3, rfl, HN⟩; have u0 := up HN.out.h (b := wr.heap.size) (o := 0) (v := .int .i64 0) (by simp [go_sem]); have p0 := upf HN.out.h (b := wr.heap.size) (o := 0) (by simp) (by simp [go_sem]); have u1 := up HN.out.h (b := wr.heap.size) (o := 1) (v := .int .i64 0) (by simp [go_sem]); have p1 := upf HN.out.h (b := wr.heap.size) (o := 1) (by simp) (by simp [go_sem]); have u2 := up HN.out.h (b := wr.heap.size) (o := 2) (v := .int .i64 0) (by simp [go_sem]); have p2 := upf HN.out.h (b := wr.heap.size) (o := 2) (by simp) (by simp [go_sem]); have u3 := up HN.out.h (b := wr.heap.size) (o := 3) (v := .slice none 0 0) (by simp [go_sem]); have p3 := upf HN.out.h (b := wr.heap.size) (o := 3) (by simp) (by simp [go_sem]); have lw2 : wr.heap.size < w2.heap.size := lt_of_cell u0; have PF := Lib.hid (fun (o : Nat) => upf HN.out.h (b := wr.heap.size) (o := o) (by simp) (by simp [go_sem])); have LOC := Lib.hid (fun (x : Addr) (hx : a3 = some x) => show x.block ≠ wr.heap.size by have := HN.out.l x hx; simp at this; omega)) | ((with_reducible refine (HK.out (wr.drew.alloc (.cells #[.int .i64 0, .int .i64 0, .int .i64 0, .slice none 0 0] 25)) HBa2.out).mono ?_); rintro e w2 ⟨P, a3, c3, rfl, HN⟩; have u0 := up HN.out.h (b := wr.heap.size) (o := 0) (v := .int .i64 0) (by simp [go_sem]); have p0 := upf HN.out.h (b := wr.heap.size) (o := 0) (by simp) (by simp [go_sem]); have u1 := up HN.out.h (b := wr.heap.size) (o := 1) (v := .int .i64 0) (by simp [go_sem]); have p1 := upf HN.out.h (b := wr.heap.size) (o := 1) (by simp) (by simp [go_sem]); have u2 := up HN.out.h (b := wr.heap.size) (o := 2) (v := .int .i64 0) (by simp [go_sem]); have p2 := upf HN.out.h (b := wr.heap.size) (o := 2) (by simp) (by simp [go_sem]); have u3 := up HN.out.h (b := wr.heap.size) (o := 3) (v := .slice none 0 0) (by simp [go_sem]); have p3 := upf HN.out.h (b := wr.heap.size) (o := 3) (by simp) (by simp [go_sem]); have lw2 : wr.heap.size < w2.heap.size := lt_of_cell u0; have PF := Lib.hid (fun (o : Nat) => upf HN.out.h (b := wr.heap.size) (o := o) (by simp) (by simp [go_sem])); have LOC := Lib.hid (fun (x : Addr) (hx : a3 = some x) => show x.block ≠ wr.heap.size by have := HN.out.l x hx; simp at this; omega))); have y0 := up HN.out.b x0; have y1 := up HN.out.b x1; have y2 := up HN.out.b x2; have y3 := up HN.out.b x3; have gw := up HN.out.b gx; have nf0 := World.new_ne w2 _ y0; have nf1 := World.new_ne w2 _ y1; have nf2 := World.new_ne w2 _ y2; have nf3 := World.new_ne w2 _ y3; have nf4 := World.new_ne w2 _ gw; clear HK))
        all_goals
          clear ne0 ne1 ne2 ne3 ne4 nf0 nf1 nf2 nf3 nf4 x0 x1 x2 x3 gx y0 y1 y2 y3 gw
          have hs2 := HN.out.b.size
          have hml : bm < wr.heap.size := HS.out.mp.lt
          have hpl : w.heap.size < wr.heap.size := HS.out.p.x.lt
          first
            | (have hbx : Below wr.heap.size wr ((((w2.setCell ⟨wr.heap.size, 0, none⟩ (.int .i64 cy)).setCell ⟨wr.heap.size, 1, none⟩ (.int .i64 mo)).setCell ⟨wr.heap.size, 2, none⟩ (.int .i64 tr)).setCell ⟨wr.heap.size, 3, none⟩ (.slice a3 P.length c3)) := below_rebox (w := wr) HN.out.b (Nat.le_refl _)
               have HQ := Lib.hid (show PB ((((w2.setCell ⟨wr.heap.size, 0, none⟩ (.int .i64 cy)).setCell ⟨wr.heap.size, 1, none⟩ (.int .i64 mo)).setCell ⟨wr.heap.size, 2, none⟩ (.int .i64 tr)).setCell ⟨wr.heap.size, 3, none⟩ (.slice a3 P.length c3)) wr.heap.size cy mo tr a3 c3 P from
                 ⟨Bx.of_sets u0 u1 u2 u3 PF.out, (((HN.out.r.far LOC.out 0 _).far LOC.out 1 _).far LOC.out 2 _).far LOC.out 3 _, HN.out.k, HN.out.n⟩)
               have HSX := Lib.hid (HS.out.mono hbx)
               have hBq : wr.heap.size ≠ w.heap.size ∧ wr.heap.size ≠ bm := by omega
               have gq := up hbx (up HSX0.out HGX.out)
               clear hbx u0 u1 u2 u3 p0 p1 p2 p3 PF LOC lw2
               generalize ((((w2.setCell ⟨wr.heap.size, 0, none⟩ (.int .i64 cy)).setCell ⟨wr.heap.size, 1, none⟩ (.int .i64 mo)).setCell ⟨wr.heap.size, 2, none⟩ (.int .i64 tr)).setCell ⟨wr.heap.size, 3, none⟩ (.slice a3 P.length c3)) = wx at *
               generalize wr.heap.size = Bq at *)
            | (have hbx := bthen' HN.out.b (blA w2 (.cells #[.int .i64 cy, .int .i64 mo, .int .i64 tr, .slice a3 P.length c3] 25))
               have HQ := Lib.hid (show PB (w2.alloc (.cells #[.int .i64 cy, .int .i64 mo, .int .i64 tr, .slice a3 P.length c3] 25)) w2.heap.size cy mo tr a3 c3 P from PB.new w2 cy mo tr HN.out.r HN.out.k HN.out.n)
               have HSX := Lib.hid (HS.out.mono hbx)
               have hBq : w2.heap.size ≠ w.heap.size ∧ w2.heap.size ≠ bm := by omega
               have gq := up hbx (up HSX0.out HGX.out)
               clear hbx
               generalize (w2.alloc (.cells #[.int .i64 cy, .int .i64 mo, .int .i64 tr, .slice a3 P.length c3] 25)) = wx at *
               generalize w2.heap.size = Bq at *)
          have HPE := Lib.hid HN.out.e
          obtain ⟨mn, hmn⟩ := HSX.out.mp
          have HM := Lib.hid hmn
          clear HN hmn HS hs2 hml hpl
          obtain ⟨rv, hrv⟩ : ∃ rv, (M id).getD (.int .i64 0) = rv := ⟨_, rfl⟩
          have HRV := Lib.hid hrv
          clear hrv
          have hP10 : P.length ≤ 10 := by rw [HPE.out]; have := nx_len L id; omega
          obtain ⟨l1, l2, l3⟩ := HSX.out.lt
          have FIN := Lib.hid fun (w9 : World) (hm9 : MapE w9 bm (putM M id (.int .i64 0))) (hg9 : wx.grownBy w9 (some bm)) => show En w (rebox w9 w.heap.size cy mo tr (.slice a3 P.length c3)) w.heap.size bm cy mo tr a3 c3 P (putM M id (.int .i64 0)) ∧ E0 P (putM M id (.int .i64 0)) xs (i + 1) ∧ Bx w9 w.heap.size cy mo tr (.slice a1 L.length c1) ∧ Bx w9 Bq cy mo tr (.slice a3 P.length c3) by
            have hp9 := HSX.out.p.map HM.out hg9
            have hq9 := HQ.out.map HM.out hg9
            have hb9 := below_map HSX.out.bel hg9 l2
            refine ⟨⟨below_rebox hb9 l1, hp9.re hq9.r hq9.k hq9.n, (((hm9.setCell (o := 0) l3).setCell (o := 1) l3).setCell (o := 2) l3).setCell (o := 3) l3, ⟨l1, l2, l3⟩, by rw [HPE.out]; exact HV.out, by rw [HPE.out]; exact HNX.out.2⟩, by rw [HPE.out]; exact HNX.out.1, hp9.x, hq9.x⟩
          have hPM := Lib.hid hP10
          clear hP10
          go_wp2_with (first | (at_lookup; refine wpList_mapLookOk wx rfl _ _ 26 rfl 3 3 Try.underlying3 Try.underlying26 bm mn M rfl HM.out (.int .i64 0) (zero3 _) id WFI.out rfl rv false HRV.out HS1.out ?_) | (at_mapUpdate; refine wpList_mapPutE wx rfl _ _ _ 26 rfl 3 3 Try.underlying3 Try.underlying26 bm M rfl ⟨mn, HM.out⟩ id (.int .i64 0) WFI.out rfl rfl ?_; intro w9 hm9 hg9 hz9; obtain ⟨hF1, hF2, hF3, hF4⟩ := FIN.out w9 hm9 hg9; have HF1 := Lib.hid hF1; have HF2 := Lib.hid hF2; have y0 := hF3.c0; have y1 := hF3.c1; have y2 := hF3.c2; have y3 := hF3.c3; have g0 := hF3.f 0; have g1 := hF3.f 1; have g2 := hF3.f 2; have g3 := hF3.f 3; have z0 := hF4.c0; have z1 := hF4.c1; have z2 := hF4.c2; have z3 := hF4.c3; have hBl := hF3.lt; clear hF1 hF2 hF3 hF4 hm9 hg9))
          go_roundw
          case rel => exact ⟨i + 1, P, _, a3, c3, by go_num, by omega, HF2.out, HF1.out⟩
          case measure => simp [intOf]; omega
    · obtain rfl : i = N := by omega
      have hL10 : L.length ≤ 10 := by have := hE.len; omega
      obtain ⟨E1, hE1⟩ : ∃ E1, cy * ((i : Int) + 2) = E1 := ⟨_, rfl⟩
      have bE1 := mul_bd (a := cy) (b := (i : Int) + 2) (c := 9) (d := 12) (by omega) (by omega)
      obtain ⟨T, hT⟩ : ∃ T, E1 * (tr + 2) = T := ⟨_, rfl⟩
      rw [hE1] at bE1
      have bT := mul_bd (a := E1) (b := tr + 2) (c := 108) (d := 6) (by omega) (by omega)
      rw [hT] at bT
      have wE1 : IntKind.i64.wrap (cy * ((i : Int) + 2)) = E1 := by rw [hE1]; exact IntWalk.i64_in _ (by omega)
      have wT : IntKind.i64.wrap (E1 * (tr + 2)) = T := by rw [hT]; exact IntWalk.i64_in _ (by omega)
      have HT := Lib.hid (show T = cy * (((i : Int) + 2) * (tr + 2)) by rw [← hT, ← hE1, Int.mul_assoc])
      have HP0 := Lib.hid (show Pt cy tr ((i : Int) * (tr + 1)) L 0 0 from ⟨⟨by omega, by omega⟩, fun r h0 h1 => by
        have h2 := pot_le (cy := cy) (r := r) (L := L) (fun x hx => (hS.v.b x hx).2.2.2.2.1) (show 0 ≤ tr by omega)
        have h3 : (L.length : Int) * (tr + 1) ≤ (i : Int) * (tr + 1) := Int.mul_le_mul_of_nonneg_right (by have := hE.len; omega) (by omega)
        rw [if_neg (by omega)]
        omega⟩)
      have HK := Lib.hid hE.k
      have bT2 : 0 ≤ T ∧ T ≤ 648 := by omega
      have hlc : 1 ≤ cy ∧ cy ≤ 256 ∧ 1 ≤ mo ∧ mo ≤ 16 ∧ 1 ≤ tr ∧ tr ≤ 32 := by omega
      have HLC := Lib.hid hlc
      clear hE hS hE1 hT bE1 bT hlc
      go_upto_region 14 with fail
      go_loopw [17] (fun s17 wx => ∃ (t : Nat) (q s : Int) (L : List Pg) (M : Int → Option Value) (a1 : Option Addr) (c1 : Nat), s17 = .int .i64 t ∧ (t : Int) ≤ T ∧ (t : Int) = cy * q + s ∧ Pt cy tr ((i : Int) * (tr + 1)) L q s ∧ L.length ≤ 10 ∧ (∀ k, k < i → M (xs k) ≠ none) ∧ En w wx w.heap.size bm cy mo tr a1 c1 L M) (fun s17 _ => T.toNat - (intOf s17).toNat)
      case atStart => exact ⟨0, 0, 0, L, M, a1, c1, rfl, by omega, by omega, HP0.out, hL10, HK.out, HS.out⟩
      case round =>
        clear HS HP0 HK hL10
        obtain ⟨t, q, s, L, M, a1, c1, rfl, ht, hq, hP, hl, hK, hS⟩ := hrel
        have HS := Lib.hid hS
        have HQ := Lib.hid hq
        have HPT := Lib.hid hP
        have HK := Lib.hid hK
        have hsr := hS.bel.size
        have HLT := Lib.hid hS.lt
        have z0 := hS.p.x.c0
        have z1 := hS.p.x.c1
        have z2 := hS.p.x.c2
        have z3 := hS.p.x.c3
        have t0 : (0 : Int) ≤ (t : Int) := by omega
        clear hq hP hK
        by_cases htT : (t : Int) < T
        · obtain ⟨HE1, HO1⟩ := tk_ok (t := (t : Int)) HLC.out hS.v (by omega) ⟨by omega, by omega⟩
          have HTI := Lib.hid (tkF_inv (cy := cy) (mo := mo) (tr := tr) (t := (t : Int)) ⟨by omega, by omega⟩ (by omega) (by omega) _ L rfl hS.v)
          have HFL := Lib.hid (tkF_len cy mo tr (t : Int) L)
          have HE := Lib.hid HE1
          have HO := Lib.hid HO1
          have hmod : (t : Int) % cy = s := emod_of HQ.out HPT.out.s0
          have HMD := Lib.hid hmod
          have K1 := Lib.hid (tick8 cy mo tr (t : Int) a1 L.length c1 _ _ _ _ hS.p.r hS.p.k.1 hS.p.k.2 hS.p.n (by omega))
          clear hS HE1 HO1 hmod
          unfold gv at *
          go_wp2_with fail
          refine K1.out.mono ?_
          rintro e w4 ⟨P, A, G, a3, bA, bG, c3, cA, cG, hP, rfl, hc3, hA3, hR3, hI3, hJ3, hb⟩
          rw [HE.out]
          have hS4 := HS.out.mono hb
          have HS4 := Lib.hid hS4
          have hs4 := hS4.bel.size
          have hPF : (P, A, G) = tkF cy mo tr (t : Int) L := hP.trans HO.out
          have hTI := HTI.out
          have hFL := HFL.out
          rw [← hPF] at hTI hFL
          have HTK := Lib.hid hTI
          have hlA : A.length ≤ L.length := hFL.2.1
          have hlG : G.length ≤ L.length := hFL.2.2
          have hlP : P.length ≤ L.length := hFL.1
          have hlm : (A.length : Int) ≤ mo := hTI.len
          have hbn := blA w4 (.cells #[.int .i64 cy, .int .i64 mo, .int .i64 tr, .slice a3 P.length c3] 25)
          have HX5 := Lib.hid (show St w (w4.alloc (.cells #[.int .i64 cy, .int .i64 mo, .int .i64 tr, .slice a3 P.length c3] 25)) w.heap.size w4.heap.size bm cy mo tr a1 c1 L a3 c3 P M bA A bG G from
            ⟨bthen hS4.bel hbn hs4, hS4.p.mono hbn, PB.new (L := P) w4 cy mo tr hR3 hc3 hA3, hS4.mp.mono hbn, hI3.mono hbn, hJ3.mono hbn⟩)
          have lB1 := hS4.p.x.lt
          have lBm := hS4.mp.lt
          clear hb hP hc3 hA3 hR3 hI3 hJ3 K1 z0 z1 z2 z3 hbn hS4 hPF hTI hFL HTI HFL HE HO
          unfold gv at *
          go_upto_region 17 with fail
          generalize (w4.alloc (.cells #[.int .i64 cy, .int .i64 mo, .int .i64 tr, .slice a3 P.length c3] 25)) = w5 at *
          generalize hB3 : w4.heap.size = B3 at *
          clear hB3
          have z1 := HX5.out.p.x.c1
          go_upto_region 19 with fail
          clear z1
          have hlb := HLT.out.2.1
          have bs : 0 ≤ s ∧ s < cy := HPT.out.s0
          go_wp2_with fail
          go_loopw [22] (fun s22 wx => ∃ (j : Nat) (M1 : Int → Option Value), s22 = .int .i64 j ∧ j ≤ A.length ∧ CA M M1 (A.take j) ∧ St w wx w.heap.size B3 bm cy mo tr a1 c1 L a3 c3 P M1 bA A bG G) (fun s22 _ => A.length - (intOf s22).toNat)
          case atStart => exact ⟨0, M, rfl, Nat.zero_le _, by simpa using CA.nil M, HX5.out⟩
          case round =>
            clear HX5
            obtain ⟨j, M1, rfl, hj, hCA, hX⟩ := hrel
            have HX := Lib.hid hX
            by_cases hjl : j < A.length
            · obtain ⟨cc, k1, k2, k3, k4, k5, k6, k7, k8, k9⟩ := call_at HS.out.mi HS.out.v HTK.out hjl hCA
              obtain ⟨bb, mm, ha1, ha2⟩ := hX.rA
              obtain rfl := ha1 (by omega)
              have e1 := ha2 j hjl
              have HNC := Lib.hid (show CA M (putM M1 (nI A j) (.int .i64 (cc + 1))) (A.take (j + 1)) by rw [k9]; exact CA.snoc hCA k8 k1)
              have HV1 := Lib.hid (show (M1 (nI A j)).getD (.int .i64 0) = .int .i64 cc by rw [k2]; rfl)
              have HV2 := Lib.hid (show ((putM M1 (nI A j) (.int .i64 (cc + 1))) (nI A j)).getD (.int .i64 0) = .int .i64 (cc + 1) by unfold putM; rw [if_pos rfl]; rfl)
              have WF := Lib.hid (i64_wf (x := nI A j) (by omega))
              rw [HMD.out] at k5
              obtain ⟨mn, hmn⟩ := hX.mp
              have HM := Lib.hid hmn
              have j1 : (0 : Int) ≤ (j : Int) := by omega
              have j2 : (j : Int) < (A.length : Int) := by omega
              have r1 : (nI A j).tmod cy = s := by rw [Int.tmod_eq_emod_of_nonneg k6]; exact k5
              have r2 : (t : Int).tmod cy = s := by rw [Int.tmod_eq_emod_of_nonneg t0]; exact HMD.out
              have R1 := Lib.hid r1
              have R2 := Lib.hid r2
              have R3 := Lib.hid k5
              clear ha1 ha2 hCA k1 k2 k8 k9 k5 hmn hX r1 r2
              generalize nI A j = id at *
              go_upto_region 23 with (first | (at_lookup; refine wpList_mapLook wr rfl _ _ 26 rfl 3 3 Try.underlying3 Try.underlying26 bm mn M1 rfl HM.out (.int .i64 0) (zero3 _) id WF.out rfl (.int .i64 cc) HV1.out ?_) | (at_mapUpdate; refine wpList_mapPutE wr rfl _ _ _ 26 rfl 3 3 Try.underlying3 Try.underlying26 bm M1 rfl ⟨mn, HM.out⟩ id (.int .i64 (cc + 1)) WF.out rfl rfl ?_; intro w9 hm9 hg9 hz9; have HX9 := Lib.hid (HX.out.put hm9 hg9 hlb); have HM9 := Lib.hid hm9; have e9 := map_far HM.out hg9 e1; clear hm9 hg9 hz9 e1))
              have z0 := HX9.out.p.x.c0
              have z2 := HX9.out.p.x.c2
              have r1 := R1.out
              have r2 := R2.out
              have r3 := R3.out
              have r4 := HMD.out
              have qs : (s != s) = false := by simp
              have cy1 : 1 ≤ cy := by omega
              have cy2 : cy ≠ 0 := by omega
              have sb1 : 0 ≤ s := bs.1
              have sb2 : s < cy := bs.2
              have nz : (cy == 0) = false := beq_eq_false_iff_ne.2 (by omega)
              have n1 : (cy == -1) = false := beq_eq_false_iff_ne.2 (by omega)
              have qt : decide (tr < cc + 1) = false := decide_eq_false (by omega)
              have hlk : ∀ q, (Instr.lookup 26 (.map (some bm)) (.int .i64 id) false).run Try.prog (w9.drewN q) = .ok (.int .i64 (cc + 1)) (w9.drewN q) := fun q => by
                have := ((HM9.out.mono (below_drewN (Below.refl _ _) q)).look (P := Try.prog) (T := 26) (K := 3) (E := 3) Try.underlying3 Try.underlying26 (zero3 _) WF.out).1
                rw [HV2.out] at this
                exact this
              go_quiet (fail)
              go_wp2
              go_roundw
              case rel => exact ⟨j + 1, _, by go_num, by omega, HNC.out, HX9.out.mono (below_drewN (Below.refl _ _) _)⟩
              case measure => simp [intOf]; omega
            · obtain rfl : j = A.length := by omega
              rw [List.take_length] at hCA
              have HCA := Lib.hid hCA
              clear hCA hX
              go_wp2_with fail
              go_loopw [23] (fun s23 wx => ∃ (g : Nat) (M2 : Int → Option Value), s23 = .int .i64 g ∧ g ≤ G.length ∧ CB M1 M2 (G.take g) ∧ St w wx w.heap.size B3 bm cy mo tr a1 c1 L a3 c3 P M2 bA A bG G) (fun s23 _ => G.length - (intOf s23).toNat)
              case atStart => exact ⟨0, M1, rfl, Nat.zero_le _, by simpa using CB.nil M1, HX.out⟩
              case round =>
                clear HX
                obtain ⟨g, M2, rfl, hg, hCB, hX⟩ := hrel
                have HX := Lib.hid hX
                by_cases hgl : g < G.length
                · obtain ⟨k1, k2, k3, k4⟩ := give_at HS.out.mi HTK.out HCA.out hgl hCB HS.out.v
                  obtain ⟨bb, mm, ha1, ha2⟩ := hX.rB
                  obtain rfl := ha1 (by omega)
                  have e1 := ha2 g hgl
                  have HNC := Lib.hid (show CB M1 (putM M2 (nI G g) (.int .i64 (-1000))) (G.take (g + 1)) by rw [k4]; exact CB.snoc hCB)
                  have HV1 := Lib.hid (show (M2 (nI G g)).getD (.int .i64 0) = .int .i64 tr by rw [k1]; rfl)
                  have WF := Lib.hid (i64_wf (x := nI G g) (by omega))
                  have j1 : (0 : Int) ≤ (g : Int) := by omega
                  have j2 : (g : Int) < (G.length : Int) := by omega
                  have z2 := hX.p.x.c2
                  have qs : (tr != tr) = false := by simp
                  have hlk : ∀ q, (Instr.lookup 26 (.map (some bm)) (.int .i64 (nI G g)) false).run Try.prog (wr.drewN q) = .ok (.int .i64 tr) (wr.drewN q) := fun q => by
                    have := ((HX.out.mp.mono (below_drewN (Below.refl _ _) q)).look (P := Try.prog) (T := 26) (K := 3) (E := 3) Try.underlying3 Try.underlying26 (zero3 _) WF.out).1
                    rw [HV1.out] at this
                    exact this
                  clear ha1 ha2 hCB k1 k4 hX
                  generalize nI G g = id at *
                  go_upto_region 28 with fail
                  go_quiet (fail)
                  clear hlk z2 qs
                  have HX8 := Lib.hid (HX.out.mono (below_drewN (Below.refl _ _) nq))
                  have e2 : (wr.drewN nq).cell? ⟨bb, mm + g, none⟩ = some (.int .i64 id) := e1
                  clear e1
                  generalize wr.drewN nq = w8 at *
                  go_wp2_with (at_mapUpdate; refine wpList_mapPutE w8 rfl _ _ _ 26 rfl 3 3 Try.underlying3 Try.underlying26 bm M2 rfl HX8.out.mp id (.int .i64 (-1000)) WF.out rfl rfl ?_; intro w9 hm9 hg9 hz9; have HX9 := Lib.hid (HX8.out.put hm9 hg9 hlb); clear hm9 hg9 hz9)
                  go_roundw
                  case rel => exact ⟨g + 1, _, by go_num, by omega, HNC.out, HX9.out⟩
                  case measure => simp [intOf]; omega
                · obtain rfl : g = G.length := by omega
                  rw [List.take_length] at hCB
                  have hl3 := HLT.out
                  have HMI := Lib.hid (HS.out.mi.tick HTK.out HCA.out hCB)
                  have HKK := Lib.hid (fun (k : Nat) (hk : k < i) => hCB.some (HCA.out.some (called HS.out.mi HTK.out) (HK.out k hk)))
                  have HNP := Lib.hid (show ∃ q' s', ((t + 1 : Nat) : Int) = cy * q' + s' ∧ Pt cy tr ((i : Int) * (tr + 1)) P q' s' by
                    obtain ⟨p1, p2⟩ := HPT.out.tick HTK.out HS.out.v HMD.out (by omega)
                    have hq := HQ.out
                    by_cases h : s + 1 < cy
                    · exact ⟨q, s + 1, by omega, p1 h⟩
                    · exact ⟨q + 1, 0, by rw [Int.mul_add, Int.mul_one]; omega, p2 (by omega)⟩)
                  have HEN := Lib.hid (show En w (rebox wr w.heap.size cy mo tr (.slice a3 P.length c3)) w.heap.size bm cy mo tr a3 c3 P M2 from
                    ⟨below_rebox hX.bel hl3.1, hX.p.re hX.q.r hX.q.k hX.q.n, (((hX.mp.setCell (o := 0) hl3.2.2).setCell (o := 1) hl3.2.2).setCell (o := 2) hl3.2.2).setCell (o := 3) hl3.2.2, hl3, HTK.out.vl HS.out.v, HMI.out⟩)
                  unfold rebox at HEN
                  have y0 := hX.q.x.c0
                  have y1 := hX.q.x.c1
                  have y2 := hX.q.x.c2
                  have y3 := hX.q.x.c3
                  have z0 := hX.p.x.c0
                  have z1 := hX.p.x.c1
                  have z2 := hX.p.x.c2
                  have z3 := hX.p.x.c3
                  have f0 := hX.p.x.f 0
                  have f1 := hX.p.x.f 1
                  have f2 := hX.p.x.f 2
                  have f3 := hX.p.x.f 3
                  have hBl := hX.p.x.lt
                  clear hX hCB hl3
                  go_wp2_with fail
                  go_roundw
                  case rel =>
                    obtain ⟨q', s', hq', hp'⟩ := HNP.out
                    exact ⟨t + 1, q', s', P, M2, a3, c3, by go_num, by omega, hq', hp', by omega, HKK.out, HEN.out⟩
                  case measure => simp [intOf]; omega
        · have htT' : (t : Int) = T := by omega
          have hLe : L = [] := by
            have h1 := HQ.out
            rw [htT', HT.out] at h1
            obtain ⟨h2, h3⟩ := last_tick h1 HPT.out.s0
            have h4 := HPT.out
            rw [h2] at h4
            refine h4.end' ?_ hS.v (by omega)
            rw [h3]
            exact Int.mul_le_mul (by omega) (by omega) (by omega) (by omega)
          subst hLe
          have HML := Lib.hid (fun (k : Nat) (hk : k < i) => show (M (xs k)).getD (.int .i64 0) = .int .i64 (-1000) by
            rcases hS.mi.m2 (xs k) (by simp) with h | h
            · exact absurd h (HK.out k hk)
            · rw [h]; rfl)
          obtain ⟨mn, hmn⟩ := hS.mp
          have HM := Lib.hid hmn
          have HB := Lib.hid hS.bel
          have z3' : wr.cell? ⟨w.heap.size, 3, none⟩ = some (.slice a1 0 c1) := z3
          clear hS hmn z3
          go_wp2_with fail
          obtain ⟨wo, hwo⟩ : ∃ wo : World, wo = wr := ⟨_, rfl⟩
          subst hwo
          go_loopw [24] (fun s24 wx => ∃ (k : Nat), s24 = .int .i64 k ∧ k ≤ i ∧ wx = wo) (fun s24 _ => i - (intOf s24).toNat)
          case atStart => exact ⟨0, rfl, Nat.zero_le _, rfl⟩
          case round =>
            obtain ⟨k, rfl, hk, rfl⟩ := hrel
            by_cases hki : k < i
            · obtain ⟨gy, gz⟩ := HL.out.hx k (by omega)
              have hai := HL.out.ha (by omega)
              subst hai
              have gx := up HB.out gy
              have i1 : (0 : Int) ≤ (k : Int) := by omega
              have i2 : (k : Int) < (n : Int) := by omega
              have WF := Lib.hid (i64_wf (x := xs k) (by omega))
              have HV := Lib.hid (HML.out k hki)
              have wI : IntKind.i64.wrap (xs k) = xs k := IntWalk.i64_in _ (by omega)
              clear gy
              generalize xs k = id at *
              go_wp2_with (at_lookup; refine wpList_mapLook _ rfl _ _ 26 rfl 3 3 Try.underlying3 Try.underlying26 bm mn M rfl HM.out (.int .i64 0) (zero3 _) id WF.out rfl (.int .i64 (-1000)) HV.out ?_)
              go_roundw
              case rel => exact ⟨k + 1, by go_num, by omega, trivial⟩
              case measure => simp [intOf]; omega
            · go_wp2_with fail
              refine (awake9 _).mono ?_
              rintro e w5 ⟨rfl, hb⟩
              have HB5 := Lib.hid (bthen HB.out hb hsr)
              clear hb
              go_wp2
              go_ret
              exact ⟨rfl, HB5.out⟩
end Go.Proofs.Ytobmnajgbhgdlaa
