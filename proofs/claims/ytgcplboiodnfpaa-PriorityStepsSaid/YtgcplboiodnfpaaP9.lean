/- Layer 25: buckets that are made of numbers. -/
import Derived.Test.YtgcplboiodnfpaaL2
import Derived.Test.YtgcplboiodnfpaaRest
namespace Go.Proofs.Ytgcplboiodnfpaa
set_option linter.unusedVariables false
set_option linter.unusedSimpArgs false
open Go.RowKit Go.Sort
attribute [local go_sem] gcell

theorem only_then {a b c : World} {p B : Nat} (h : OnlyP a b p) (k : Below B b c) (hB : a.heap.size ≤ B) : OnlyP a c p :=
  ⟨k.os.trans h.os, k.tape.trans h.tape, k.output.trans h.output, Nat.le_trans h.size k.size, fun i hi hne => (k.block i (by omega)).trans (h.block i hi hne)⟩
theorem DiceAt.low {w w' : World} {p g : Nat} {a : Option Addr} {cap n : Nat} {xs : Nat → Int} {k B : Nat} (D : DiceAt w p g a cap n xs k) (hb : Below B w w') (hp : p < B) (hg : g < B) : DiceAt w' p g a cap n xs k :=
  ⟨(hb.cell (p := ⟨p, 0, none⟩) hp).trans D.c0, (hb.cell (p := ⟨p, 1, none⟩) hp).trans D.c1, fun o => (hb.frozen (p := ⟨p, o, none⟩) hp).trans (D.f o), D.ea, D.ne, Nat.lt_of_lt_of_le D.gl hb.size, fun i hi => (hb.cell (p := ⟨g, i, none⟩) hg).trans (D.xs i hi)⟩
theorem own_only {w w' : World} {base e s n p : Nat} {v : Value} {xs : List Value} (h : w.ownsRow base e s v n xs) (hO : OnlyP w w' p) (hp : p < base) : w'.ownsRow base e s v n xs :=
  h.kept hO (.inr fun hc => by have := (h.lt p hc).1; omega)
theorem oalloc (w : World) (o : Obj) (p : Nat) : OnlyP w (w.alloc o) p := ⟨rfl, rfl, rfl, by simp, fun k hk _ => Below.heap_alloc w o k hk⟩
theorem otrans {a b c : World} {p : Nat} (h : OnlyP a b p) (k : OnlyP b c p) : OnlyP a c p := grown_trans h k
theorem orefl (w : World) (p : Nat) : OnlyP w w p := ⟨rfl, rfl, rfl, Nat.le_refl _, fun _ _ _ => rfl⟩
theorem own_put {w : World} {base e : Nat} {v : Value} {k : Nat} {ys : Nat → Int} (x : Int) (h : w.ownsRow base e 1 v k ((List.range k).map (iv ys))) : w.ownsRow base e 1 v k ((List.range k).map (iv (putI ys k x))) := by
  have : (List.range k).map (iv (putI ys k x)) = (List.range k).map (iv ys) := List.map_congr_left fun j hj => by
    have := List.mem_range.1 hj
    unfold iv putI
    rw [if_neg (by omega)]
  rw [this]
  exact h
/-- A bucket, and what waits, that are made of numbers. -/
def BMade (P R M T W : Int) : Prop := (0 ≤ P ∧ P ≤ 3) ∧ (0 ≤ R ∧ R ≤ 29) ∧ (0 ≤ M ∧ M ≤ 89) ∧ (-30 ≤ T ∧ T ≤ M) ∧ 0 ≤ W ∧ W ≤ 79
theorem bf_upd {P R M T : Nat → Int} {k : Nat} {x y z t : Int} (j : Nat) (hj : j < k * 4) : bf (putI P k x) (putI R k y) (putI M k z) (putI T k t) j = bf P R M T j := by
  have : j / 4 ≠ k := by omega
  unfold bf putI
  rw [if_neg this, if_neg this, if_neg this, if_neg this]
theorem bf_new {P R M T : Nat → Int} {k : Nat} {x y z t : Int} (j : Nat) (h : j < 4) : (#[.int .i64 x, .int .i64 y, .int .i64 z, .int .i64 t] : Array Value)[j]? = some (bf (putI P k x) (putI R k y) (putI M k z) (putI T k t) (k * 4 + j)) := by
  have := bf_snoc (putI P k x) (putI R k y) (putI M k z) (putI T k t) k j h
  rw [← this]
  simp [putI]
def BsR (p g : Nat) (aa : Option Addr) (cap n0 : Nat) (xs : Nat → Int) (w : World) (e : Ending) (w' : World) : Prop :=
  ∃ (n : Nat) (u v : Value) (kd : Nat) (P R M T W : Nat → Int), e = .returned (.tuple #[u, v]) ∧ (1 ≤ n ∧ n ≤ 5) ∧ w'.ownsRow w.heap.size 35 4 u n ((List.range (n * 4)).map (bf P R M T)) ∧ w'.ownsRow w.heap.size 3 1 v n ((List.range n).map (iv W)) ∧ Apart u v ∧
    (∀ k, k < n → BMade (P k) (R k) (M k) (T k) (W k)) ∧ DiceAt w' p g aa cap n0 xs kd ∧ kd ≤ n0 ∧ OnlyP w w' p

set_option maxRecDepth 100000 in
set_option maxHeartbeats 8000000 in
theorem buckets11 (p g : Nat) (aa : Option Addr) (cap n0 : Nat) (xs : Nat → Int) (k0' : Nat) (w : World) (h300 : n0 ≤ 300) (hk0 : k0' ≤ n0) (D : DiceAt w p g aa cap n0 xs k0') :
    Calls Try.prog 11 #[.pointer (some ⟨p, 0, none⟩)] w (BsR p g aa cap n0 xs w) := by
  have HD := Lib.hid D
  have lp := lt_of_cell D.c0
  have lg := D.gl
  clear D
  go_enter Try.func11, Try.ntmps11
  go_wp2_with fail
  refine (dice_next p g aa cap n0 xs k0' 5 _ (by omega) h300 HD.out).mono ?_
  have bv := dval_bd xs n0 k0' 5 (by omega)
  generalize dval xs n0 k0' 5 = v1 at *
  obtain ⟨M0, hM⟩ : ∃ M0 : Nat, v1 = M0 := ⟨v1.toNat, by omega⟩
  subst hM
  rintro e w1 ⟨rfl, hD, hO⟩
  have hk1 : dnext n0 k0' ≤ n0 := dnext_le hk0
  generalize dnext n0 k0' = k1 at *
  have HD1 := Lib.hid hD
  have HO1 := Lib.hid hO
  clear hD hO HD
  go_wp2_with fail
  go_loopw [4, 5, 6] (fun s4 s5 s6 wr => ∃ (k kd : Nat) (P R M T W : Nat → Int), s6 = .int .i64 (1 + (M0 : Int) - k) ∧ k ≤ M0 + 1 ∧ kd ≤ n0 ∧ wr.ownsRow w.heap.size 35 4 s4 k ((List.range (k * 4)).map (bf P R M T)) ∧ wr.ownsRow w.heap.size 3 1 s5 k ((List.range k).map (iv W)) ∧ Apart s4 s5 ∧ (∀ j, j < k → BMade (P j) (R j) (M j) (T j) (W j)) ∧ DiceAt wr p g aa cap n0 xs kd ∧ OnlyP w wr p) (fun _ _ s6 _ => (intOf s6).toNat)
  case atStart => exact ⟨0, k1, fun _ => 0, fun _ => 0, fun _ => 0, fun _ => 0, fun _ => 0, by simp, by omega, hk1, own_nilK _ _ _ _ _, World.ownsRow_nil _ _ _ _, Apart.nil _, fun j hj => absurd hj (Nat.not_lt_zero _), HD1.out, HO1.out⟩
  case round =>
    rename_i v4 v5
    clear HD1 HO1
    obtain ⟨k, kd, P, R, M, T, W, rfl, hk, hkd, hU, hV, hA, hm, hD, hO⟩ := hrel
    have HU := Lib.hid hU
    have HV := Lib.hid hV
    have HA := Lib.hid hA
    have HM := Lib.hid hm
    have HD := Lib.hid hD
    have HO := Lib.hid hO
    clear hU hV hA hm hD hO
    by_cases hlt : k < M0 + 1
    · have hpos : (0 : Int) < 1 + (M0 : Int) - k := by omega
      go_wp2_with fail
      refine (dice_next p g aa cap n0 xs kd 4 _ (by omega) h300 HD.out).mono ?_
      have b1 := dval_bd xs n0 kd 4 (by omega)
      generalize dval xs n0 kd 4 = x1 at *
      have l1 : dnext n0 kd ≤ n0 := dnext_le hkd
      generalize dnext n0 kd = j1 at *
      rintro e w2 ⟨rfl, hD, hO⟩
      have HD2 := Lib.hid hD
      have HO2 := Lib.hid (otrans HO.out hO)
      have HU2 := Lib.hid (own_only HU.out hO lp)
      have HV2 := Lib.hid (own_only HV.out hO lp)
      clear hD hO HD HO HU HV
      go_wp2_with fail
      refine (dice_next p g aa cap n0 xs j1 30 _ (by omega) h300 HD2.out).mono ?_
      have b2 := dval_bd xs n0 j1 30 (by omega)
      generalize dval xs n0 j1 30 = x2 at *
      have l2 : dnext n0 j1 ≤ n0 := dnext_le l1
      generalize dnext n0 j1 = j2 at *
      rintro e w3 ⟨rfl, hD, hO⟩
      have HD3 := Lib.hid hD
      have HO3 := Lib.hid (otrans HO2.out hO)
      have HU3 := Lib.hid (own_only HU2.out hO lp)
      have HV3 := Lib.hid (own_only HV2.out hO lp)
      clear hD hO HD2 HO2 HU2 HV2
      go_wp2_with fail
      refine (dice_next p g aa cap n0 xs j2 90 _ (by omega) h300 HD3.out).mono ?_
      have b3 := dval_bd xs n0 j2 90 (by omega)
      generalize dval xs n0 j2 90 = x3 at *
      have l3 : dnext n0 j2 ≤ n0 := dnext_le l2
      generalize dnext n0 j2 = j3 at *
      rintro e w4 ⟨rfl, hD, hO⟩
      have hO4 := otrans HO3.out hO
      have HD4 := Lib.hid hD
      have HO4 := Lib.hid hO4
      have HU4 := Lib.hid (own_only HU3.out hO lp)
      have HV4 := Lib.hid (own_only HV3.out hO lp)
      have z4 := hO4.size
      clear hD hO hO4 HD3 HO3 HU3 HV3
      have KD := Lib.hid fun W5 (h : Below w4.heap.size w4 W5) => dice_next p g aa cap n0 xs j3 120 W5 (by omega) h300 (HD4.out.mono h)
      have b4 := dval_bd xs n0 j3 120 (by omega)
      have l4 : dnext n0 j3 ≤ n0 := dnext_le l3
      generalize dval xs n0 j3 120 = x4 at *
      generalize dnext n0 j3 = j4 at *
      obtain ⟨tt, htt⟩ : ∃ tt, (if x4 - 30 < x3 then x4 - 30 else x3) = tt := ⟨_, rfl⟩
      have bt : -30 ≤ tt ∧ tt ≤ x3 := by rw [← htt]; split <;> omega
      have lpz : p < w4.heap.size := by omega
      have ew : IntKind.i64.wrap (x4 - 30) = x4 - 30 := IntWalk.i64_in _ (by omega)
      have b5 := dval_bd xs n0 j4 80 (by omega)
      have l5 : dnext n0 j4 ≤ n0 := dnext_le l4
      have K5 := Lib.hid fun (W5 : World) (D : DiceAt W5 p g aa cap n0 xs j4) => dice_next p g aa cap n0 xs j4 80 W5 (by omega) h300 D
      generalize dval xs n0 j4 80 = x5 at *
      generalize dnext n0 j4 = j5 at *
      go_upto_region 7 with fail
      go_region_held3 (fun w' => w'.cell? ⟨w4.heap.size, 2, none⟩ = some (.int .i64 x3)) (first | assumption | (go_keep; done) | exact only_cell hO5 (by omega) (by first | assumption | (go_keep; done) | simp [go_sem]) | (rw [World.cell?_setCell_other _ _ _ _ (by simp)]; assumption))
        ((go_at_call 17; refine (KD.out _ (by first | exact (below_alloc _ _).drew | exact (Below.refl _ _).drew.alloc (Nat.le_refl _) _)).mono ?_; rintro e w5 ⟨rfl, hD5, hO5⟩; have s0 := only_cell (b := w4.heap.size) (o := 0) (v := .int .i64 x1) hO5 (by omega) (by simp [go_sem]); have s1 := only_cell (b := w4.heap.size) (o := 1) (v := .int .i64 x2) hO5 (by omega) (by simp [go_sem]); have s2 := only_cell (b := w4.heap.size) (o := 2) (v := .int .i64 x3) hO5 (by omega) (by simp [go_sem]); have s3 := only_cell (b := w4.heap.size) (o := 3) (v := .int .i64 0) hO5 (by omega) (by simp [go_sem]); have f3 := only_frozen (b := w4.heap.size) (o := 3) hO5 (by omega) (by simp) (by simp [go_sem])))
      have hO45 : OnlyP w4 w5 p := otrans (otrans (oalloc w4 _ p) (grown_drewN _ 1 _)) hO5
      have lB := lt_of_cell s0
      have hbs : Below w4.heap.size w5 (w5.setCell ⟨w4.heap.size, 3, none⟩ (.int .i64 tt)) := (Below.refl w4.heap.size w5).setCell (p := ⟨w4.heap.size, 3, none⟩) (Nat.le_refl _) _
      have hO46 := only_then hO45 hbs (Nat.le_refl _)
      have HO6 := Lib.hid (otrans HO4.out hO46)
      have HD6 := Lib.hid (hD5.low hbs lpz (by omega))
      have HU6 := Lib.hid (own_only HU4.out hO46 lp)
      have HV6 := Lib.hid (own_only HV4.out hO46 lp)
      have c0 : (w5.setCell ⟨w4.heap.size, 3, none⟩ (.int .i64 tt)).cell? ⟨w4.heap.size, 0, none⟩ = some (.int .i64 x1) := by rw [cell_set, if_neg (by simp)]; exact s0
      have c1 : (w5.setCell ⟨w4.heap.size, 3, none⟩ (.int .i64 tt)).cell? ⟨w4.heap.size, 1, none⟩ = some (.int .i64 x2) := by rw [cell_set, if_neg (by simp)]; exact s1
      have c2 : (w5.setCell ⟨w4.heap.size, 3, none⟩ (.int .i64 tt)).cell? ⟨w4.heap.size, 2, none⟩ = some (.int .i64 x3) := by rw [cell_set, if_neg (by simp)]; exact s2
      have c3 : (w5.setCell ⟨w4.heap.size, 3, none⟩ (.int .i64 tt)).cell? ⟨w4.heap.size, 3, none⟩ = some (.int .i64 tt) := by rw [cell_set, if_pos rfl, s3]; rfl
      have z6 : w.heap.size ≤ (w5.setCell ⟨w4.heap.size, 3, none⟩ (.int .i64 tt)).heap.size := by simp; omega
      have hk6 : k + 1 ≤ 1000000 := by omega
      clear hO45 hbs hO46 hO5 hD5 s0 s1 s2 s3 f3 HU4 HV4 HD4 HO4 KD ew htt
      generalize w5.setCell ⟨w4.heap.size, 3, none⟩ (.int .i64 tt) = w6 at *
      generalize w4.heap.size = B at *
      go_wp2_with (first
        | (at_builtin; refine wpList_append_elem w6 w6 w.heap.size rfl (.tmp 29) (.tmp 31) 25 rfl 35 bz 4 32 Try.underlying25 bInfo rfl (by decide) (by decide) _ k (bf P R M T) rfl #[.int .i64 x1, .int .i64 x2, .int .i64 x3, .int .i64 tt] rfl rfl (one4 _ _ _ _) (bf (putI P k x1) (putI R k x2) (putI M k x3) (putI T k tt)) (fun j hj => bf_upd j hj) (fun j hj => bf_new j hj) HU6.out (Below.refl _ _) z6 hk6 ?_; intro u' w7 hown hB7 hs7 hg7 ha7; have HU7 := Lib.hid hown; have HV7 := Lib.hid (HA.out.symm.keep HV6.out hg7); have HA7 := Lib.hid (HA.out.symm.grown HV6.out ha7); have HD7 := Lib.hid (HD6.out.low hB7 lp lg); have HO7 := Lib.hid (only_then HO6.out hB7 (Nat.le_refl _)); have z7 := HO7.out.size; clear hown hB7 hs7 hg7 ha7 HU6 HV6 HA HD6 HO6)
        | (go_at_call 17; refine (K5.out _ HD7.out).mono ?_; rintro e w8 ⟨rfl, hD, hO⟩; have HU8 := Lib.hid (own_only HU7.out hO lp); have HV8 := Lib.hid (own_put x5 (own_only HV7.out hO lp)); have HD8 := Lib.hid hD; have HO8 := Lib.hid (otrans HO7.out hO); have z8 := HO8.out.size; clear hD hO HU7 HV7 HD7 HO7)
        | (at_builtin; refine wpList_append1_at w8 w8 w.heap.size rfl (.tmp 33) (.tmp 36) 22 rfl 3 (.int .i64 0) 8 Try.underlying22 intInfo rfl (by decide) _ k (iv (putI W k x5)) rfl _ rfl HV8.out (Below.refl _ _) z8 (by unfold iv putI; rw [if_pos rfl]) rfl hk6 ?_; intro v' w9 hown hB9 hs9 hg9 ha9; have HV9 := Lib.hid hown; have HU9 := Lib.hid (HA7.out.symm.keep HU8.out hg9); have HA9 := Lib.hid (HA7.out.symm.grown HU8.out ha9); have HD9 := Lib.hid (HD8.out.low hB9 lp lg); have HO9 := Lib.hid (only_then HO8.out hB9 (Nat.le_refl _)); clear hown hB9 hs9 hg9 ha9 HU8 HV8 HA7 HD8 HO8))
      have hmm : ∀ j, j < k + 1 → BMade (putI P k x1 j) (putI R k x2 j) (putI M k x3 j) (putI T k tt j) (putI W k x5 j) := fun j hj => by
        unfold putI
        by_cases e : j = k
        · rw [if_pos e, if_pos e, if_pos e, if_pos e, if_pos e]
          unfold BMade
          omega
        · rw [if_neg e, if_neg e, if_neg e, if_neg e, if_neg e]
          exact HM.out j (by omega)
      have HMM := Lib.hid hmm
      clear hmm
      go_roundw
      case rel => exact ⟨k + 1, j5, _, _, _, _, _, by congr 1; omega, by omega, l5, HU9.out, HV9.out, HA9.out, HMM.out, HD9.out, HO9.out⟩
      case measure => simp [intOf]; omega
    · obtain rfl : k = M0 + 1 := by omega
      have hpos : ¬ (0 : Int) < 1 + (M0 : Int) - ((M0 + 1 : Nat) : Int) := by omega
      go_wp2
      go_ret2
      exact ⟨M0 + 1, _, _, kd, P, R, M, T, W, rfl, by omega, HU.out, HV.out, HA.out, HM.out, HD.out, hkd, HO.out⟩
end Go.Proofs.Ytgcplboiodnfpaa
