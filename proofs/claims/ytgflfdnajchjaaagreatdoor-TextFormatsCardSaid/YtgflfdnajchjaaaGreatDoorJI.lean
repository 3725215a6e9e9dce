import Derived.Test.YtgflfdnajchjaaaGreatDoorJF
import Derived.Test.YtgflfdnajchjaaaGreatDoorJG
import Derived.Test.YtgflfdnajchjaaaGreatDoorJB
import Derived.Deep.DeepCutAuto
import Derived.Deep.Cut
import Derived.Test.YtgflfdnajchjaaaGreatDoorJH
import Derived.Deep.MidRow
/- Layer 45: the check of a terminal. -/
namespace Go.Proofs.YtgflfdnajchjaaaGreatDoor.Tm
set_option linter.unusedVariables false
set_option linter.unusedSimpArgs false
open Go.RowKit Go.Sort
open Go.Proofs.YtgflfdnajchjaaaGreatDoor.Be (blw beC lkB bev)
open Go.Proofs.YtgflfdnajchjaaaGreatDoor.Ch (btw)
attribute [local go_sem] gcell
theorem between75 (n l h : Int) (w : World) : Calls Tryz.prog 75 #[.int .i64 n, .int .i64 l, .int .i64 h] w fun e w' => e = .returned (.bool (btw n l h)) ∧ w' = w := by
  unfold btw
  by_cases h1 : l ≤ n
  · by_cases h2 : n ≤ h
    · rw [decide_eq_true ⟨h1, h2⟩]
      go_enter Tryz.func75, Tryz.ntmps75
      go_wp2
      go_ret
      exact ⟨rfl, rfl⟩
    · rw [decide_eq_false (by omega)]
      go_enter Tryz.func75, Tryz.ntmps75
      go_wp2
      go_ret
      exact ⟨ret_bool (by simp; try omega), rfl⟩
  · rw [decide_eq_false (by omega)]
    go_enter Tryz.func75, Tryz.ntmps75
    go_wp2
    go_ret
    exact ⟨ret_bool (by simp; try omega), rfl⟩
/-- A bearer's configuration. -/
structure BeR where
  mo : Int
  co : Int
  wi : Int
  bi : Int
  wa : Int
  b : Int
  e : Int
  p : Int
  v : Int
  q : Int
  t : Int
def beOf (r : BeR) : Int := beC r.mo r.co r.wi r.bi r.wa (lkB r.b r.e r.p r.v r.q r.t)
def R11 (w : World) (a : Option Addr) (n : Nat) (X : Nat → BeR) : Prop :=
  ∃ b m, (0 < n → a = some ⟨b, m, none⟩) ∧ ∀ k, k < n → w.cell? ⟨b, m + k * 11, none⟩ = some (.int .i64 (X k).mo) ∧ w.cell? ⟨b, m + k * 11 + 1, none⟩ = some (.int .i64 (X k).co) ∧ w.cell? ⟨b, m + k * 11 + 2, none⟩ = some (.int .i64 (X k).wi) ∧ w.cell? ⟨b, m + k * 11 + 3, none⟩ = some (.int .i64 (X k).bi) ∧ w.cell? ⟨b, m + k * 11 + 4, none⟩ = some (.int .i64 (X k).wa) ∧ w.cell? ⟨b, m + k * 11 + 5, none⟩ = some (.int .i64 (X k).b) ∧ w.cell? ⟨b, m + k * 11 + 6, none⟩ = some (.int .i64 (X k).e) ∧ w.cell? ⟨b, m + k * 11 + 7, none⟩ = some (.int .i64 (X k).p) ∧ w.cell? ⟨b, m + k * 11 + 8, none⟩ = some (.int .i64 (X k).v) ∧ w.cell? ⟨b, m + k * 11 + 9, none⟩ = some (.int .i64 (X k).q) ∧ w.cell? ⟨b, m + k * 11 + 10, none⟩ = some (.int .i64 (X k).t)
theorem R11.mono {W w : World} {a : Option Addr} {n : Nat} {X : Nat → BeR} (H : R11 W a n X) (hb : Below W.heap.size W w) : R11 w a n X := by
  obtain ⟨b, m, h1, h2⟩ := H
  exact ⟨b, m, h1, fun k hk => by obtain ⟨c0, c1, c2, c3, c4, c5, c6, c7, c8, c9, c10⟩ := h2 k hk; exact ⟨up hb c0, up hb c1, up hb c2, up hb c3, up hb c4, up hb c5, up hb c6, up hb c7, up hb c8, up hb c9, up hb c10⟩⟩
/-- The first of n numbers that is not 0. -/
def firstE (f : Nat → Int) : Nat → Int
  | 0 => 0
  | k + 1 => if firstE f k = 0 then f k else firstE f k
theorem firstE_keep {f : Nat → Int} {k n : Nat} (h : k ≤ n) (h0 : firstE f k ≠ 0) : firstE f n = firstE f k := by
  induction n with
  | zero => obtain rfl : k = 0 := by omega
            rfl
  | succ n ih =>
    rcases Nat.lt_or_eq_of_le h with h1 | rfl
    · have := ih (by omega)
      show (if firstE f n = 0 then f n else firstE f n) = _
      rw [if_neg (by rw [this]; exact h0), this]
    · rfl
theorem firstE_at {f : Nat → Int} {k n : Nat} (h : k < n) (h0 : firstE f k = 0) (h1 : f k ≠ 0) : firstE f n = f k := by
  have e : firstE f (k + 1) = f k := if_pos h0
  rw [firstE_keep (k := k + 1) h (by rw [e]; exact h1), e]
theorem firstE_next {f : Nat → Int} {k : Nat} (h0 : firstE f k = 0) (h1 : f k = 0) : firstE f (k + 1) = 0 := (if_pos h0).trans h1
/-- A terminal's configuration. -/
structure Te where
  cl : Int
  cs : Int
  fr : Int
  wd : Int
  bk : Int
  cy : Int
  of' : Int
  on' : Int
  li : Int
  sh : Int
  ss : Int
  bt : Int
  ba : Option Addr
  bn : Nat
  bc : Nat
  ka : Option Addr
  kn : Nat
  kc : Nat
  be : Nat → BeR
  P : Nat → Int
  R : Nat → Int
  M : Nat → Int
  T : Nat → Int
def tcs (t : Te) : List Value := [.int .i64 t.cl, .int .i64 t.cs, .slice t.ba t.bn t.bc, .slice t.ka t.kn t.kc, .int .i64 t.fr, .int .i64 t.wd, .int .i64 t.bk, .int .i64 t.cy, .int .i64 t.of', .int .i64 t.on', .int .i64 t.li, .int .i64 t.sh, .int .i64 t.ss, .int .i64 t.bt]
def tcell (t : Te) (k : Nat) : Value := (tcs t).getD k undef
def tev (t : Te) : Value := .agg (tcs t).toArray
/-- What lies behind a terminal's two slices. -/
structure TeIn (w : World) (t : Te) : Prop where
  b : R11 w t.ba t.bn t.be
  k : Pr.R4 w t.ka t.kn t.P t.R t.M t.T
  bl : t.bn ≤ maxLen
  kl : t.kn ≤ maxLen
theorem TeIn.mono {W w : World} {t : Te} (H : TeIn W t) (hb : Below W.heap.size W w) : TeIn w t := ⟨H.b.mono hb, H.k.mono hb, H.bl, H.kl⟩
/-- What the last line of the check says. -/
def teL (t : Te) : Int := if Pr.okB t.kn t.P t.R t.M t.T = true ∧ btw t.cs 0 15 = true ∧ btw t.bt 0 1048576 = true ∧ Gu.vg t.fr t.wd t.bk = true ∧ Sl.check ⟨t.cy, t.of', t.on', t.li, t.sh, t.ss⟩ = 0 then 0 else 3
/-- The error of a terminal. -/
def teC (cells : Int) (t : Te) : Int := if btw t.cl 0 (cells - 1) = false then 63 else if btw t.bn 1 2 = false ∨ t.kn ≠ t.bn then 2 else if firstE (fun k => beOf (t.be k)) t.bn ≠ 0 then firstE (fun k => beOf (t.be k)) t.bn else teL t
end Go.Proofs.YtgflfdnajchjaaaGreatDoor.Tm
/- Layer 45: the program's check of a terminal. -/
namespace Go.Proofs.YtgflfdnajchjaaaGreatDoor.Tm
set_option linter.unusedVariables false
set_option linter.unusedSimpArgs false
open Go.RowKit Go.Sort
open Go.Proofs.YtgflfdnajchjaaaGreatDoor.Be (blw beC lkB bev)
open Go.Proofs.YtgflfdnajchjaaaGreatDoor.Ch (btw)
attribute [local go_sem] gcell
structure Cf where
  h : Nat → Int
  fa : Option Addr
  fn : Nat
  fc : Nat
  ta : Option Addr
  tn : Nat
  tc : Nat
def cfs (c : Cf) : List Value := [.int .i64 (c.h 0), .int .i64 (c.h 1), .int .i64 (c.h 2), .int .i64 (c.h 3), .int .i64 (c.h 4), .int .i64 (c.h 5), .int .i64 (c.h 6), .int .i64 (c.h 7), .int .i64 (c.h 8), .int .i64 (c.h 9), .int .i64 (c.h 10), .int .i64 (c.h 11), .int .i64 (c.h 12), .int .i64 (c.h 13), .int .i64 (c.h 14), .int .i64 (c.h 15), .int .i64 (c.h 16), .int .i64 (c.h 17), .slice c.fa c.fn c.fc, .slice c.ta c.tn c.tc]
def cfv (c : Cf) : Value := .agg (cfs c).toArray
theorem vat_list (w : World) (l : List Value) (e n : Nat) (f : Nat → Value) (h : ∀ k, k < n → l[k]? = some (f k)) : VAt (w.alloc (.cells l.toArray e)) w.heap.size n f :=
  ⟨fun k hk => by rw [cell_of_row _ w.heap.size k l.toArray e (0, 0) (MapKept.heap_alloc w _).1]; simpa using h k hk, fun k => by simp [go_sem], by simp⟩
theorem tc_at (t : Te) (k : Nat) (hk : k < 14) : (tcs t)[k]? = some (tcell t k) := by
  unfold tcell
  rw [List.getD_eq_getElem?_getD, List.getElem?_eq_getElem (show k < (tcs t).length from hk)]
  rfl
theorem ck_one (F W B : Int) : Gu.ck 1 (fun _ => F) (fun _ => W) (fun _ => B) = if Gu.vg F W B then 0 else 3 := by
  unfold Gu.ck
  rw [if_neg (by omega)]
  have e : anyB (fun k => !Gu.vg ((fun _ => F) k) ((fun _ => W) k) ((fun _ => B) k)) 1 = !Gu.vg F W B := by show (false || !Gu.vg F W B) = _; rw [Bool.false_or]
  rw [e]
  by_cases h : Gu.vg F W B = true
  · rw [if_pos h, if_neg (by simp [h])]
  · rw [if_neg h, if_pos (by simpa using h)]
set_option maxRecDepth 100000 in
set_option maxHeartbeats 8000000 in
theorem term82 (c : Cf) (t : Te) (w : World) (H : TeIn w t) (hc : 1 ≤ c.h 1 ∧ c.h 1 ≤ 3) :
    Calls Tryz.prog 82 #[cfv c, tev t] w fun e w' => e = .returned (.int .i64 (teC (c.h 1) t)) ∧ Below w.heap.size w w' := by
  have hb0 : Below w.heap.size w ((w.alloc (.cells (cfs c).toArray 37)).alloc (.cells (tcs t).toArray 57)) := ((Below.refl _ _).alloc (Nat.le_refl _) _).alloc (by simp) _
  have hv0 := vat_list (w.alloc (.cells (cfs c).toArray 37)) (tcs t) 57 14 (tcell t) (tc_at t)
  have hz0 : (w.alloc (.cells (cfs c).toArray 37)).heap.size = w.heap.size + 1 := by simp
  rw [hz0] at hv0
  have hc1 : ((w.alloc (.cells (cfs c).toArray 37)).alloc (.cells (tcs t).toArray 57)).cell? ⟨w.heap.size, 1, none⟩ = some (.int .i64 (c.h 1)) := by simp [go_sem, cfs]
  have hlt : w.heap.size < ((w.alloc (.cells (cfs c).toArray 37)).alloc (.cells (tcs t).toArray 57)).heap.size := by simp; omega
  have hT := H.mono hb0
  have e20 : (cfs c).toArray = #[.int .i64 (c.h 0), .int .i64 (c.h 1), .int .i64 (c.h 2), .int .i64 (c.h 3), .int .i64 (c.h 4), .int .i64 (c.h 5), .int .i64 (c.h 6), .int .i64 (c.h 7), .int .i64 (c.h 8), .int .i64 (c.h 9), .int .i64 (c.h 10), .int .i64 (c.h 11), .int .i64 (c.h 12), .int .i64 (c.h 13), .int .i64 (c.h 14), .int .i64 (c.h 15), .int .i64 (c.h 16), .int .i64 (c.h 17), .slice c.fa c.fn c.fc, .slice c.ta c.tn c.tc] := rfl
  have e14 : (tcs t).toArray = #[.int .i64 t.cl, .int .i64 t.cs, .slice t.ba t.bn t.bc, .slice t.ka t.kn t.kc, .int .i64 t.fr, .int .i64 t.wd, .int .i64 t.bk, .int .i64 t.cy, .int .i64 t.of', .int .i64 t.on', .int .i64 t.li, .int .i64 t.sh, .int .i64 t.ss, .int .i64 t.bt] := rfl
  unfold cfv tev
  rw [e20, e14] at hb0 hv0 hc1 hT hlt ⊢
  clear e20 e14 hz0 H
  have HB := Lib.hid hb0
  have HV := Lib.hid hv0
  have HC := Lib.hid hc1
  have HT := Lib.hid hT
  have K75 := Lib.hid between75
  clear hb0 hv0 hc1 hT
  go_enter Tryz.func82, Tryz.ntmps82
  go_upto_region 1 with fail
  generalize ((w.alloc (.cells #[.int .i64 (c.h 0), .int .i64 (c.h 1), .int .i64 (c.h 2), .int .i64 (c.h 3), .int .i64 (c.h 4), .int .i64 (c.h 5), .int .i64 (c.h 6), .int .i64 (c.h 7), .int .i64 (c.h 8), .int .i64 (c.h 9), .int .i64 (c.h 10), .int .i64 (c.h 11), .int .i64 (c.h 12), .int .i64 (c.h 13), .int .i64 (c.h 14), .int .i64 (c.h 15), .int .i64 (c.h 16), .int .i64 (c.h 17), .slice c.fa c.fn c.fc, .slice c.ta c.tn c.tc] 37)).alloc (.cells #[.int .i64 t.cl, .int .i64 t.cs, .slice t.ba t.bn t.bc, .slice t.ka t.kn t.kc, .int .i64 t.fr, .int .i64 t.wd, .int .i64 t.bk, .int .i64 t.cy, .int .i64 t.of', .int .i64 t.on', .int .i64 t.li, .int .i64 t.sh, .int .i64 t.ss, .int .i64 t.bt] 57)) = w2 at *
  have x0 : w2.cell? ⟨w.heap.size + 1, 0, none⟩ = some (.int .i64 t.cl) := HV.out.c 0 (by omega)
  have y1 := HC.out
  cases hA : btw t.cl 0 (c.h 1 - 1)
  · go_wp2_with (go_at_call 75; refine (K75.out _ _ _ _).mono ?_; rw [hA]; rintro e w' ⟨rfl, hw⟩; obtain rfl := hw.symm)
    go_ret
    exact ⟨ret_int (by unfold teC; rw [if_pos hA]), HB.out⟩
  · go_upto_region 3 with (go_at_call 75; refine (K75.out _ _ _ _).mono ?_; rw [hA]; rintro e w' ⟨rfl, hw⟩; obtain rfl := hw.symm)
    have hAH := Lib.hid hA
    clear hA x0 y1
    have x2 : w2.cell? ⟨w.heap.size + 1, 2, none⟩ = some (.slice t.ba t.bn t.bc) := HV.out.c 2 (by omega)
    have x3 : w2.cell? ⟨w.heap.size + 1, 3, none⟩ = some (.slice t.ka t.kn t.kc) := HV.out.c 3 (by omega)
    have HBL := Lib.hid HT.out.bl
    have HKL := Lib.hid HT.out.kl
    cases hB : btw t.bn 1 2
    · go_wp2_with (go_at_call 75; refine (K75.out _ _ _ _).mono ?_; rw [hB]; rintro e w' ⟨rfl, hw⟩; obtain rfl := hw.symm)
      go_ret
      exact ⟨ret_int (by unfold teC; rw [if_neg (by rw [hAH.out]; simp), if_pos (.inl hB)]), HB.out⟩
    · by_cases hk : t.kn = t.bn
      · have q1 : ((t.kn : Int) != (t.bn : Int)) = false := by simp [hk]
        have HBH := Lib.hid hB
        have HKH := Lib.hid hk
        clear hk
        go_upto_region 6 with (go_at_call 75; refine (K75.out _ _ _ _).mono ?_; rw [hB]; rintro e w' ⟨rfl, hw⟩; obtain rfl := hw.symm)
        have HB2 := Lib.hid HB.out
        have b2 : t.bn ≤ 2 := by have := of_decide_eq_true HBH.out; omega
        clear hB x2 x3 q1
        go_loopw [6, 7, 32] (fun s6 s7 s32 wr => ∃ k : Nat, s32 = .int .i64 k ∧ k ≤ t.bn ∧ firstE (fun k => beOf (t.be k)) k = 0 ∧ Below w2.heap.size w2 wr) (fun _ _ s32 _ => t.bn - (intOf s32).toNat)
        case atStart => exact ⟨0, rfl, Nat.zero_le _, rfl, Below.refl _ _⟩
        case round =>
          obtain ⟨k, rfl, hk, hf, hBw⟩ := hrel
          have HF := Lib.hid hf
          have HBw := Lib.hid hBw
          clear hf
          by_cases hlk : k < t.bn
          · obtain ⟨b, m, h1, h2⟩ := HT.out.b.mono hBw
            have e1 := h1 (by omega)
            rw [e1]
            obtain ⟨c0, c1, c2, c3, c4, c5, c6, c7, c8, c9, c10⟩ := h2 k hlk
            have k0 : (0 : Int) ≤ (k : Int) := by omega
            have k1 : (k : Int) < (t.bn : Int) := by omega
            have hsz := hBw.size
            have KC := Lib.hid (show ∀ W, Calls Tryz.prog 111 #[.agg #[.int .i64 (t.be k).mo, .int .i64 (t.be k).co, .int .i64 (t.be k).wi, .int .i64 (t.be k).bi, .int .i64 (t.be k).wa, .int .i64 (t.be k).b, .int .i64 (t.be k).e, .int .i64 (t.be k).p, .int .i64 (t.be k).v, .int .i64 (t.be k).q, .int .i64 (t.be k).t]] W fun z w' => z = .returned (.int .i64 (beOf (t.be k))) ∧ Below W.heap.size W w' from fun W => Be.check111 (t.be k).mo (t.be k).co (t.be k).wi (t.be k).bi (t.be k).wa (t.be k).b (t.be k).e (t.be k).p (t.be k).v (t.be k).q (t.be k).t W)
            have FA := Lib.hid (show beOf (t.be k) ≠ 0 → firstE (fun k => beOf (t.be k)) t.bn = beOf (t.be k) from fun h => firstE_at hlk HF.out h)
            have FN := Lib.hid (show beOf (t.be k) = 0 → firstE (fun k => beOf (t.be k)) (k + 1) = 0 from fun h => firstE_next HF.out h)
            clear h1 h2 e1 hBw
            generalize beOf (t.be k) = E at *
            generalize (t.be k).mo = x0 at *
            generalize (t.be k).co = x1 at *
            generalize (t.be k).wi = x2 at *
            generalize (t.be k).bi = x3 at *
            generalize (t.be k).wa = x4 at *
            generalize (t.be k).b = x5 at *
            generalize (t.be k).e = x6 at *
            generalize (t.be k).p = x7 at *
            generalize (t.be k).v = x8 at *
            generalize (t.be k).q = x9 at *
            generalize (t.be k).t = x10 at *
            go_wp2_with (go_at_call 111; refine (KC.out _).mono ?_; rintro e w5 ⟨rfl, hb5⟩; have HB5 := Lib.hid (bthen (HBw.out.alloc HBw.out.size (.cells #[.int .i64 x0, .int .i64 x1, .int .i64 x2, .int .i64 x3, .int .i64 x4, .int .i64 x5, .int .i64 x6, .int .i64 x7, .int .i64 x8, .int .i64 x9, .int .i64 x10] 71)) hb5 (by simp; omega)); clear hb5; refine Hid.out ?_)
            refine Lib.hid ?_
            by_cases hE : E = 0
            · have q1 : (E != 0) = false := by simp [hE]
              have FN2 := Lib.hid (FN.out hE)
              clear hE
              go_wp2
              go_roundw
              case rel => exact ⟨k + 1, by go_num, by omega, FN2.out, HB5.out⟩
              case measure => simp [intOf]; omega
            · have q1 : (E != 0) = true := by rw [bne_iff_ne]; exact hE
              have FA2 := Lib.hid (FA.out hE)
              have HNE := Lib.hid hE
              clear hE
              go_wp2
              go_ret
              exact ⟨ret_int (by unfold teC; rw [if_neg (by rw [hAH.out]; simp), if_neg (by rw [HBH.out, HKH.out]; simp), if_pos (by rw [FA2.out]; exact HNE.out), FA2.out]), bthen' HB2.out HB5.out⟩
          · obtain rfl : k = t.bn := by omega
            have KP := Lib.hid (Pr.valid21 t.ka t.kn t.kc t.P t.R t.M t.T wr (HT.out.k.mono hBw) HKL.out)
            have KG := Lib.hid (Gu.check24)
            have KS := Lib.hid (Sl.check24 t.cy t.of' t.on' t.li t.sh t.ss)
            have y3 : wr.cell? ⟨w.heap.size + 1, 3, none⟩ = some (.slice t.ka t.kn t.kc) := (HV.out.mono HBw.out).c 3 (by omega)
            clear hBw hk hlk b2
            go_wp2_with fail
            refine KP.out.mono ?_
            rintro e w6 ⟨rfl, hb6⟩
            have HB6 := Lib.hid (HBw.out.trans (hb6.mono HBw.out.size))
            clear hb6 y3 KP
            have y1 : w6.cell? ⟨w.heap.size + 1, 1, none⟩ = some (.int .i64 t.cs) := (HV.out.mono HB6.out).c 1 (by omega)
            have y4 : w6.cell? ⟨w.heap.size + 1, 4, none⟩ = some (.int .i64 t.fr) := (HV.out.mono HB6.out).c 4 (by omega)
            have y5 : w6.cell? ⟨w.heap.size + 1, 5, none⟩ = some (.int .i64 t.wd) := (HV.out.mono HB6.out).c 5 (by omega)
            have y6 : w6.cell? ⟨w.heap.size + 1, 6, none⟩ = some (.int .i64 t.bk) := (HV.out.mono HB6.out).c 6 (by omega)
            have y13 : w6.cell? ⟨w.heap.size + 1, 13, none⟩ = some (.int .i64 t.bt) := (HV.out.mono HB6.out).c 13 (by omega)
            have lt6 := Nat.lt_of_lt_of_le hlt HB6.out.size
            cases hO : Pr.okB t.kn t.P t.R t.M t.T
            · go_wp2
              go_ret
              exact ⟨ret_int (by unfold teC; rw [if_neg (by rw [hAH.out]; simp), if_neg (by rw [HBH.out, HKH.out]; simp), if_neg (by rw [HF.out]; simp)]; unfold teL; rw [if_neg (by rw [hO]; simp)]), bthen' HB2.out HB6.out⟩
            · have HO := Lib.hid hO
              clear hO
              cases hS : btw t.cs 0 15
              · go_wp2_with (go_at_call 75; refine (K75.out _ _ _ _).mono ?_; rw [hS]; rintro e w' ⟨rfl, hw⟩; obtain rfl := hw.symm)
                go_ret
                exact ⟨ret_int (by unfold teC; rw [if_neg (by rw [hAH.out]; simp), if_neg (by rw [HBH.out, HKH.out]; simp), if_neg (by rw [HF.out]; simp)]; unfold teL; rw [if_neg (by rw [hS]; simp)]), bthen' HB2.out HB6.out⟩
              · cases hT : btw t.bt 0 1048576
                · go_wp2_with (go_at_call 75; refine (K75.out _ _ _ _).mono ?_; (first | rw [hS] | rw [hT]); rintro e w' ⟨rfl, hw⟩; obtain rfl := hw.symm)
                  go_ret
                  exact ⟨ret_int (by unfold teC; rw [if_neg (by rw [hAH.out]; simp), if_neg (by rw [HBH.out, HKH.out]; simp), if_neg (by rw [HF.out]; simp)]; unfold teL; rw [if_neg (by rw [hT]; simp)]), bthen' HB2.out HB6.out⟩
                · have hg3 : Gu.R3 (w6.alloc (.cells #[.int .i64 t.fr, .int .i64 t.wd, .int .i64 t.bk] 53)) (some ⟨w6.heap.size, 0, none⟩) 1 (fun _ => t.fr) (fun _ => t.wd) (fun _ => t.bk) := ⟨w6.heap.size, 0, fun _ => rfl, fun k hk => by
                    obtain rfl : k = 0 := by omega
                    exact ⟨by simp [go_sem], by simp [go_sem], by simp [go_sem]⟩⟩
                  have hg := KG.out (some ⟨w6.heap.size, 0, none⟩) 1 1 _ _ _ _ hg3 (by decide)
                  rw [ck_one] at hg
                  have HG := Lib.hid hg
                  clear hg
                  have HB7 := Lib.hid (HB6.out.trans (((Below.refl w6.heap.size w6).alloc (Nat.le_refl _) (.cells #[.int .i64 t.fr, .int .i64 t.wd, .int .i64 t.bk] 53)).mono HB6.out.size))
                  clear hg3 KG
                  go_wp2_with (go_at_call 75; refine (K75.out _ _ _ _).mono ?_; (first | rw [hS] | rw [hT]); rintro e w' ⟨rfl, hw⟩; obtain rfl := hw.symm)
                  cases hg : Gu.vg t.fr t.wd t.bk
                  · have HGF := Lib.hid hg
                    rw [hg] at HG
                    clear hg
                    refine HG.out.mono ?_
                    rintro e w8 ⟨rfl, hb8⟩
                    have HB8 := Lib.hid (HB7.out.trans (hb8.mono HB7.out.size))
                    clear hb8
                    go_wp2
                    go_ret
                    exact ⟨ret_int (by unfold teC; rw [if_neg (by rw [hAH.out]; simp), if_neg (by rw [HBH.out, HKH.out]; simp), if_neg (by rw [HF.out]; simp)]; unfold teL; rw [if_neg (by rw [HGF.out]; simp)]), bthen' HB2.out HB8.out⟩
                  · have HGT := Lib.hid hg
                    rw [hg] at HG
                    clear hg
                    refine HG.out.mono ?_
                    rintro e w8 ⟨rfl, hb8⟩
                    have HB8 := Lib.hid (HB7.out.trans (hb8.mono HB7.out.size))
                    clear hb8
                    have y7 : w8.cell? ⟨w.heap.size + 1, 7, none⟩ = some (.int .i64 t.cy) := (HV.out.mono HB8.out).c 7 (by omega)
                    have y8 : w8.cell? ⟨w.heap.size + 1, 8, none⟩ = some (.int .i64 t.of') := (HV.out.mono HB8.out).c 8 (by omega)
                    have y9 : w8.cell? ⟨w.heap.size + 1, 9, none⟩ = some (.int .i64 t.on') := (HV.out.mono HB8.out).c 9 (by omega)
                    have y10 : w8.cell? ⟨w.heap.size + 1, 10, none⟩ = some (.int .i64 t.li) := (HV.out.mono HB8.out).c 10 (by omega)
                    have y11 : w8.cell? ⟨w.heap.size + 1, 11, none⟩ = some (.int .i64 t.sh) := (HV.out.mono HB8.out).c 11 (by omega)
                    have y12 : w8.cell? ⟨w.heap.size + 1, 12, none⟩ = some (.int .i64 t.ss) := (HV.out.mono HB8.out).c 12 (by omega)
                    have lt8 := Nat.lt_of_lt_of_le hlt HB8.out.size
                    have hST := Lib.hid (And.intro hS hT)
                    clear hS hT y1 y4 y5 y6 y13 lt6
                    generalize hz : Sl.check ⟨t.cy, t.of', t.on', t.li, t.sh, t.ss⟩ = z at *
                    have HZ := Lib.hid hz
                    clear hz
                    unfold Sl.rv at KS
                    go_wp2_with fail
                    refine (KS.out _).mono ?_
                    rintro e w9 ⟨rfl, hb9⟩
                    have HB9 := Lib.hid (HB8.out.trans (hb9.mono HB8.out.size))
                    clear hb9
                    by_cases hz0 : z = 0
                    · have q1 : (z != 0) = false := by simp [hz0]
                      have HZ0 := Lib.hid hz0
                      clear hz0
                      go_wp2
                      go_ret
                      exact ⟨ret_int (by unfold teC; rw [if_neg (by rw [hAH.out]; simp), if_neg (by rw [HBH.out, HKH.out]; simp), if_neg (by rw [HF.out]; simp)]; unfold teL; rw [if_pos ⟨HO.out, hST.out.1, hST.out.2, HGT.out, HZ.out.trans HZ0.out⟩]), bthen' HB2.out HB9.out⟩
                    · have q1 : (z != 0) = true := by rw [bne_iff_ne]; exact hz0
                      have HZ0 := Lib.hid hz0
                      clear hz0
                      go_wp2
                      go_ret
                      exact ⟨ret_int (by unfold teC; rw [if_neg (by rw [hAH.out]; simp), if_neg (by rw [HBH.out, HKH.out]; simp), if_neg (by rw [HF.out]; simp)]; unfold teL; rw [if_neg (by exact fun h => HZ0.out (HZ.out.symm.trans h.2.2.2.2))]), bthen' HB2.out HB9.out⟩
      · have q1 : ((t.kn : Int) != (t.bn : Int)) = true := by rw [bne_iff_ne]; omega
        go_wp2_with (go_at_call 75; refine (K75.out _ _ _ _).mono ?_; rw [hB]; rintro e w' ⟨rfl, hw⟩; obtain rfl := hw.symm)
        go_ret
        exact ⟨ret_int (by unfold teC; rw [if_neg (by rw [hAH.out]; simp), if_pos (.inr hk)]), HB.out⟩
end Go.Proofs.YtgflfdnajchjaaaGreatDoor.Tm
/- Layer 45: the reference's check of a terminal. -/
namespace Go.Proofs.YtgflfdnajchjaaaGreatDoor.Tm
set_option linter.unusedVariables false
set_option linter.unusedSimpArgs false
open Go.RowKit Go.Sort
open Go.Proofs.YtgflfdnajchjaaaGreatDoor.Be (blw beC lkB bev)
open Go.Proofs.YtgflfdnajchjaaaGreatDoor.Ch (btw)
attribute [local go_sem] gcell
set_option maxRecDepth 100000 in
set_option maxHeartbeats 8000000 in
theorem term69 (c : Cf) (t : Te) (w : World) (H : TeIn w t) (hc : 1 ≤ c.h 1 ∧ c.h 1 ≤ 3) :
    Calls Tryz.prog 69 #[cfv c, tev t] w fun e w' => e = .returned (.int .i64 (teC (c.h 1) t)) ∧ Below w.heap.size w w' := by
  have hb0 : Below w.heap.size w ((w.alloc (.cells (cfs c).toArray 37)).alloc (.cells (tcs t).toArray 57)) := ((Below.refl _ _).alloc (Nat.le_refl _) _).alloc (by simp) _
  have hv0 := vat_list (w.alloc (.cells (cfs c).toArray 37)) (tcs t) 57 14 (tcell t) (tc_at t)
  have hz0 : (w.alloc (.cells (cfs c).toArray 37)).heap.size = w.heap.size + 1 := by simp
  rw [hz0] at hv0
  have hc1 : ((w.alloc (.cells (cfs c).toArray 37)).alloc (.cells (tcs t).toArray 57)).cell? ⟨w.heap.size, 1, none⟩ = some (.int .i64 (c.h 1)) := by simp [go_sem, cfs]
  have hlt : w.heap.size < ((w.alloc (.cells (cfs c).toArray 37)).alloc (.cells (tcs t).toArray 57)).heap.size := by simp; omega
  have hT := H.mono hb0
  have e20 : (cfs c).toArray = #[.int .i64 (c.h 0), .int .i64 (c.h 1), .int .i64 (c.h 2), .int .i64 (c.h 3), .int .i64 (c.h 4), .int .i64 (c.h 5), .int .i64 (c.h 6), .int .i64 (c.h 7), .int .i64 (c.h 8), .int .i64 (c.h 9), .int .i64 (c.h 10), .int .i64 (c.h 11), .int .i64 (c.h 12), .int .i64 (c.h 13), .int .i64 (c.h 14), .int .i64 (c.h 15), .int .i64 (c.h 16), .int .i64 (c.h 17), .slice c.fa c.fn c.fc, .slice c.ta c.tn c.tc] := rfl
  have e14 : (tcs t).toArray = #[.int .i64 t.cl, .int .i64 t.cs, .slice t.ba t.bn t.bc, .slice t.ka t.kn t.kc, .int .i64 t.fr, .int .i64 t.wd, .int .i64 t.bk, .int .i64 t.cy, .int .i64 t.of', .int .i64 t.on', .int .i64 t.li, .int .i64 t.sh, .int .i64 t.ss, .int .i64 t.bt] := rfl
  unfold cfv tev
  rw [e20, e14] at hb0 hv0 hc1 hT hlt ⊢
  clear e20 e14 hz0 H
  have HB := Lib.hid hb0
  have HV := Lib.hid hv0
  have HC := Lib.hid hc1
  have HT := Lib.hid hT
  clear hb0 hv0 hc1 hT
  go_enter Tryz.func69, Tryz.ntmps69
  go_upto_region 1 with fail
  generalize ((w.alloc (.cells #[.int .i64 (c.h 0), .int .i64 (c.h 1), .int .i64 (c.h 2), .int .i64 (c.h 3), .int .i64 (c.h 4), .int .i64 (c.h 5), .int .i64 (c.h 6), .int .i64 (c.h 7), .int .i64 (c.h 8), .int .i64 (c.h 9), .int .i64 (c.h 10), .int .i64 (c.h 11), .int .i64 (c.h 12), .int .i64 (c.h 13), .int .i64 (c.h 14), .int .i64 (c.h 15), .int .i64 (c.h 16), .int .i64 (c.h 17), .slice c.fa c.fn c.fc, .slice c.ta c.tn c.tc] 37)).alloc (.cells #[.int .i64 t.cl, .int .i64 t.cs, .slice t.ba t.bn t.bc, .slice t.ka t.kn t.kc, .int .i64 t.fr, .int .i64 t.wd, .int .i64 t.bk, .int .i64 t.cy, .int .i64 t.of', .int .i64 t.on', .int .i64 t.li, .int .i64 t.sh, .int .i64 t.ss, .int .i64 t.bt] 57)) = w2 at *
  have x0 : w2.cell? ⟨w.heap.size + 1, 0, none⟩ = some (.int .i64 t.cl) := HV.out.c 0 (by omega)
  have y1 := HC.out
  rcases (show t.cl < 0 ∨ (0 ≤ t.cl ∧ c.h 1 ≤ t.cl) ∨ (0 ≤ t.cl ∧ t.cl < c.h 1) by omega) with hA | ⟨hA, hA2⟩ | ⟨hA, hA2⟩
  · go_wp2
    go_ret
    exact ⟨ret_int (by unfold teC; rw [if_pos (show btw t.cl 0 (c.h 1 - 1) = false from decide_eq_false (by omega))]), HB.out⟩
  · go_wp2
    go_ret
    exact ⟨ret_int (by unfold teC; rw [if_pos (show btw t.cl 0 (c.h 1 - 1) = false from decide_eq_false (by omega))]), HB.out⟩
  · have hAH := Lib.hid (show btw t.cl 0 (c.h 1 - 1) = true from decide_eq_true (by omega))
    go_upto_region 3 with fail
    clear hA hA2 x0 y1
    have x2 : w2.cell? ⟨w.heap.size + 1, 2, none⟩ = some (.slice t.ba t.bn t.bc) := HV.out.c 2 (by omega)
    have x3 : w2.cell? ⟨w.heap.size + 1, 3, none⟩ = some (.slice t.ka t.kn t.kc) := HV.out.c 3 (by omega)
    have HBL := Lib.hid HT.out.bl
    have HKL := Lib.hid HT.out.kl
    rcases (show t.bn < 1 ∨ (1 ≤ t.bn ∧ 2 < t.bn) ∨ (1 ≤ t.bn ∧ t.bn ≤ 2) by omega) with hB | ⟨hB, hB3⟩ | ⟨hB, b2⟩
    · go_wp2
      go_ret
      exact ⟨ret_int (by unfold teC; rw [if_neg (by rw [hAH.out]; simp), if_pos (.inl (show btw t.bn 1 2 = false from decide_eq_false (by omega)))]), HB.out⟩
    · go_wp2
      go_ret
      exact ⟨ret_int (by unfold teC; rw [if_neg (by rw [hAH.out]; simp), if_pos (.inl (show btw t.bn 1 2 = false from decide_eq_false (by omega)))]), HB.out⟩
    · have HBH := Lib.hid (show btw t.bn 1 2 = true from decide_eq_true (by omega))
      by_cases hk : t.kn = t.bn
      · have q1 : ((t.kn : Int) != (t.bn : Int)) = false := by simp [hk]
        have HKH := Lib.hid hk
        clear hk
        go_upto_region 6 with fail
        have HB2 := Lib.hid HB.out
        clear x2 x3 q1
        go_loopw [5, 6] (fun s5 s6 wr => ∃ k : Nat, s5 = .int .i64 k ∧ k ≤ t.bn ∧ firstE (fun k => beOf (t.be k)) k = 0 ∧ Below w2.heap.size w2 wr) (fun s5 _ _ => t.bn - (intOf s5).toNat)
        case atStart => exact ⟨0, rfl, Nat.zero_le _, rfl, Below.refl _ _⟩
        case round =>
          obtain ⟨k, rfl, hk, hf, hBw⟩ := hrel
          have HF := Lib.hid hf
          have HBw := Lib.hid hBw
          clear hf
          by_cases hlk : k < t.bn
          · have x2 : wr.cell? ⟨w.heap.size + 1, 2, none⟩ = some (.slice t.ba t.bn t.bc) := (HV.out.mono hBw).c 2 (by omega)
            obtain ⟨b, m, h1, h2⟩ := HT.out.b.mono hBw
            have e1 := h1 (by omega)
            rw [e1] at x2 ⊢
            obtain ⟨c0, c1, c2, c3, c4, c5, c6, c7, c8, c9, c10⟩ := h2 k hlk
            have k0 : (0 : Int) ≤ (k : Int) := by omega
            have k1 : (k : Int) < (t.bn : Int) := by omega
            have hsz := hBw.size
            have KC := Lib.hid (show ∀ W, Calls Tryz.prog 98 #[.agg #[.int .i64 (t.be k).mo, .int .i64 (t.be k).co, .int .i64 (t.be k).wi, .int .i64 (t.be k).bi, .int .i64 (t.be k).wa, .int .i64 (t.be k).b, .int .i64 (t.be k).e, .int .i64 (t.be k).p, .int .i64 (t.be k).v, .int .i64 (t.be k).q, .int .i64 (t.be k).t]] W fun z w' => z = .returned (.int .i64 (beOf (t.be k))) ∧ Below W.heap.size W w' from fun W => Be.check98 (t.be k).mo (t.be k).co (t.be k).wi (t.be k).bi (t.be k).wa (t.be k).b (t.be k).e (t.be k).p (t.be k).v (t.be k).q (t.be k).t W)
            have FA := Lib.hid (show beOf (t.be k) ≠ 0 → firstE (fun k => beOf (t.be k)) t.bn = beOf (t.be k) from fun h => firstE_at hlk HF.out h)
            have FN := Lib.hid (show beOf (t.be k) = 0 → firstE (fun k => beOf (t.be k)) (k + 1) = 0 from fun h => firstE_next HF.out h)
            clear h1 h2 e1 hBw
            generalize beOf (t.be k) = E at *
            generalize (t.be k).mo = x0 at *
            generalize (t.be k).co = x1 at *
            generalize (t.be k).wi = x2 at *
            generalize (t.be k).bi = x3 at *
            generalize (t.be k).wa = x4 at *
            generalize (t.be k).b = x5 at *
            generalize (t.be k).e = x6 at *
            generalize (t.be k).p = x7 at *
            generalize (t.be k).v = x8 at *
            generalize (t.be k).q = x9 at *
            generalize (t.be k).t = x10 at *
            go_wp2_with (go_at_call 98; refine (KC.out _).mono ?_; rintro e w5 ⟨rfl, hb5⟩; have HB5 := Lib.hid (HBw.out.trans (hb5.mono hsz)); clear hb5; refine Hid.out ?_)
            refine Lib.hid ?_
            by_cases hE : E = 0
            · have q1 : (E != 0) = false := by simp [hE]
              have FN2 := Lib.hid (FN.out hE)
              clear hE
              go_wp2
              go_roundw
              case rel => exact ⟨k + 1, by go_num, by omega, FN2.out, HB5.out⟩
              case measure => simp [intOf]; omega
            · have q1 : (E != 0) = true := by rw [bne_iff_ne]; exact hE
              have FA2 := Lib.hid (FA.out hE)
              have HNE := Lib.hid hE
              clear hE
              go_wp2
              go_ret
              exact ⟨ret_int (by unfold teC; rw [if_neg (by rw [hAH.out]; simp), if_neg (by rw [HBH.out, HKH.out]; simp), if_pos (by rw [FA2.out]; exact HNE.out), FA2.out]), bthen' HB2.out HB5.out⟩
          · obtain rfl : k = t.bn := by omega
            have KP := Lib.hid (Pr.valid30 t.ka t.kn t.kc t.P t.R t.M t.T wr (HT.out.k.mono hBw) HKL.out)
            have KG := Lib.hid (Gu.check25)
            have KS := Lib.hid (Sl.check25 t.cy t.of' t.on' t.li t.sh t.ss)
            have x2 : wr.cell? ⟨w.heap.size + 1, 2, none⟩ = some (.slice t.ba t.bn t.bc) := (HV.out.mono HBw.out).c 2 (by omega)
            have y3 : wr.cell? ⟨w.heap.size + 1, 3, none⟩ = some (.slice t.ka t.kn t.kc) := (HV.out.mono HBw.out).c 3 (by omega)
            clear hBw hk hlk
            go_wp2_with fail
            refine KP.out.mono ?_
            rintro e w6 ⟨rfl, hb6⟩
            have HB6 := Lib.hid (HBw.out.trans (hb6.mono HBw.out.size))
            clear hb6 y3 KP x2
            have y1 : w6.cell? ⟨w.heap.size + 1, 1, none⟩ = some (.int .i64 t.cs) := (HV.out.mono HB6.out).c 1 (by omega)
            have y4 : w6.cell? ⟨w.heap.size + 1, 4, none⟩ = some (.int .i64 t.fr) := (HV.out.mono HB6.out).c 4 (by omega)
            have y5 : w6.cell? ⟨w.heap.size + 1, 5, none⟩ = some (.int .i64 t.wd) := (HV.out.mono HB6.out).c 5 (by omega)
            have y6 : w6.cell? ⟨w.heap.size + 1, 6, none⟩ = some (.int .i64 t.bk) := (HV.out.mono HB6.out).c 6 (by omega)
            have y13 : w6.cell? ⟨w.heap.size + 1, 13, none⟩ = some (.int .i64 t.bt) := (HV.out.mono HB6.out).c 13 (by omega)
            have lt6 := Nat.lt_of_lt_of_le hlt HB6.out.size
            cases hO : Pr.okB t.kn t.P t.R t.M t.T
            · go_wp2
              go_ret
              exact ⟨ret_int (by unfold teC; rw [if_neg (by rw [hAH.out]; simp), if_neg (by rw [HBH.out, HKH.out]; simp), if_neg (by rw [HF.out]; simp)]; unfold teL; rw [if_neg (by rw [hO]; simp)]), bthen' HB2.out HB6.out⟩
            · have HO := Lib.hid hO
              clear hO
              rcases (show t.cs < 0 ∨ (0 ≤ t.cs ∧ 15 < t.cs) ∨ (0 ≤ t.cs ∧ t.cs ≤ 15) by omega) with g1 | ⟨g1, g2⟩ | ⟨g1, g2⟩
              · have hS : btw t.cs 0 15 = false := decide_eq_false (by omega)
                go_wp2
                go_ret
                exact ⟨ret_int (by unfold teC; rw [if_neg (by rw [hAH.out]; simp), if_neg (by rw [HBH.out, HKH.out]; simp), if_neg (by rw [HF.out]; simp)]; unfold teL; rw [if_neg (by rw [hS]; simp)]), bthen' HB2.out HB6.out⟩
              · have hS : btw t.cs 0 15 = false := decide_eq_false (by omega)
                go_wp2
                go_ret
                exact ⟨ret_int (by unfold teC; rw [if_neg (by rw [hAH.out]; simp), if_neg (by rw [HBH.out, HKH.out]; simp), if_neg (by rw [HF.out]; simp)]; unfold teL; rw [if_neg (by rw [hS]; simp)]), bthen' HB2.out HB6.out⟩
              · have hS : btw t.cs 0 15 = true := decide_eq_true (by omega)
                rcases (show t.bt < 0 ∨ (0 ≤ t.bt ∧ 1048576 < t.bt) ∨ (0 ≤ t.bt ∧ t.bt ≤ 1048576) by omega) with g3 | ⟨g3, g4⟩ | ⟨g3, g4⟩
                · have hT : btw t.bt 0 1048576 = false := decide_eq_false (by omega)
                  go_wp2
                  go_ret
                  exact ⟨ret_int (by unfold teC; rw [if_neg (by rw [hAH.out]; simp), if_neg (by rw [HBH.out, HKH.out]; simp), if_neg (by rw [HF.out]; simp)]; unfold teL; rw [if_neg (by rw [hT]; simp)]), bthen' HB2.out HB6.out⟩
                · have hT : btw t.bt 0 1048576 = false := decide_eq_false (by omega)
                  go_wp2
                  go_ret
                  exact ⟨ret_int (by unfold teC; rw [if_neg (by rw [hAH.out]; simp), if_neg (by rw [HBH.out, HKH.out]; simp), if_neg (by rw [HF.out]; simp)]; unfold teL; rw [if_neg (by rw [hT]; simp)]), bthen' HB2.out HB6.out⟩
                · have hT : btw t.bt 0 1048576 = true := decide_eq_true (by omega)
                  have hg3 : Gu.R3 (w6.alloc (.cells #[.int .i64 t.fr, .int .i64 t.wd, .int .i64 t.bk] 53)) (some ⟨w6.heap.size, 0, none⟩) 1 (fun _ => t.fr) (fun _ => t.wd) (fun _ => t.bk) := ⟨w6.heap.size, 0, fun _ => rfl, fun k hk => by
                    obtain rfl : k = 0 := by omega
                    exact ⟨by simp [go_sem], by simp [go_sem], by simp [go_sem]⟩⟩
                  have hg := KG.out (some ⟨w6.heap.size, 0, none⟩) 1 1 _ _ _ _ hg3 (by decide)
                  rw [ck_one] at hg
                  have HG := Lib.hid hg
                  clear hg
                  have HB7 := Lib.hid (HB6.out.trans (((Below.refl w6.heap.size w6).alloc (Nat.le_refl _) (.cells #[.int .i64 t.fr, .int .i64 t.wd, .int .i64 t.bk] 53)).mono HB6.out.size))
                  clear hg3 KG
                  go_wp2_with fail
                  cases hg : Gu.vg t.fr t.wd t.bk
                  · have HGF := Lib.hid hg
                    rw [hg] at HG
                    clear hg
                    refine HG.out.mono ?_
                    rintro e w8 ⟨rfl, hb8⟩
                    have HB8 := Lib.hid (HB7.out.trans (hb8.mono HB7.out.size))
                    clear hb8
                    go_wp2
                    go_ret
                    exact ⟨ret_int (by unfold teC; rw [if_neg (by rw [hAH.out]; simp), if_neg (by rw [HBH.out, HKH.out]; simp), if_neg (by rw [HF.out]; simp)]; unfold teL; rw [if_neg (by rw [HGF.out]; simp)]), bthen' HB2.out HB8.out⟩
                  · have HGT := Lib.hid hg
                    rw [hg] at HG
                    clear hg
                    refine HG.out.mono ?_
                    rintro e w8 ⟨rfl, hb8⟩
                    have HB8 := Lib.hid (HB7.out.trans (hb8.mono HB7.out.size))
                    clear hb8
                    have y7 : w8.cell? ⟨w.heap.size + 1, 7, none⟩ = some (.int .i64 t.cy) := (HV.out.mono HB8.out).c 7 (by omega)
                    have y8 : w8.cell? ⟨w.heap.size + 1, 8, none⟩ = some (.int .i64 t.of') := (HV.out.mono HB8.out).c 8 (by omega)
                    have y9 : w8.cell? ⟨w.heap.size + 1, 9, none⟩ = some (.int .i64 t.on') := (HV.out.mono HB8.out).c 9 (by omega)
                    have y10 : w8.cell? ⟨w.heap.size + 1, 10, none⟩ = some (.int .i64 t.li) := (HV.out.mono HB8.out).c 10 (by omega)
                    have y11 : w8.cell? ⟨w.heap.size + 1, 11, none⟩ = some (.int .i64 t.sh) := (HV.out.mono HB8.out).c 11 (by omega)
                    have y12 : w8.cell? ⟨w.heap.size + 1, 12, none⟩ = some (.int .i64 t.ss) := (HV.out.mono HB8.out).c 12 (by omega)
                    have lt8 := Nat.lt_of_lt_of_le hlt HB8.out.size
                    have hST := Lib.hid (And.intro hS hT)
                    clear hS hT y1 y4 y5 y6 y13 lt6
                    generalize hz : Sl.check ⟨t.cy, t.of', t.on', t.li, t.sh, t.ss⟩ = z at *
                    have HZ := Lib.hid hz
                    clear hz
                    unfold Sl.rv at KS
                    go_wp2_with fail
                    refine (KS.out _).mono ?_
                    rintro e w9 ⟨rfl, hb9⟩
                    have HB9 := Lib.hid (HB8.out.trans (hb9.mono HB8.out.size))
                    clear hb9
                    by_cases hz0 : z = 0
                    · have q1 : (z != 0) = false := by simp [hz0]
                      have HZ0 := Lib.hid hz0
                      clear hz0
                      go_wp2
                      go_ret
                      exact ⟨ret_int (by unfold teC; rw [if_neg (by rw [hAH.out]; simp), if_neg (by rw [HBH.out, HKH.out]; simp), if_neg (by rw [HF.out]; simp)]; unfold teL; rw [if_pos ⟨HO.out, hST.out.1, hST.out.2, HGT.out, HZ.out.trans HZ0.out⟩]), bthen' HB2.out HB9.out⟩
                    · have q1 : (z != 0) = true := by rw [bne_iff_ne]; exact hz0
                      have HZ0 := Lib.hid hz0
                      clear hz0
                      go_wp2
                      go_ret
                      exact ⟨ret_int (by unfold teC; rw [if_neg (by rw [hAH.out]; simp), if_neg (by rw [HBH.out, HKH.out]; simp), if_neg (by rw [HF.out]; simp)]; unfold teL; rw [if_neg (by exact fun h => HZ0.out (HZ.out.symm.trans h.2.2.2.2))]), bthen' HB2.out HB9.out⟩
      · have q1 : ((t.kn : Int) != (t.bn : Int)) = true := by rw [bne_iff_ne]; omega
        go_wp2_with (go_at_call 75; refine (K75.out _ _ _ _).mono ?_; rw [hB]; rintro e w' ⟨rfl, hw⟩; obtain rfl := hw.symm)
        go_ret
        exact ⟨ret_int (by unfold teC; rw [if_neg (by rw [hAH.out]; simp), if_pos (.inr hk)]), HB.out⟩
end Go.Proofs.YtgflfdnajchjaaaGreatDoor.Tm
/- Layer 45: the checks of a network. -/
namespace Go.Proofs.YtgflfdnajchjaaaGreatDoor.Tm
set_option linter.unusedVariables false
set_option linter.unusedSimpArgs false
open Go.RowKit Go.Sort
open Go.Proofs.YtgflfdnajchjaaaGreatDoor.Be (blw beC lkB bev)
open Go.Proofs.YtgflfdnajchjaaaGreatDoor.Ch (btw)
attribute [local go_sem] gcell
set_option maxRecDepth 100000 in
set_option maxHeartbeats 4000000 in
theorem entry78 (c : Cf) (w : World) : Calls Tryz.prog 78 #[.agg #[.int .i64 (c.h 0), .int .i64 (c.h 1), .int .i64 (c.h 2), .int .i64 (c.h 3), .int .i64 (c.h 4), .int .i64 (c.h 5), .int .i64 (c.h 6), .int .i64 (c.h 7), .int .i64 (c.h 8), .int .i64 (c.h 9), .int .i64 (c.h 10), .int .i64 (c.h 11), .int .i64 (c.h 12), .int .i64 (c.h 13), .int .i64 (c.h 14), .int .i64 (c.h 15), .int .i64 (c.h 16), .int .i64 (c.h 17), .slice c.fa c.fn c.fc, .slice c.ta c.tn c.tc]] w fun e w' => e = .returned (Ac.acv (c.h 6) (c.h 7) (c.h 8)) ∧ Below w.heap.size w w' := by
  go_enter Tryz.func78, Tryz.ntmps78
  go_wp2
  refine bodyPost_ret (v := Ac.acv (c.h 6) (c.h 7) (c.h 8)) (by simp [results, Tryz.results78, go_sem, cell_set, Ac.acv]) rfl ?_
  exact ⟨rfl, ((Below.refl _ _).alloc (Nat.le_refl _) _).alloc (by simp) _⟩
set_option maxRecDepth 100000 in
set_option maxHeartbeats 4000000 in
theorem entry65 (c : Cf) (w : World) : Calls Tryz.prog 65 #[.agg #[.int .i64 (c.h 0), .int .i64 (c.h 1), .int .i64 (c.h 2), .int .i64 (c.h 3), .int .i64 (c.h 4), .int .i64 (c.h 5), .int .i64 (c.h 6), .int .i64 (c.h 7), .int .i64 (c.h 8), .int .i64 (c.h 9), .int .i64 (c.h 10), .int .i64 (c.h 11), .int .i64 (c.h 12), .int .i64 (c.h 13), .int .i64 (c.h 14), .int .i64 (c.h 15), .int .i64 (c.h 16), .int .i64 (c.h 17), .slice c.fa c.fn c.fc, .slice c.ta c.tn c.tc]] w fun e w' => e = .returned (Ac.acv (c.h 6) (c.h 7) (c.h 8)) ∧ Below w.heap.size w w' := by
  go_enter Tryz.func65, Tryz.ntmps65
  go_wp2
  refine bodyPost_ret (v := Ac.acv (c.h 6) (c.h 7) (c.h 8)) (by simp [results, Tryz.results65, go_sem, cell_set, Ac.acv]) rfl ?_
  exact ⟨rfl, ((Below.refl _ _).alloc (Nat.le_refl _) _).alloc (by simp) _⟩
def ccell (c : Cf) (k : Nat) : Value := (cfs c).getD k undef
theorem cc_at (c : Cf) (k : Nat) (hk : k < 20) : (cfs c)[k]? = some (ccell c k) := by
  unfold ccell
  rw [List.getD_eq_getElem?_getD, List.getElem?_eq_getElem (show k < (cfs c).length from hk)]
  rfl
theorem cfs_arr (c : Cf) : (cfs c).toArray = #[.int .i64 (c.h 0), .int .i64 (c.h 1), .int .i64 (c.h 2), .int .i64 (c.h 3), .int .i64 (c.h 4), .int .i64 (c.h 5), .int .i64 (c.h 6), .int .i64 (c.h 7), .int .i64 (c.h 8), .int .i64 (c.h 9), .int .i64 (c.h 10), .int .i64 (c.h 11), .int .i64 (c.h 12), .int .i64 (c.h 13), .int .i64 (c.h 14), .int .i64 (c.h 15), .int .i64 (c.h 16), .int .i64 (c.h 17), .slice c.fa c.fn c.fc, .slice c.ta c.tn c.tc] := rfl
theorem range_cf {w : World} {z : Nat} {c : Cf} (V : VAt w z 20 (ccell c)) : w.rangeAt z 0 (cfs c) := fun j v hv => by
    have hj : j < 20 := (List.getElem?_eq_some_iff.1 hv).1
    rw [Nat.zero_add, V.c j hj]
    have := cc_at c j hj
    rw [hv] at this
    exact this.symm
theorem range_te {w : World} {b m : Nat} {t : Te} (h : ∀ j, j < 14 → w.cell? ⟨b, m + j, none⟩ = some (tcell t j)) : w.rangeAt b m (tcs t) := fun j v hv => by
    have hj : j < 14 := (List.getElem?_eq_some_iff.1 hv).1
    rw [h j hj]
    have := tc_at t j hj
    rw [hv] at this
    exact this.symm
/-- Terminals in memory. -/
def RT (w : World) (a : Option Addr) (n : Nat) (T : Nat → Te) : Prop :=
  ∃ b m, (0 < n → a = some ⟨b, m, none⟩) ∧ ∀ k, k < n → (∀ j, j < 14 → w.cell? ⟨b, m + k * 14 + j, none⟩ = some (tcell (T k) j)) ∧ TeIn w (T k)
theorem RT.mono {W w : World} {a : Option Addr} {n : Nat} {T : Nat → Te} (H : RT W a n T) (hb : Below W.heap.size W w) : RT w a n T := by
  obtain ⟨b, m, h1, h2⟩ := H
  exact ⟨b, m, h1, fun k hk => ⟨fun j hj => up hb ((h2 k hk).1 j hj), (h2 k hk).2.mono hb⟩⟩
/-- What lies behind a configuration's two slices. -/
structure CfIn (w : World) (c : Cf) (X : Nat → Ch.Fd) (T : Nat → Te) : Prop where
  f : Ch.R5 w c.fa c.fn X
  t : RT w c.ta c.tn T
  fl : c.fn ≤ maxLen
  tl : c.tn ≤ maxLen
theorem CfIn.mono {W w : World} {c : Cf} {X : Nat → Ch.Fd} {T : Nat → Te} (H : CfIn W c X T) (hb : Below W.heap.size W w) : CfIn w c X T := ⟨H.f.mono hb, H.t.mono hb, H.fl, H.tl⟩
def rngC (c : Cf) : Bool := btw (c.h 0) 0 1048576 && btw (c.h 2) 1 12 && btw (c.h 3) 1 1000 && btw (c.h 4) 1 1000 && btw (c.h 5) 1 32
def subC (c : Cf) : Prop := Ac.acC (c.h 6) (c.h 7) (c.h 8) = 0 ∧ Ho.chkP (c.h 9) (c.h 10) (c.h 11) = 0 ∧ Me.rok (c.h 12) (c.h 13) (c.h 14) = true ∧ c.h 15 = 0 ∧ btw (c.h 16) 0 256 = true ∧ btw (c.h 17) 0 256 = true
instance (c : Cf) : Decidable (subC c) := by unfold subC; infer_instance
/-- The error of a network. -/
def netC (c : Cf) (X : Nat → Ch.Fd) (T : Nat → Te) : Int :=
  if btw (c.h 1) 1 3 = false then 63 else if btw c.tn 1 4 = false then 64 else if rngC c = false then 3 else if ¬ subC c then 3
  else if Ch.chk c.fn X ≠ 0 then Ch.chk c.fn X else firstE (fun k => teC (c.h 1) (T k)) c.tn
theorem me_one (a b d : Int) : Me.chk a b d 1 1 (fun _ => 0) (fun _ => 0) = if Me.rok a b d = true then 0 else 3 := by
  unfold Me.chk
  cases Me.rok a b d
  · rfl
  · rfl
end Go.Proofs.YtgflfdnajchjaaaGreatDoor.Tm
