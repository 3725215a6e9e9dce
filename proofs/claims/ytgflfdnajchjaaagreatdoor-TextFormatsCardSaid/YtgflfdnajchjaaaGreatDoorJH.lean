import Derived.Test.YtgflfdnajchjaaaGreatDoorRows
import Derived.Test.YtgflfdnajchjaaaGreatDoorJB
import Derived.Lib.SliceRun
/- Layer 45: the check of a rule (turned from layer 37). -/
namespace Go.Proofs.YtgflfdnajchjaaaGreatDoor.Me
set_option linter.unusedVariables false
set_option linter.unusedSimpArgs false
open Go.RowKit Go.Sort
attribute [local go_sem] gcell
theorem anyB_or (p q : Nat → Bool) (n : Nat) : anyB (fun k => p k || q k) n = (anyB p n || anyB q n) := by
  induction n with
  | zero => rfl
  | succ n ih => unfold anyB; rw [ih]; cases anyB p n <;> cases anyB q n <;> cases p n <;> cases q n <;> rfl
def out (xs : Nat → Int) (m : Int) (k : Nat) : Bool := decide (xs k < 0) || decide (m < xs k)

theorem out31 (p : Nat) (m x : Int) (w : World) (h : w.cell? ⟨p, 0, none⟩ = some (.int .i64 m)) :
    Calls Tryz.prog 132 #[.int .i64 x, .pointer (some ⟨p, 0, none⟩)] w fun e w' => e = .returned (.bool (decide (x < 0) || decide (m < x))) ∧ w' = w := by
  by_cases h0 : x < 0
  · go_enter Tryz.func132, Tryz.ntmps132
    go_wp2
    go_ret
    exact ⟨ret_bool (by simp [h0]), rfl⟩
  · go_enter Tryz.func132, Tryz.ntmps132
    go_wp2
    all_goals
      go_ret
      exact ⟨ret_bool (by rw [Bool.eq_iff_iff]; simp; try omega), rfl⟩

/-- The first one that is outside, or -1. -/
theorem index32 (a : Option Addr) (n c p : Nat) (xs : Nat → Int) (m : Int) (w : World) (R : Row w a n xs) (hn : n ≤ maxLen) (hp : w.cell? ⟨p, 0, none⟩ = some (.int .i64 m)) :
    Calls Tryz.prog 154 #[.slice a n c, .func (.func 132) #[] #[.pointer (some ⟨p, 0, none⟩)]] w fun e w' => ∃ i : Int, e = .returned (.int .i64 i) ∧ decide (0 ≤ i) = anyB (out xs m) n ∧ w' = w := by
  obtain ⟨b, o, ha, hx⟩ := R
  have HA := Lib.hid ha
  have HX := Lib.hid hx
  clear ha hx
  have hn2 := hn
  unfold maxLen at hn2
  go_enter Tryz.func154, Tryz.ntmps154
  go_wp2
  go_loopw [8] (fun i wr => ∃ k : Nat, k ≤ n ∧ i = .int .i64 k ∧ w = wr ∧ anyB (out xs m) k = false) (fun i _ => n - (intOf i).toNat)
  case atStart => exact ⟨0, Nat.zero_le _, rfl, rfl, rfl⟩
  case round =>
    obtain ⟨k, hk, rfl, rfl, hf⟩ := hrel
    have HF := Lib.hid hf
    clear hf
    by_cases hlt : k < n
    · have hxk := HX.out k hlt
      have hak := HA.out (by omega)
      subst hak
      cases hq : out xs m k
      · have hq' : (decide (xs k < 0) || decide (m < xs k)) = false := hq
        go_wp2_with (go_at_call 132; refine (out31 p m _ _ hp).mono ?_; rw [hq']; rintro e wz ⟨rfl, rfl⟩)
        go_roundw
        case rel => exact ⟨k + 1, by omega, by go_num, trivial, by unfold anyB; rw [HF.out, hq]; rfl⟩
        case measure => simp [intOf]; omega
      · have hq' : (decide (xs k < 0) || decide (m < xs k)) = true := hq
        go_wp2_with (go_at_call 132; refine (out31 p m _ _ hp).mono ?_; rw [hq']; rintro e wz ⟨rfl, rfl⟩)
        go_ret
        exact ⟨k, rfl, by rw [anyB_true hlt hq]; simp, rfl⟩
    · have : k = n := by omega
      subst this
      go_wp2
      go_ret
      exact ⟨-1, rfl, by rw [HF.out]; simp, rfl⟩

theorem contains30 (a : Option Addr) (n c p : Nat) (xs : Nat → Int) (m : Int) (w : World) (R : Row w a n xs) (hn : n ≤ maxLen) (hp : w.cell? ⟨p, 0, none⟩ = some (.int .i64 m)) :
    Calls Tryz.prog 131 #[.slice a n c, .func (.func 132) #[] #[.pointer (some ⟨p, 0, none⟩)]] w fun e w' => e = .returned (.bool (anyB (out xs m) n)) ∧ w' = w := by
  go_enter Tryz.func131, Tryz.ntmps131
  go_wp2_with (go_at_call 154; refine (index32 a n c p xs m _ R hn hp).mono ?_)
  intro e w1 h
  obtain ⟨i, rfl, hi, rfl⟩ := h
  have HI := Lib.hid hi
  clear hi
  go_wp2
  go_ret
  exact ⟨ret_bool (by rw [← HI.out]), rfl⟩

theorem outside28 (a : Option Addr) (n c : Nat) (xs : Nat → Int) (m : Int) (w : World) (R : Row w a n xs) (hn : n ≤ maxLen) :
    Calls Tryz.prog 109 #[.slice a n c, .int .i64 m] w fun e w' => e = .returned (.bool (anyB (out xs m) n)) ∧ Below w.heap.size w w' := by
  have hB : Below w.heap.size w (w.alloc (.cells #[.int .i64 m] 3)) := (Below.refl _ _).alloc (Nat.le_refl _) _
  have R1 := R.mono hB
  go_enter Tryz.func109, Tryz.ntmps109
  go_wp2_with (go_at_call 131; refine (contains30 a n c w.heap.size xs m _ R1 hn (by simp [go_sem])).mono ?_; rintro e wz ⟨rfl, rfl⟩)
  go_ret
  exact ⟨rfl, hB⟩

def rok (mg bk hd : Int) : Bool := decide (-15 ≤ mg) && decide (mg ≤ 15) && decide (0 ≤ bk) && decide (bk ≤ 15) && decide (1 ≤ hd) && decide (hd ≤ 1000)
/-- What Check hands back. -/
def chk (mg bk hd : Int) (n m : Nat) (fs hs : Nat → Int) : Int :=
  if rok mg bk hd then if n = m ∧ 1 ≤ n ∧ n ≤ 3 then if anyB (out fs 240) n || anyB (out hs 1000) n then 1 else 0 else 2 else 3

theorem rok_false {mg bk hd : Int} (h : mg < -15 ∨ 15 < mg ∨ bk < 0 ∨ 15 < bk ∨ hd < 1 ∨ 1000 < hd) : rok mg bk hd = false := by
  unfold rok
  rw [Bool.eq_false_iff]
  simp; omega
theorem rok_true {mg bk hd : Int} (h : -15 ≤ mg ∧ mg ≤ 15 ∧ 0 ≤ bk ∧ bk ≤ 15 ∧ 1 ≤ hd ∧ hd ≤ 1000) : rok mg bk hd = true := by
  unfold rok; simp; omega
theorem chk_ok {mg bk hd : Int} {n m : Nat} {fs hs : Nat → Int} (h : chk mg bk hd n m fs hs = 0) : (-15 ≤ mg ∧ mg ≤ 15 ∧ 0 ≤ bk ∧ bk ≤ 15 ∧ 1 ≤ hd ∧ hd ≤ 1000) ∧ (n = m ∧ 1 ≤ n ∧ n ≤ 3) ∧ ∀ k, k < n → (0 ≤ fs k ∧ fs k ≤ 240) ∧ (0 ≤ hs k ∧ hs k ≤ 1000) := by
  unfold chk at h
  cases h1 : rok mg bk hd
  · rw [h1] at h; simp at h
  · rw [h1] at h
    simp only [if_true] at h
    split at h
    · rename_i h2
      cases h3 : anyB (out fs 240) n
      · cases h4 : anyB (out hs 1000) n
        · refine ⟨by unfold rok at h1; simp at h1; omega, h2, fun k hk => ?_⟩
          have a := anyB_false.1 h3 k hk
          have b := anyB_false.1 h4 k hk
          unfold out at a b
          simp at a b
          omega
        · rw [h3, h4] at h; simp at h
      · rw [h3] at h; simp at h
    · omega

def rv (mg bk hd : Int) : Value := .agg #[.int .i64 mg, .int .i64 bk, .int .i64 hd]
def sv (a d : Option Addr) (n c m l : Nat) : Value := .agg #[.slice a n c, .slice d m l]

set_option maxHeartbeats 4000000 in
theorem check22 (mg bk hd : Int) (a d : Option Addr) (n c m l : Nat) (fs hs : Nat → Int) (w : World) (R : Row w a n fs) (S : Row w d m hs) (hn : n ≤ 1000) (hm : m ≤ 1000) :
    Calls Tryz.prog 80 #[rv mg bk hd, sv a d n c m l] w fun e w' => e = .returned (.int .i64 (chk mg bk hd n m fs hs)) ∧ Below w.heap.size w w' := by
  have hB : Below w.heap.size w ((w.alloc (.cells #[.int .i64 mg, .int .i64 bk, .int .i64 hd] 31)).alloc (.cells #[.slice a n c, .slice d m l] 146)) := ((Below.refl _ _).alloc (Nat.le_refl _) _).alloc (by simp) _
  have HR := Lib.hid (R.mono hB)
  have HS := Lib.hid (S.mono hB)
  have HB := Lib.hid hB
  clear R S hB
  unfold rv sv
  by_cases h0 : -15 ≤ mg ∧ mg ≤ 15 ∧ 0 ≤ bk ∧ bk ≤ 15 ∧ 1 ≤ hd ∧ hd ≤ 1000
  · have hr := rok_true h0
    by_cases h1 : n = m ∧ 1 ≤ n ∧ n ≤ 3
    · obtain ⟨rfl, h1⟩ := h1
      have hnl : n ≤ maxLen := by unfold maxLen; omega
      go_enter Tryz.func80, Tryz.ntmps80
      go_wp2_with (go_at_call 109; refine (outside28 a n c fs 240 _ HR.out hnl).mono ?_)
      intro e w1 h
      obtain ⟨rfl, hb⟩ := h
      have c0 := up hb (b := w.heap.size + 1) (o := 1) (v := .slice d n l) (by simp [go_sem])
      have HS1 := Lib.hid (HS.out.mono hb)
      have hB := HB.out.trans (hb.mono (by simp; omega))
      have HB1 := Lib.hid hB
      have z1 := hB.size
      clear HR HS HB hb hB
      cases h2 : anyB (out fs 240) n
      · go_wp2_with (go_at_call 109; refine (outside28 d n l hs 1000 _ HS1.out hnl).mono ?_)
        intro e w2 h
        obtain ⟨rfl, hb⟩ := h
        have HB2 := Lib.hid (bthen HB1.out hb z1)
        clear HS1 hb HB1
        cases h3 : anyB (out hs 1000) n
        · go_wp2
          go_ret
          exact ⟨ret_int (by unfold chk; rw [hr, if_pos rfl, if_pos ⟨rfl, h1⟩, h2, h3]; rfl), HB2.out⟩
        · go_wp2
          go_ret
          exact ⟨ret_int (by unfold chk; rw [hr, if_pos rfl, if_pos ⟨rfl, h1⟩, h2, h3]; rfl), HB2.out⟩
      · go_wp2
        go_ret
        exact ⟨ret_int (by unfold chk; rw [hr, if_pos rfl, if_pos ⟨rfl, h1⟩, h2]; rfl), HB1.out⟩
    · have e : chk mg bk hd n m fs hs = 2 := by unfold chk; rw [hr, if_pos rfl, if_neg h1]
      rw [e]
      by_cases h2 : n = m
      · subst h2
        have h3 : n < 1 ∨ 3 < n := by omega
        have q1 : ((n : Int) == (n : Int)) = true := beq_self_eq_true _
        have q2 : ((n : Int) != (n : Int)) = false := by simp
        rcases h3 with h3 | h3
        · go_enter Tryz.func80, Tryz.ntmps80
          go_wp2
          go_ret
          exact ⟨rfl, HB.out⟩
        · go_enter Tryz.func80, Tryz.ntmps80
          go_wp2
          go_ret
          exact ⟨rfl, HB.out⟩
      · have q1 : ((n : Int) == (m : Int)) = false := beq_eq_false_iff_ne.2 (by omega)
        have q2 : ((n : Int) != (m : Int)) = true := by rw [bne_iff_ne]; omega
        go_enter Tryz.func80, Tryz.ntmps80
        go_wp2
        go_ret
        exact ⟨rfl, HB.out⟩
  · have hr := rok_false (mg := mg) (bk := bk) (hd := hd) (by omega)
    have e : chk mg bk hd n m fs hs = 3 := by unfold chk; rw [hr]; rfl
    rw [e]
    go_enter Tryz.func80, Tryz.ntmps80
    go_wp2
    all_goals first
      | (go_ret; exact ⟨rfl, HB.out⟩)
      | (exfalso; omega)
      | skip

set_option maxRecDepth 100000 in
set_option maxHeartbeats 4000000 in
theorem check23 (mg bk hd : Int) (a d : Option Addr) (n c m l : Nat) (fs hs : Nat → Int) (w : World) (R : Row w a n fs) (S : Row w d m hs) (hn : n ≤ 1000) (hm : m ≤ 1000) :
    Calls Tryz.prog 67 #[rv mg bk hd, sv a d n c m l] w fun e w' => e = .returned (.int .i64 (chk mg bk hd n m fs hs)) ∧ Below w.heap.size w w' := by
  have hB : Below w.heap.size w ((w.alloc (.cells #[.int .i64 mg, .int .i64 bk, .int .i64 hd] 31)).alloc (.cells #[.slice a n c, .slice d m l] 146)) := ((Below.refl _ _).alloc (Nat.le_refl _) _).alloc (by simp) _
  have HR := Lib.hid (R.mono hB)
  have HS := Lib.hid (S.mono hB)
  have HB := Lib.hid hB
  clear R S hB
  unfold rv sv
  by_cases h0 : -15 ≤ mg ∧ mg ≤ 15 ∧ 0 ≤ bk ∧ bk ≤ 15 ∧ 1 ≤ hd ∧ hd ≤ 1000
  · have hr := rok_true h0
    by_cases h1 : n = m ∧ 1 ≤ n ∧ n ≤ 3
    · obtain ⟨rfl, h1⟩ := h1
      have q1 : ((n : Int) == (n : Int)) = true := beq_self_eq_true _
      have q2 : ((n : Int) != (n : Int)) = false := by simp
      have hE : chk mg bk hd n n fs hs = if anyB (fun k => out fs 240 k || out hs 1000 k) n then 1 else 0 := by unfold chk; rw [hr, if_pos rfl, if_pos ⟨rfl, h1⟩, anyB_or]
      have HE := Lib.hid hE
      clear hE
      go_enter Tryz.func67, Tryz.ntmps67
      go_wp2
      go_loopw [5] (fun i wr => ∃ k : Nat, k ≤ n ∧ i = .int .i64 k ∧ wr = ((w.alloc (.cells #[.int .i64 mg, .int .i64 bk, .int .i64 hd] 31)).alloc (.cells #[.slice a n c, .slice d n l] 146)) ∧ anyB (fun k => out fs 240 k || out hs 1000 k) k = false) (fun i _ => n - (intOf i).toNat)
      case atStart => exact ⟨0, Nat.zero_le _, rfl, rfl, rfl⟩
      case round =>
        obtain ⟨k, hk, rfl, rfl, hf⟩ := hrel
        have HF := Lib.hid hf
        clear hf
        by_cases hlt : k < n
        · obtain ⟨b1, o1, e1, x1⟩ := HR.out
          obtain ⟨b2, o2, e2, x2⟩ := HS.out
          have hx := x1 k hlt
          have hy := x2 k hlt
          have f1 := e1 (by omega)
          have f2 := e2 (by omega)
          clear x1 x2 e1 e2
          subst f1 f2
          by_cases g1 : fs k < 0
          · go_wp2
            go_ret
            exact ⟨ret_int (by rw [HE.out, anyB_true hlt (by simp [out, g1])]; rfl), HB.out⟩
          · by_cases g2 : 240 < fs k
            · go_wp2
              go_ret
              exact ⟨ret_int (by rw [HE.out, anyB_true hlt (by simp [out, g2])]; rfl), HB.out⟩
            · by_cases g3 : hs k < 0
              · go_wp2
                go_ret
                exact ⟨ret_int (by rw [HE.out, anyB_true hlt (by simp [out, g3])]; rfl), HB.out⟩
              · by_cases g4 : 1000 < hs k
                · go_wp2
                  go_ret
                  exact ⟨ret_int (by rw [HE.out, anyB_true hlt (by simp [out, g4])]; rfl), HB.out⟩
                · go_wp2
                  go_roundw
                  case rel => exact ⟨k + 1, by omega, by go_num, trivial, by unfold anyB; rw [HF.out]; simp [out]; omega⟩
                  case measure => simp [intOf]; omega
        · have : k = n := by omega
          subst this
          go_wp2
          go_ret
          exact ⟨ret_int (by rw [HE.out, HF.out]; rfl), HB.out⟩
    · have e : chk mg bk hd n m fs hs = 2 := by unfold chk; rw [hr, if_pos rfl, if_neg h1]
      rw [e]
      by_cases h2 : n = m
      · subst h2
        have h3 : n < 1 ∨ 3 < n := by omega
        have q1 : ((n : Int) == (n : Int)) = true := beq_self_eq_true _
        have q2 : ((n : Int) != (n : Int)) = false := by simp
        rcases h3 with h3 | h3
        · go_enter Tryz.func67, Tryz.ntmps67
          go_wp2
          go_ret
          exact ⟨rfl, HB.out⟩
        · go_enter Tryz.func67, Tryz.ntmps67
          go_wp2
          go_ret
          exact ⟨rfl, HB.out⟩
      · have q1 : ((n : Int) == (m : Int)) = false := beq_eq_false_iff_ne.2 (by omega)
        have q2 : ((n : Int) != (m : Int)) = true := by rw [bne_iff_ne]; omega
        go_enter Tryz.func67, Tryz.ntmps67
        go_wp2
        go_ret
        exact ⟨rfl, HB.out⟩
  · have hr := rok_false (mg := mg) (bk := bk) (hd := hd) (by omega)
    have e : chk mg bk hd n m fs hs = 3 := by unfold chk; rw [hr]; rfl
    rw [e]
    go_enter Tryz.func67, Tryz.ntmps67
    go_wp2
    all_goals first
      | (go_ret; exact ⟨rfl, HB.out⟩)
      | (exfalso; omega)
      | skip
end Go.Proofs.YtgflfdnajchjaaaGreatDoor.Me
