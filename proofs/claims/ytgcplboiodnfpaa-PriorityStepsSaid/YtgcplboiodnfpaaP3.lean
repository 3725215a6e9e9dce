/- Layer 25: Tick. -/
import Derived.Test.YtgcplboiodnfpaaP2
namespace Go.Proofs.Ytgcplboiodnfpaa
set_option linter.unusedVariables false
set_option linter.unusedSimpArgs false
open Go.RowKit Go.Sort
attribute [local go_sem] gcell

def upto (k : Nat) (new old : Nat → Int) (j : Nat) : Int := if j < k then new j else old j
theorem upto_put {k : Nat} {new old : Nat → Int} {x : Int} (h : x = new k) (j : Nat) : upto (k + 1) new old j = putI (upto k new old) k x j := by
  show (if j < k + 1 then new j else old j) = (if j = k then x else (if j < k then new j else old j))
  by_cases e : j = k
  · subst e; rw [if_pos (by omega), if_pos rfl, h]
  · rw [if_neg e]
    by_cases c : j < k
    · rw [if_pos (by omega), if_pos c]
    · rw [if_neg (by omega), if_neg c]
theorem upto_lt {k j : Nat} (new old : Nat → Int) (h : j < k) : upto k new old j = new j := if_pos h
theorem upto_ge {k j : Nat} (new old : Nat → Int) (h : k ≤ j) : upto k new old j = old j := if_neg (by omega)
theorem bf_put (P R M T : Nat → Int) (k : Nat) (x : Int) (j : Nat) : bf P R M (putI T k x) j = putV (bf P R M T) (k * 4 + 3) (.int .i64 x) j := by
  unfold putV
  by_cases e : j = k * 4 + 3
  · rw [if_pos e, e, bf3]; unfold putI; rw [if_pos rfl]
  · rw [if_neg e]
    unfold bf
    by_cases h0 : j % 4 = 0
    · rw [if_pos h0, if_pos h0]
    · rw [if_neg h0, if_neg h0]
      by_cases h1 : j % 4 = 1
      · rw [if_pos h1, if_pos h1]
      · rw [if_neg h1, if_neg h1]
        by_cases h2 : j % 4 = 2
        · rw [if_pos h2, if_pos h2]
        · rw [if_neg h2, if_neg h2]
          unfold putI
          rw [if_neg (by omega)]
theorem bf_congr {P R M T T' : Nat → Int} {n : Nat} (h : ∀ k, k < n → T' k = T k) (j : Nat) (hj : j < n * 4) : bf P R M T' j = bf P R M T j := by
  unfold bf
  rw [h (j / 4) (by omega)]
/-- Buckets in a block that may be written. -/
def B4 (w : World) (b n : Nat) (P R M T : Nat → Int) : Prop := VAt w b (n * 4) (bf P R M T)
section
variable {w : World} {b n : Nat} {P R M T : Nat → Int}
theorem B4.cells (Q : B4 w b n P R M T) {k : Nat} (hk : k < n) : w.cell? ⟨b, k * 4, none⟩ = some (.int .i64 (P k)) ∧ w.cell? ⟨b, k * 4 + 1, none⟩ = some (.int .i64 (R k)) ∧ w.cell? ⟨b, k * 4 + 2, none⟩ = some (.int .i64 (M k)) ∧ w.cell? ⟨b, k * 4 + 3, none⟩ = some (.int .i64 (T k)) :=
  ⟨by rw [Q.c _ (by omega), bf0], by rw [Q.c _ (by omega), bf1], by rw [Q.c _ (by omega), bf2], by rw [Q.c _ (by omega), bf3]⟩
theorem B4.set (Q : B4 w b n P R M T) (k : Nat) (x : Int) : B4 (w.setCell ⟨b, k * 4 + 3, none⟩ (.int .i64 x)) b n P R M (putI T k x) :=
  (VAt.set Q (k * 4 + 3) (.int .i64 x)).congr fun j _ => bf_put P R M T k x j
theorem B4.congr (Q : B4 w b n P R M T) {T' : Nat → Int} (h : ∀ k, k < n → T' k = T k) : B4 w b n P R M T' := VAt.congr Q fun j hj => bf_congr h j hj
theorem B4.mono {w' : World} (Q : B4 w b n P R M T) (hb : Below w.heap.size w w') : B4 w' b n P R M T := VAt.mono Q hb
theorem B4.r4 (Q : B4 w b n P R M T) : R4 w (some ⟨b, 0, none⟩) n P R M T := R4.of_cells Q.c fun _ => rfl
end
/-- What a bucket holds behind a tick. -/
def tk (R M T : Nat → Int) (k : Nat) : Int := min (T k + R k) (M k)
def tkT (ok : Bool) (R M T : Nat → Int) (k : Nat) : Int := if ok then tk R M T k else T k
def TickR (n : Nat) (P R M T : Nat → Int) (w : World) (e : Ending) (w' : World) : Prop :=
  ∃ a c, e = .returned (.slice a n c) ∧ n ≤ c ∧ (a = none → n = 0) ∧ R4 w' a n P R M (tkT (okB n P R M T) R M T) ∧ Below w.heap.size w w'

section
variable (a : Option Addr) (n c : Nat) (P R M T : Nat → Int) (w : World)
set_option maxRecDepth 100000 in
set_option maxHeartbeats 4000000 in
theorem tick20 (hn : n ≤ 1000) (ha : a = none → n = 0) (H : R4 w a n P R M T) : Calls Try.prog 20 #[.slice a n c] w (TickR n P R M T w) := by
  have hml : n ≤ maxLen := by unfold maxLen; omega
  have K := Lib.hid (clone25 w a n c P R M T hn ha H)
  have HR := Lib.hid H
  clear H ha
  go_enter Try.func20, Try.ntmps20
  go_wp2_with fail
  refine K.out.mono ?_
  rintro e w1 ⟨v, rfl, a', c', b, rfl, hc', hC, hb⟩
  have HC := Lib.hid hC
  have HB := Lib.hid hb
  have hs1 := hb.size
  have K2 := Lib.hid (valid21 a n c P R M T w1 (HR.out.mono hb) hml)
  clear hC hb K
  go_wp2_with fail
  refine K2.out.mono ?_
  rintro e w2 ⟨rfl, hb⟩
  have HB2 := Lib.hid (bthen HB.out hb hs1)
  have HBB := Lib.hid hb
  clear hb K2
  cases hok : okB n P R M T
  · have HOK := Lib.hid hok
    clear hok
    go_wp2
    go_ret
    refine ⟨a', c', rfl, hc', ?_, ?_, HB2.out⟩
    · rintro rfl
      rcases Nat.eq_zero_or_pos n with h | h
      · exact h
      · exact absurd (HC.out h).1 (by simp)
    · rw [HOK.out]
      rcases Nat.eq_zero_or_pos n with h | h
      · subst h; exact R4.zero _ _ _ _ _ _
      · obtain ⟨rfl, _, hV⟩ := HC.out h
        exact (B4.r4 (T := T) (hV.mono HBB.out)).congr fun _ _ => rfl
  · have HOK := Lib.hid hok
    have HV := Lib.hid (okB_true hok).2
    have h8 := (okB_true hok).1
    clear hok
    rcases Nat.eq_zero_or_pos n with h | h
    · subst h
      go_wp2_with fail
      go_loopw [13] (fun s13 wr => s13 = .int .i64 0 ∧ wr = w2) (fun _ _ => 0)
      case atStart => exact ⟨rfl, rfl⟩
      case round =>
        obtain ⟨rfl, rfl⟩ := hrel
        go_wp2
        go_ret
        exact ⟨a', c', rfl, hc', fun _ => rfl, R4.zero _ _ _ _ _ _, HB2.out⟩
    · obtain ⟨rfl, hbs, hVA⟩ := HC.out h
      have HQ := Lib.hid (show B4 w2 b n P R M T from hVA.mono HBB.out)
      clear hVA HC
      go_wp2_with fail
      go_loopw [13] (fun s13 wr => ∃ k : Nat, s13 = .int .i64 k ∧ k ≤ n ∧ Below w.heap.size w wr ∧ B4 wr b n P R M (upto k (tk R M T) T)) (fun s13 _ => n - (intOf s13).toNat)
      case atStart => exact ⟨0, rfl, Nat.zero_le _, HB2.out, HQ.out.congr fun j _ => upto_ge _ _ (Nat.zero_le _)⟩
      case round =>
        clear HQ
        obtain ⟨k, rfl, hk, hb, hQ⟩ := hrel
        have HB := Lib.hid hb
        have HQ := Lib.hid hQ
        have hsr := hb.size
        by_cases hlt : k < n
        · obtain ⟨c0, c1, c2, c3⟩ := hQ.cells hlt
          rw [upto_ge _ _ (Nat.le_refl k)] at c3
          have hv := vb_true (HV.out k hlt)
          have hx : tk R M T k = min (T k + R k) (M k) := rfl
          have HS := Lib.hid fun (W : World) (hW : Below wr.heap.size wr W) => ((hQ.mono hW).set k (tk R M T k)).congr fun j _ => upto_put rfl j
          have HBW := Lib.hid fun (W : World) (hW : Below wr.heap.size wr W) (x : Value) => (bthen hb hW hsr).setCell (p := ⟨b, k * 4 + 3, none⟩) hbs x
          have f3 := hQ.fr (k * 4 + 3)
          have i1 : (0 : Int) ≤ (k : Int) := by omega
          have i2 : (k : Int) < (n : Int) := by omega
          clear hb hQ
          rw [hx] at HS
          generalize T k = tt at *
          generalize R k = rr at *
          generalize M k = mm at *
          have e1 : IntKind.i64.wrap (tt + rr) = tt + rr := IntWalk.i64_in _ (by omega)
          have ltb := lt_of_cell c0
          by_cases hm : tt + rr ≤ mm
          all_goals
            first
              | have em : min (tt + rr) mm = tt + rr := Int.min_eq_left hm
              | have em : min (tt + rr) mm = mm := Int.min_eq_right (by omega)
            rw [em] at HS
            clear em
            go_wp2_with fail
            refine wp_region_grown_tail 21 (by kernel_rfl) (by kernel_rfl) ?_
            simp only [List.take_succ_cons, List.take_zero, List.drop_succ_cons, List.drop_zero]
            repeat (go_big_quiet_step (fail))
            refine wpQuiet_nil ?_
            intro w4 hw4
            have hb4 := below_of_regrown hw4
            have HS4 := Lib.hid (HS.out w4 hb4)
            have HB4 := Lib.hid (HBW.out w4 hb4)
            have c34 := up hb4 c3
            have f34 := upf hb4 ltb f3
            clear hw4 hb4 c0 c1 c2 c3 f3 ltb HS HBW HQ HB
            go_wp2
            go_roundw
            case rel => exact ⟨k + 1, by go_num, by omega, HB4.out _, HS4.out⟩
            case measure => simp [intOf] <;> omega
        · obtain rfl : k = n := by omega
          have HE := Lib.hid ((hQ.congr fun j hj => (show tkT true R M T j = _ from (upto_lt _ _ hj).symm)).r4)
          clear hb hQ
          go_wp2
          go_ret
          exact ⟨_, c', rfl, hc', fun h => by simp at h, by rw [HOK.out]; exact HE.out, HB.out⟩
theorem lit_run (w : World) (c : Nat) : (Builtin.append_ #[25, 25] 25 #[.slice (some ⟨w.heap.size, 0, none⟩) 0 0, .slice none 0 c]).run Try.prog (w.alloc (.cells #[] 35)) = .ok (.slice (some ⟨w.heap.size, 0, none⟩) 0 0) (w.alloc (.cells #[] 35)) := by
  obtain ⟨i0, hi, hz0, hz1, hz2⟩ := info_split bInfo
  simp [Builtin.append_, run_underlying Try.underlying25, sizeOf, typeInfo, hi, Builtin.lenOf, Builtin.firstCells, loadCells, loadCellsFrom, storeCells, Result.andThen]
theorem copy19 (hn : n ≤ 1000) (ha : a = none → n = 0) (H : R4 w a n P R M T) {Q : Exit → Act → World → Prop} {ops : Array Oper} {rest : List Oper} {o : Oper} {ac : Act} (hgd : o.guard = none) (sl x : Operand)
    (ho : o.op = .call { callee := .builtin .append, args := #[sl, x], argTypes := #[25, 25] }) (hty : o.type = 25) (hs : ac.eval sl = .slice (some ⟨w.heap.size, 0, none⟩) 0 0) (hx : ac.eval x = .slice a n c)
    (h : ∀ v' w', Copy n P R M T w v' w' → wpList Try.prog ops Q rest (ac.put o.dst v') w') : wpList Try.prog ops Q (o :: rest) ac (w.alloc (.cells #[] 35)) := by
  cases a with
  | none =>
    obtain rfl := ha rfl
    refine wpList_plain hgd fun K hK => ?_
    unfold Oper.wp execOp
    simp only [ho, hty, resolve, invoke, builtin, Sem.run_bind, Sem.run_pure, Result.andThen_ok, List.map_toArray, List.map_cons, List.map_nil, hs, hx, lit_run]
    exact hK _ _ (h _ _ ⟨_, 0, 0, rfl, Nat.le_refl _, fun h => absurd h (Nat.lt_irrefl _), (Below.refl _ _).alloc (Nat.le_refl _) _⟩)
  | some A =>
    refine wpList_append_copy w hgd sl x 25 ho 35 bz 4 32 Try.underlying25 bInfo rfl (by decide) (by decide) n c A (bf P R M T) hs hx H.rowK (bf_one P R M T) (by omega) fun v' w' hown hb hlt => h v' w' (copy_own hown hb)
set_option maxRecDepth 100000 in
set_option maxHeartbeats 4000000 in
theorem tick19 (hn : n ≤ 1000) (ha : a = none → n = 0) (H : R4 w a n P R M T) : Calls Try.prog 19 #[.slice a n c] w (TickR n P R M T w) := by
  have hml : n ≤ maxLen := by unfold maxLen; omega
  have HR := Lib.hid H
  have HA := Lib.hid ha
  clear H ha
  go_enter Try.func19, Try.ntmps19
  go_wp2_with (at_builtin; refine copy19 a n c P R M T w hn HA.out HR.out rfl (.tmp 5) (.tmp 6) rfl rfl rfl rfl ?_; rintro v' w1 ⟨a', c', b, rfl, hc', hC, hb⟩; have HC := Lib.hid hC; have HB := Lib.hid hb; have hs1 := hb.size; clear hC hb)
  have K2 := Lib.hid fun W (h : Below w.heap.size w W) => valid30 a n c P R M T W (HR.out.mono h) hml
  clear HA
  cases hok : okB n P R M T
  · have HOK := Lib.hid hok
    rw [hok] at K2
    clear hok
    rcases Nat.eq_zero_or_pos n with h | h
    · subst h
      go_wp2_with fail
      go_loopw [4] (fun s4 wr => s4 = .int .i64 0 ∧ wr = w1) (fun _ _ => 0)
      case atStart => exact ⟨rfl, rfl⟩
      case round =>
        obtain ⟨rfl, rfl⟩ := hrel
        go_wp2
        go_ret
        exact ⟨a', c', rfl, hc', fun _ => rfl, R4.zero _ _ _ _ _ _, HB.out⟩
    · obtain ⟨rfl, hbs, hVA⟩ := HC.out h
      have HQ := Lib.hid (show B4 w1 b n P R M T from hVA)
      have d0 : decide (0 < n) = true := decide_eq_true h
      clear hVA HC
      go_wp2_with fail
      go_loopw [4] (fun s4 wr => s4 = .int .i64 0 ∧ wr = w1) (fun _ _ => 0)
      case atStart => exact ⟨rfl, rfl⟩
      case round =>
        obtain ⟨rfl, rfl⟩ := hrel
        go_wp2_with fail
        refine (K2.out _ HB.out).mono ?_
        rintro e w2 ⟨rfl, hb⟩
        have HB2 := Lib.hid (bthen HB.out hb hs1)
        have HQ2 := Lib.hid (HQ.out.mono hb)
        clear hb HQ HB
        go_wp2
        go_ret
        exact ⟨_, c', rfl, hc', fun h => by simp at h, by rw [HOK.out]; exact HQ2.out.r4.congr fun _ _ => rfl, HB2.out⟩
  · have HOK := Lib.hid hok
    have HV := Lib.hid (okB_true hok).2
    have h8 := (okB_true hok).1
    rw [hok] at K2
    clear hok
    rcases Nat.eq_zero_or_pos n with h | h
    · subst h
      go_wp2_with fail
      go_loopw [4] (fun s4 wr => s4 = .int .i64 0 ∧ wr = w1) (fun _ _ => 0)
      case atStart => exact ⟨rfl, rfl⟩
      case round =>
        obtain ⟨rfl, rfl⟩ := hrel
        go_wp2
        go_ret
        exact ⟨a', c', rfl, hc', fun _ => rfl, R4.zero _ _ _ _ _ _, HB.out⟩
    · obtain ⟨rfl, hbs, hVA⟩ := HC.out h
      have HQ := Lib.hid (show B4 w1 b n P R M T from hVA)
      clear hVA HC
      go_wp2_with fail
      go_loopw [4] (fun s4 wr => ∃ k : Nat, s4 = .int .i64 k ∧ k ≤ n ∧ Below w.heap.size w wr ∧ B4 wr b n P R M (upto k (tk R M T) T)) (fun s4 _ => n - (intOf s4).toNat)
      case atStart => exact ⟨0, rfl, Nat.zero_le _, HB.out, HQ.out.congr fun j _ => upto_ge _ _ (Nat.zero_le _)⟩
      case round =>
        clear HQ
        obtain ⟨k, rfl, hk, hb, hQ⟩ := hrel
        have HB := Lib.hid hb
        have HQ := Lib.hid hQ
        have hsr := hb.size
        clear hb hQ
        by_cases hlt : k < n
        · have d0 : decide (k < n) = true := decide_eq_true hlt
          have i2 : (k : Int) < (n : Int) := by omega
          have i1 : (0 : Int) ≤ (k : Int) := by omega
          go_wp2_with fail
          refine (K2.out _ HB.out).mono ?_
          rintro e w3 ⟨rfl, hb⟩
          have hb3 := bthen HB.out hb hsr
          have hQ := HQ.out.mono hb
          have HB3 := Lib.hid hb3
          have HQ3 := Lib.hid hQ
          have hs3 := hb3.size
          clear hb HB HQ
          obtain ⟨c0, c1, c2, c3⟩ := hQ.cells hlt
          rw [upto_ge _ _ (Nat.le_refl k)] at c3
          have hv := vb_true (HV.out k hlt)
          have hx : tk R M T k = min (T k + R k) (M k) := rfl
          have HS := Lib.hid fun (W : World) (hW : Below w3.heap.size w3 W) => ((hQ.mono hW).set k (tk R M T k)).congr fun j _ => upto_put rfl j
          have HBW := Lib.hid fun (W : World) (hW : Below w3.heap.size w3 W) (x : Value) => (bthen hb3 hW hs3).setCell (p := ⟨b, k * 4 + 3, none⟩) hbs x
          have f3 := hQ.fr (k * 4 + 3)
          clear hb3 hQ
          rw [hx] at HS
          generalize T k = tt at *
          generalize R k = rr at *
          generalize M k = mm at *
          have e1 : IntKind.i64.wrap (tt + rr) = tt + rr := IntWalk.i64_in _ (by omega)
          have ltb := lt_of_cell c0
          by_cases hm : tt + rr ≤ mm
          all_goals
            first
              | have em : min (tt + rr) mm = tt + rr := Int.min_eq_left hm
              | have em : min (tt + rr) mm = mm := Int.min_eq_right (by omega)
            rw [em] at HS
            clear em
            go_wp2_with fail
            refine wp_region_grown_tail 21 (by kernel_rfl) (by kernel_rfl) ?_
            simp only [List.take_succ_cons, List.take_zero, List.drop_succ_cons, List.drop_zero]
            repeat (go_big_quiet_step (fail))
            refine wpQuiet_nil ?_
            intro w4 hw4
            have hb4 := below_of_regrown hw4
            have HS4 := Lib.hid (HS.out w4 hb4)
            have HB4 := Lib.hid (HBW.out w4 hb4)
            have c34 := up hb4 c3
            have f34 := upf hb4 ltb f3
            clear hw4 hb4 c0 c1 c2 c3 f3 ltb HS HBW HQ3 HB3
            go_wp2
            go_roundw
            case rel => exact ⟨k + 1, by go_num, by omega, HB4.out _, HS4.out⟩
            case measure => simp [intOf] <;> omega
        · obtain rfl : k = n := by omega
          have HE := Lib.hid ((HQ.out.congr fun j hj => (show tkT true R M T j = _ from (upto_lt _ _ hj).symm)).r4)
          have d0 : decide (k < k) = false := by simp
          go_wp2
          go_ret
          exact ⟨_, c', rfl, hc', fun h => by simp at h, by rw [HOK.out]; exact HE.out, HB.out⟩
end
end Go.Proofs.Ytgcplboiodnfpaa
