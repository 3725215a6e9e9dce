/- Layer 31: the program's Noise, where all numbers are in their ranges. -/
import Derived.Test.YtfkbcjpiijcbfaaC2
namespace Go.Proofs.Ytfkbcjpiijcbfaa
set_option linter.unusedVariables false
set_option linter.unusedSimpArgs false
open Go.RowKit Go.Sort
attribute [local go_sem] gcell Oper.semAt_some

theorem btw_t {n l h : Int} (hb : l ≤ n ∧ n ≤ h) : btw n l h = true := decide_eq_true hb
/-- Between two rounds: k numbers have been taken. -/
structure Nz (w : World) (B N : Nat) (m x : Int) (k : Nat) (W : World) : Prop where
  le : k ≤ N
  bel : Below w.heap.size w W
  lt : B + 3 < W.heap.size
  c0 : W.cell? ⟨B, 0, none⟩ = some (.int .i64 N)
  c1 : W.cell? ⟨B + 1, 0, none⟩ = some (.int .i64 m)
  f : W.frozen? ⟨B + 1 + 1, 0, none⟩ = false
  o : ∃ v, W.cell? ⟨B + 1 + 1, 0, none⟩ = some v ∧ W.ownsRow (B + 3) 3 1 v k ((List.range k).map (iv (nzV x m)))
theorem Nz.own {w : World} {B N : Nat} {m x : Int} (hB : w.heap.size ≤ B) : OwnFrom (B + 4) (Nz w B N m x) := fun k W W' row h hg hr => by
  have hne : ∀ b, b < B + 4 → some b ≠ row := fun b hb e => by have := (hr b e.symm).1; omega
  obtain ⟨v, h1, h2⟩ := h.o
  refine ⟨h.le, h.bel.grown hg h.bel.size (fun r e => by have := (hr r e).1; omega), Nat.lt_of_lt_of_le h.lt hg.size, cell_kept h.c0 hg fun r e => (hr r e).2, cell_kept h.c1 hg fun r e => (hr r e).2, (frozen_kept h1 hg fun r e => (hr r e).2).trans h.f, v, cell_kept h1 hg fun r e => (hr r e).2, h2.kept hg ?_⟩
  cases hb : v.ownBlock with
  | none => exact .inl rfl
  | some b =>
    refine .inr fun e => ?_
    obtain ⟨_, o, ho, hc⟩ := hr b e.symm
    obtain ⟨_, ⟨hv, _⟩ | ⟨g, cap, cur, hv, _, hh, _⟩⟩ := h2
    · rw [hv] at hb; cases hb
    · rw [hv] at hb
      have : g = b := by simpa [Value.ownBlock] using hb
      subst this
      rw [hh] at ho
      cases ho
      cases hc
theorem own_setb' {base : Nat} {wr : World} {e s n z o : Nat} {v : Value} {xs : List Value} (h : wr.ownsRow base e s v n xs) (hz : z < base) (u : Value) : (wr.setCell ⟨z, o, none⟩ u).ownsRow base e s v n xs :=
  h.kept (row := some z) ⟨rfl, rfl, rfl, by simp, fun k hk hne => by
    have : z ≠ k := fun e => hne (by rw [e])
    simp [World.setCell, Array.getElem?_modify, this]⟩ (.inr fun hc => by have := (h.lt z hc).1; omega)
theorem own_keep' {wr w' : World} {base e s n : Nat} {v : Value} {xs : List Value} (h : wr.ownsRow base e s v n xs) (hb : Below wr.heap.size wr w') : w'.ownsRow base e s v n xs :=
  h.kept (row := none) ⟨hb.os, hb.tape, hb.output, hb.size, fun i hi _ => hb.block i hi⟩ (by cases h : v.ownBlock <;> simp)
theorem own_isCells {w : World} {base e s n : Nat} {v : Value} {xs : List Value} (h : w.ownsRow base e s v n xs) : ∀ (j : Nat) (o : Obj), v.ownBlock = some j → w.heap[j]? = some o → o.isCells = true := fun j o hj ho => by
  obtain ⟨_, ⟨hv, _⟩ | ⟨g, cap, cur, hv, _, hh, _⟩⟩ := h
  · rw [hv] at hj; cases hj
  · rw [hv] at hj
    have : g = j := by simpa [Value.ownBlock] using hj
    subst this
    rw [hh] at ho
    cases ho
    rfl
theorem row_putObj {W : World} {D n : Nat} {o o' : Obj} {a : Option Addr} {xs : Nat → Int} (R : Row W a n xs) (hd : W.heap[D]? = some o) (ho : o.isCells = false) : Row (W.putObj D o') a n xs := by
  obtain ⟨b, m, h1, h2⟩ := R
  exact ⟨b, m, h1, fun k hk => cell_kept (h2 k hk) (grownBy_putObj' W D o') fun r e => by cases e; exact ⟨o, hd, ho⟩⟩
theorem own_capc {w : World} {base e s n c : Nat} {a : Option Addr} {xs : List Value} (h : w.ownsRow base e s (.slice a n c) n xs) : c ≤ 9223372036854775807 ∧ (a = none → n = 0) := by
  obtain ⟨_, ⟨hv, rfl⟩ | ⟨g, cap, cur, hv, hg, hh, hn, hm, hs, ht⟩⟩ := h
  · cases hv; exact ⟨by omega, fun _ => rfl⟩
  · cases hv
    unfold maxLen at hm
    exact ⟨by omega, fun e => by cases e⟩
theorem keeps_below {W W' : World} (h : Below W.heap.size W W') : KeepsOthers W W' := ⟨h.size, fun k o hk _ => (h.block k (Array.getElem?_eq_some_iff.1 hk).1).trans hk⟩
set_option maxRecDepth 100000 in
set_option maxHeartbeats 8000000 in
theorem noise8_ok (s te ce ti m : Int) (N : Nat) (w : World) (h1 : 0 ≤ s ∧ s ≤ 1048576) (h2 : 0 ≤ te ∧ te ≤ 65536) (h3 : 0 ≤ ce ∧ ce ≤ 65536) (h4 : 0 ≤ ti ∧ ti ≤ 1048576) (h5 : N ≤ 1152) (h6 : 0 ≤ m ∧ m ≤ 1000) :
    Calls Try.prog 8 #[.int .i64 s, .int .i64 te, .int .i64 ce, .int .i64 ti, .int .i64 N, .int .i64 m] w (NoiseR s te ce ti N m w) := by
  have b0 := btw_t h1
  have b1 := btw_t h2
  have b2 := btw_t h3
  have b3 := btw_t h4
  have b4 : btw (N : Int) 0 1152 = true := btw_t ⟨by omega, by omega⟩
  have b5 := btw_t h6
  have ok : nzOk s te ce ti N m = true := by unfold nzOk; rw [b0, b1, b2, b3, b4, b5]; rfl
  have OK := Lib.hid ok
  clear ok
  have f18 : Fence.wide.fn 18 := trivial
  have f19 : Fence.wide.fn 19 := trivial
  obtain ⟨x0, hx0⟩ : ∃ x0 : Int, (if (s + 7919 * te + 104729 * ce + 15485863 * ti) % 4294967296 < 1 then (1 : Int) else (s + 7919 * te + 104729 * ce + 15485863 * ti) % 4294967296) = x0 := ⟨_, rfl⟩
  have hx : x0 = nz0 s te ce ti := by unfold nz0; rw [← hx0]; split <;> omega
  have bx : 0 ≤ x0 ∧ x0 < 4294967296 := by rw [← hx0]; split <;> omega
  have HX := Lib.hid hx
  clear hx
  have w1 := blk w (.cells #[.int .i64 N] 3)
  have w2 := blk (w.alloc (.cells #[.int .i64 N] 3)) (.cells #[.int .i64 m] 3)
  have w3 := blk ((w.alloc (.cells #[.int .i64 N] 3)).alloc (.cells #[.int .i64 m] 3)) (.cells #[.slice none 0 0] 23)
  have w4 := blk (((w.alloc (.cells #[.int .i64 N] 3)).alloc (.cells #[.int .i64 m] 3)).alloc (.cells #[.slice none 0 0] 23)) (.cells #[.int .u32 x0] 50)
  have HN0 := Lib.hid (show Nz w w.heap.size N m x0 0 ((((w.alloc (.cells #[.int .i64 N] 3)).alloc (.cells #[.int .i64 m] 3)).alloc (.cells #[.slice none 0 0] 23)).alloc (.cells #[.int .u32 x0] 50)) from
    ⟨Nat.zero_le _, bthen' (bthen' (bthen' w1 w2) w3) w4, by simp, by simp [go_sem], by simp [go_sem], by simp [go_sem], .slice none 0 0, by simp [go_sem], World.ownsRow_nil _ _ _ _⟩)
  have HS := Lib.hid (show ((((w.alloc (.cells #[.int .i64 N] 3)).alloc (.cells #[.int .i64 m] 3)).alloc (.cells #[.slice none 0 0] 23)).alloc (.cells #[.int .u32 x0] 50)).cell? ⟨w.heap.size + 1 + 1 + 1, 0, none⟩ = some (.int .u32 x0) by simp [go_sem])
  have HZ := Lib.hid (show ((((w.alloc (.cells #[.int .i64 N] 3)).alloc (.cells #[.int .i64 m] 3)).alloc (.cells #[.slice none 0 0] 23)).alloc (.cells #[.int .u32 x0] 50)).heap.size = w.heap.size + 4 by simp)
  clear w1 w2 w3 w4
  refine (callsIn_wide (n := 3)).1 ?_
  refine callsIn_of_wp_marks Try.func8 rfl trivial ?_ rfl
  simp only [Try.ntmps8, List.size_toArray, List.length_cons, List.length_nil, Nat.reduceAdd, Nat.reduceSub, Array.replicate_succ, Array.replicate_zero, List.push_toArray, List.append_toArray, List.nil_append, List.cons_append]
  gi_wp2_with (first | (gi_at_call 18; refine (callsIn_wide.2 (between18 _ _ _ _)).mono ?_; rintro e w' ⟨rfl, rfl⟩) | (gi_at_call 19; refine (callsIn_wide.2 (numbers19 _ _)).mono ?_; rintro e w' ⟨rfl, rfl⟩))
  generalize ((((w.alloc (.cells #[.int .i64 N] 3)).alloc (.cells #[.int .i64 m] 3)).alloc (.cells #[.slice none 0 0] 23)).alloc (.cells #[.int .u32 x0] 50)) = wz at *
  clear hx0 b0 b1 b2 b3 b4 b5
  refine wpIn_rangeFunc_till1 (gf := 29) (lb := #[.pointer (some ⟨w.heap.size + 1 + 1 + 1, 0, none⟩)]) (x := fun k => .int .u32 (nxs x0 (k + 1))) (N := N) (brk := 0) rfl (enters_of Try.func29 (by kernel_rfl) rfl) rfl rfl rfl (by simp) (Nz w w.heap.size N m x0) ?own HN0.out ?it ?body ?stop
  case own => rw [HZ.out]; exact Nz.own (Nat.le_refl _)
  case it => exact fun W hb => gives29 _ N x0 bx W (up hb HS.out)
  case body =>
    intro l k W hk hJ
    have HJ := Lib.hid hJ
    have HVK := Lib.hid (show nzV x0 m k = nxs x0 (k + 1) % (2 * m + 1) - m from rfl)
    have by0 := nxs_bd bx (k + 1)
    generalize nxs x0 (k + 1) = y at *
    simp only [List.setIfInBounds_toArray, List.set_cons_succ, List.set_cons_zero]
    obtain ⟨v, o1, o2⟩ := hJ.o
    obtain ⟨a', c', rfl, hc', hrow⟩ := own_row o2
    have c0 := hJ.c0
    have c1 := hJ.c1
    have fo := hJ.f
    have HO := Lib.hid o2
    have hlt := hJ.lt
    clear hJ hrow o2
    by_cases hkN : k = N
    · have HK := Lib.hid hkN
      have q : ((k : Int) == (N : Int)) = true := beq_iff_eq.2 (by omega)
      clear hkN
      gi_wp2
      exact ⟨HK.out, rfl, KeepsOthers.refl _, HK.out ▸ HJ.out⟩
    · have q : ((k : Int) == (N : Int)) = false := beq_eq_false_iff_ne.2 (by omega)
      have HKL := Lib.hid (show k < N by omega)
      clear hkN
      obtain ⟨r, hr⟩ : ∃ r, y % (2 * m + 1) = r := ⟨_, rfl⟩
      have br : 0 ≤ r ∧ r < 2 * m + 1 := by rw [← hr]; exact ⟨Int.emod_nonneg _ (by omega), Int.emod_lt_of_pos _ (by omega)⟩
      have m1 : IntKind.i64.wrap (2 * m) = 2 * m := IntWalk.i64_in _ (by omega)
      have m2 : IntKind.i64.wrap (2 * m + 1) = 2 * m + 1 := IntWalk.i64_in _ (by omega)
      have m3 : IntKind.u32.wrap (2 * m + 1) = 2 * m + 1 := IntWalk.u32_in _ (by omega)
      have m4 : (2 * m + 1) % 4294967296 = 2 * m + 1 := by omega
      have m5 : y.tmod (2 * m + 1) = r := by rw [Int.tmod_eq_emod_of_nonneg by0.1]; exact hr
      have m6 : IntKind.i64.wrap r = r := IntWalk.i64_in _ (by omega)
      have m7 : IntKind.i64.wrap (r - m) = r - m := IntWalk.i64_in _ (by omega)
      have m8 : 2 * m + 1 ≠ 0 := by omega
      have m9 : (2 * m + 1 == 0) = false := beq_eq_false_iff_ne.2 m8
      have HVR := Lib.hid (show iv (nzV x0 m) k = .int .i64 (r - m) by unfold iv; rw [HVK.out, hr])
      have lb0 : w.heap.size < W.heap.size := by omega
      have lb1 : w.heap.size + 1 < W.heap.size := by omega
      have lb2 : w.heap.size + 1 + 1 < W.heap.size := by omega
      gi_wp2
      refine wpIn_round_region (by kernel_rfl) (by kernel_rfl) (by rintro ⟨_, _, h⟩; exact h) ?_
      refine wpAny_grown_tail3 (.slice a' k c') 10 (by kernel_rfl) rfl rfl rfl (fun d os => by go_simp) (fun _ _ _ h => h) ?_
      simp only [Nat.reduceSub, List.take_succ_cons, List.take_zero, List.drop_succ_cons, List.drop_zero]
      conv => arg 6; simp [Act.put, Act.eval]
      repeat (go_big_quiet_step (fail))
      refine wpQuiet_nil ?_
      intro w3 hw3
      have hB3 := below_of_regrown hw3
      have HB3 := Lib.hid hB3
      have HO3 := Lib.hid (own_keep' HO.out hB3)
      have o3 := up hB3 o1
      have f3 := upf hB3 lb2 fo
      have hs3 := hB3.size
      have hb3 : w.heap.size + 3 ≤ w3.heap.size := by omega
      refine ⟨.slice (some ⟨w3.heap.size, 0, none⟩) 1 1, w3.alloc (.cells #[.int .i64 (r - m)] 3), by go_simp, regrown_alloc hw3 _, ?_⟩
      clear hw3 hB3 o1 fo c0 c1 m1 m2 m3 m4 m5 m6 m7 m8 m9 hr q
      go_wp2_with (at_builtin; refine wpList_append1 w3 w3 (w.heap.size + 3) rfl (.tmp 62) (.tmp 72) 23 rfl 3 (.int .i64 0) 8 Try.underlying23 intInfo rfl (by decide) _ k (iv (nzV x0 m)) rfl _ rfl HO3.out (Below.refl _ _) hb3 HVR.out.symm rfl (by omega) ?_; intro v' w4 hown hB4 hb4 hs4 hg4; obtain ⟨a4, c4, g4, rfl, -, -, -⟩ := own_cells hown; have o4 := (hB4.cell (p := ⟨w.heap.size + 1 + 1, 0, none⟩) (by show w.heap.size + 1 + 1 < w.heap.size + 3; omega)).trans o3; have f4 := (hB4.frozen (p := ⟨w.heap.size + 1 + 1, 0, none⟩) (by show w.heap.size + 1 + 1 < w.heap.size + 3; omega)).trans f3; have HOW := Lib.hid hown; have HB4 := Lib.hid hB4; have HG4 := Lib.hid hg4; clear hown hB4 hg4)
      refine ⟨HKL.out, ((keeps_below HB3.out).trans (KeepsOthers.of_grownBy HG4.out (own_isCells HO3.out))).trans (KeepsOthers.setCell _ _ _), HKL.out, (((HJ.out.bel.trans (HB3.out.mono (by omega))).trans (HB4.out.mono (by omega))).setCell (p := ⟨w.heap.size + 1 + 1, 0, none⟩) (show w.heap.size ≤ w.heap.size + 1 + 1 by omega) _), by simp; omega, ?_, ?_, by rw [World.frozen?_setCell]; exact f4, _, ?_, own_setb' HOW.out (by omega) _⟩
      · rw [cell_set, if_neg (by simp)]
        exact (HB4.out.cell (p := ⟨w.heap.size, 0, none⟩) (by show w.heap.size < w.heap.size + 3; omega)).trans (up HB3.out HJ.out.c0)
      · rw [cell_set, if_neg (by simp)]
        exact (HB4.out.cell (p := ⟨w.heap.size + 1, 0, none⟩) (by show w.heap.size + 1 < w.heap.size + 3; omega)).trans (up HB3.out HJ.out.c1)
      · rw [cell_set, if_pos rfl, o4]; rfl
  case stop =>
    intro D W hD hJ hd
    obtain ⟨v, o1, o2⟩ := hJ.o
    obtain ⟨a', c', rfl, hc', hrow⟩ := own_row o2
    have HO := Lib.hid o2
    have HB := Lib.hid hJ.bel
    have HR := Lib.hid hrow
    have HD := Lib.hid hd
    clear hJ hrow o2 hd
    gi_wp2
    refine ⟨by simp, .inl ⟨_, _, rfl, run_takeDeferred HD.out, ?_⟩⟩
    obtain ⟨k1, k2⟩ := own_capc HO.out
    refine ⟨_, results_tmp2 rfl _ _ _, a', N, c', by rw [OK.out]; rfl, by rw [OK.out, if_pos rfl]; rfl, hc', k1, k2, by rw [← HX.out]; exact row_putObj HR.out HD.out rfl, ?_⟩
    exact HB.out.grown (grownBy_putObj' W D _) HB.out.size (fun r e => by cases e; have := HZ.out; omega)
end Go.Proofs.Ytfkbcjpiijcbfaa
