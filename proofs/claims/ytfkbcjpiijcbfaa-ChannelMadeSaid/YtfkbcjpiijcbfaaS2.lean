/- Layer 31: soft.each. -/
import Derived.Test.YtfkbcjpiijcbfaaS1
namespace Go.Proofs.Ytfkbcjpiijcbfaa
set_option linter.unusedVariables false
set_option linter.unusedSimpArgs false
open Go.RowKit Go.Sort
attribute [local go_sem] gcell

/-- A new row, filled up to k, that lies in the block g. -/
structure Fill (W w : World) (g n k : Nat) (xs ys : Nat → Int) : Prop where
  bel : Below W.heap.size W w
  gn : W.heap.size ≤ g
  gl : g < w.heap.size
  x : ∀ j, j < n → w.cell? ⟨g, j, none⟩ = some (.int .i64 (if j < k then ys j else xs j))
  f : ∀ j, w.frozen? ⟨g, j, none⟩ = false
theorem Fill.mono {W w w' : World} {g n k : Nat} {xs ys : Nat → Int} (F : Fill W w g n k xs ys) (hb : Below w.heap.size w w') : Fill W w' g n k xs ys :=
  ⟨bthen F.bel hb F.bel.size, F.gn, Nat.lt_of_lt_of_le F.gl hb.size, fun j hj => up hb (F.x j hj), fun j => upf hb F.gl (F.f j)⟩
theorem Fill.set {W w : World} {g n k : Nat} {xs ys : Nat → Int} (F : Fill W w g n k xs ys) (hk : k < n) : Fill W (w.setCell ⟨g, k, none⟩ (.int .i64 (ys k))) g n (k + 1) xs ys := by
  refine ⟨F.bel.setCell F.gn _, F.gn, by simpa using F.gl, fun j hj => ?_, fun j => by rw [World.frozen?_setCell]; exact F.f j⟩
  by_cases h : k = j
  · subst h
    rw [cell_set, if_pos rfl, F.x k hk]; simp
  · rw [cell_set, if_neg (by simp [h]), F.x j hj]
    by_cases h2 : j < k
    · rw [if_pos h2, if_pos (by omega)]
    · rw [if_neg h2, if_neg (by omega)]
theorem Fill.keep {W w : World} {g n k : Nat} {xs ys : Nat → Int} (F : Fill W w g n k xs ys) (h : ys k = xs k) : Fill W w g n (k + 1) xs ys := by
  refine ⟨F.bel, F.gn, F.gl, fun j hj => ?_, F.f⟩
  rw [F.x j hj]
  by_cases h1 : j < k
  · rw [if_pos h1, if_pos (by omega)]
  · by_cases h2 : j = k
    · subst h2; rw [if_neg h1, if_pos (by omega), h]
    · rw [if_neg h1, if_neg (by omega)]
theorem Fill.row {W w : World} {g n : Nat} {xs ys : Nat → Int} (F : Fill W w g n n xs ys) : Row w (some ⟨g, 0, none⟩) n ys :=
  ⟨g, 0, fun _ => rfl, fun k hk => by rw [Nat.zero_add, F.x k hk, if_pos hk]⟩
theorem Fill.made {W w : World} {n : Nat} {ys : Nat → Int} (h : w.ownsRow W.heap.size 3 1 (.slice (some ⟨W.heap.size, 0, none⟩) n n) n (madeCells #[.int .i64 0] n).toList) (hg : W.grownBy w none) (hl : W.heap.size < w.heap.size) : Fill W w W.heap.size n 0 (fun _ => 0) ys := by
  refine ⟨⟨hg.os, hg.tape, hg.output, hg.size, fun i hi => hg.block i hi (by simp)⟩, Nat.le_refl _, hl, fun j hj => ?_, fun j => h.frozenAt j⟩
  rw [h.cellAt j (by omega), if_neg (by omega)]
  rw [toList_madeCells_one]
  simp [List.getElem?_replicate, hj]


set_option maxHeartbeats 2000000 in
theorem each35 (n g p q : Nat) (ys : Nat → Int) (w : World) (hn : n ≤ 1300)
    (H : ∀ k, k < n → ∀ w', Below w.heap.size w w' → Calls Try.prog 35 #[.int .i64 k, .pointer (some ⟨g, 0, none⟩), .pointer (some ⟨p, 0, none⟩), .pointer (some ⟨q, 0, none⟩)] w' fun e w'' => e = .returned (.int .i64 (ys k)) ∧ Below w'.heap.size w' w'') :
    Calls Try.prog 34 #[.int .i64 n, .func (.func 35) #[] #[.pointer (some ⟨g, 0, none⟩), .pointer (some ⟨p, 0, none⟩), .pointer (some ⟨q, 0, none⟩)]] w fun e w' => ∃ g, e = .returned (.slice (some ⟨g, 0, none⟩) n n) ∧ Row w' (some ⟨g, 0, none⟩) n ys ∧ Below w.heap.size w w' := by
  have HH := Lib.hid H
  clear H
  obtain ⟨i0, hi, hz0, hz1, hz2⟩ := info_split intInfo
  go_enter Try.func34, Try.ntmps34
  go_wp2_with (refine wpList_make_full _ rfl (.tmp 7) (.tmp 7) 23 rfl w.heap.size 3 i0 (.int .i64 0) 1 Try.underlying23 hi hz0 hz1 .i64 .i64 (n : Int) (n : Int) n rfl rfl rfl rfl ?c1 ?c2 (Nat.le_refl _) ?_)
  case c1 => rw [hz2]; omega
  case c2 => unfold maxLen; omega
  intro w1 hown hgrow
  have hl : w.heap.size < w1.heap.size := (hown.lt _ rfl).2
  have HF := Lib.hid (Fill.made (ys := ys) hown hgrow hl)
  clear hown hgrow hz1 hz2 hz0 hi
  generalize w.heap.size = g at HF ⊢
  go_wp2
  go_loopw [11] (fun i wr => ∃ k : Nat, k ≤ n ∧ i = .int .i64 k ∧ Fill w wr g n k (fun _ => 0) ys) (fun i _ => n - (intOf i).toNat)
  case atStart => exact ⟨0, Nat.zero_le _, rfl, HF.out⟩
  case round =>
    clear HF
    obtain ⟨k, hk, rfl, F⟩ := hrel
    have HF := Lib.hid F
    clear F
    by_cases hlt : k < n
    · go_wp2_with (go_at_call 35; refine (HH.out k hlt _ HF.out.bel).mono ?_)
      rintro e w2 ⟨rfl, hb⟩
      have F2 := HF.out.mono hb
      have hc := F2.x k hlt
      have hf := F2.f k
      have HF2 := Lib.hid F2
      clear HF F2 hb
      go_wp2
      go_roundw
      case rel => exact ⟨k + 1, by omega, by go_num, HF2.out.set hlt⟩
      case measure => simp [intOf]; omega
    · have : k = n := by omega
      subst this
      go_wp2
      go_ret
      exact ⟨g, rfl, HF.out.row, HF.out.bel⟩
end Go.Proofs.Ytfkbcjpiijcbfaa
