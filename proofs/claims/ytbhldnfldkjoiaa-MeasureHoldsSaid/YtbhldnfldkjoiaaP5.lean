/- Layer 37: plain facts behind MeasureHolds. -/
import Derived.Test.YtbhldnfldkjoiaaM12
import Derived.Test.YtbhldnfldkjoiaaM10
namespace Go.Proofs.Ytbhldnfldkjoiaa
set_option linter.unusedVariables false
set_option linter.unusedSimpArgs false
open Go.RowKit Go.Sort

theorem anyB_none {p : Nat → Bool} {n : Nat} (h : ∀ k, k < n → p k = false) : anyB p n = false := anyB_false.2 h
theorem chk_good {mg bk hd : Int} {fs hs : Nat → Int} (h1 : 0 ≤ mg ∧ mg ≤ 5) (h2 : 0 ≤ bk ∧ bk ≤ 3) (h3 : 1 ≤ hd ∧ hd ≤ 5) (hf : ∀ k, k < 3 → 0 ≤ fs k ∧ fs k ≤ 240) (hh : ∀ k, k < 3 → 0 ≤ hs k ∧ hs k ≤ 1000) : chk mg bk hd 3 3 fs hs = 0 := by
  unfold chk
  rw [rok_true ⟨by omega, by omega, by omega, by omega, by omega, by omega⟩, if_pos rfl, if_pos ⟨rfl, by omega, by omega⟩,
    anyB_none fun k hk => by have := hf k hk; unfold out; simp; omega, anyB_none fun k hk => by have := hh k hk; unfold out; simp; omega]
  rfl
theorem step_good {mg bk hd : Int} {fs hs qs : Nat → Int} (hc : chk mg bk hd 3 3 fs hs = 0) (hq : ∀ k, k < 3 → 0 ≤ qs k ∧ qs k ≤ 15) : stepE mg bk hd 3 3 fs hs 1 3 qs = 0 := by
  unfold stepE
  rw [hc, if_pos rfl, if_neg (by omega), if_pos rfl, anyB_none fun k hk => by have := hq k hk; unfold out; simp; omega]
  rfl
theorem f1_bd {fs qs : Nat → Int} {k : Nat} (hf : 0 ≤ fs k ∧ fs k ≤ 240) (hq : 0 ≤ qs k ∧ qs k ≤ 15) : 0 ≤ f1 fs qs k ∧ f1 fs qs k ≤ 240 := by unfold f1; omega
/-- What the statement counts. -/
def cnt (f : Nat → Int) (mg bk : Int) (hs : Nat → Int) (i : Nat) : Int :=
  if i = 1 ∨ f i ≤ f 1 + 16 * (mg - bk) then 0 else if f 1 + 16 * mg < f i then hs i + 1 else hs i
theorem cnt_held {f : Nat → Int} {mg bk : Int} {hs : Nat → Int} {i : Nat} (h : hs i < 1000) : held f 1 mg bk hs i = cnt f mg bk hs i := by
  unfold held cnt
  by_cases c : i = 1 ∨ f i - f 1 ≤ 16 * (mg - bk)
  · rw [if_pos c, if_pos (by omega)]
  · rw [if_neg c, if_neg (show ¬ (i = 1 ∨ f i ≤ f 1 + 16 * (mg - bk)) by omega)]
    by_cases c2 : 16 * mg < f i - f 1
    · rw [if_pos c2, if_pos (by omega)]; omega
    · rw [if_neg c2, if_neg (by omega)]
theorem best_spec (own hd : Int) (fs hs : Nat → Int) : ∀ k : Nat, (0 ≤ bestTo own hd fs hs k → ∃ j : Nat, j < k ∧ bestTo own hd fs hs k = j ∧ (j : Int) ≠ own ∧ hd ≤ hs j) ∧ (bestTo own hd fs hs k < 0 → ∀ j : Nat, j < k → (j : Int) ≠ own → hs j < hd)
  | 0 => ⟨fun h => absurd h (by show ¬ (0 : Int) ≤ -1; omega), fun _ j hj => absurd hj (Nat.not_lt_zero _)⟩
  | k + 1 => by
    obtain ⟨i1, i2⟩ := best_spec own hd fs hs k
    by_cases c : (k : Int) ≠ own ∧ hd ≤ hs k ∧ (bestTo own hd fs hs k < 0 ∨ fs (bestTo own hd fs hs k).toNat < fs k)
    · rw [bestTo_yes c]
      exact ⟨fun _ => ⟨k, by omega, rfl, c.1, c.2.1⟩, fun h => by omega⟩
    · rw [bestTo_no c]
      refine ⟨fun h => ?_, fun h j hj hne => ?_⟩
      · obtain ⟨j, h1, h2⟩ := i1 h
        exact ⟨j, by omega, h2⟩
      · by_cases e : j = k
        · subst e
          exact Int.not_le.1 fun hle => c ⟨hne, hle, .inl h⟩
        · exact i2 h j (by omega) hne
theorem rep_three {mg bk hd : Int} {fs hs : Nat → Int} (hc : chk mg bk hd 3 3 fs hs = 0) :
    (repV mg bk hd 1 3 3 fs hs = (0, false) ∧ hs 0 < hd ∧ hs 2 < hd) ∨ (repV mg bk hd 1 3 3 fs hs = (0, true) ∧ hd ≤ hs 0) ∨ (repV mg bk hd 1 3 3 fs hs = (2, true) ∧ hd ≤ hs 2) := by
  have hr : rep (chk mg bk hd 3 3 fs hs) 1 3 = true := by rw [hc]; rfl
  obtain ⟨i1, i2⟩ := best_spec 1 hd fs hs 3
  unfold repV
  rw [if_pos hr]
  by_cases c : 0 ≤ bestTo 1 hd fs hs 3
  · obtain ⟨j, h1, h2, h3, h4⟩ := i1 c
    rw [h2]
    have h5 : j = 0 ∨ j = 2 := by omega
    rcases h5 with rfl | rfl
    · exact .inr (.inl ⟨rfl, h4⟩)
    · exact .inr (.inr ⟨rfl, h4⟩)
  · refine .inl ⟨?_, i2 (by omega) 0 (by omega) (by omega), i2 (by omega) 2 (by omega) (by omega)⟩
    rw [Int.max_eq_right (by omega)]
    simp [c]
theorem Sx.only0 {w w' : World} {z p : Nat} {fs hs : Nat → Int} (S : Sx w z none none 0 0 0 0 fs hs) (h : OnlyP w w' p) (hne : z ≠ p) : Sx w' z none none 0 0 0 0 fs hs :=
  ⟨⟨only_cell h hne S.b.c0, only_cell h hne S.b.c1, none, none, 0, 0, rfl, fun _ => rfl, fun _ => rfl, Row.zero _ _ _, Row.zero _ _ _⟩, only_frozen h hne S.lt S.f0, only_frozen h hne S.lt S.f1,
   fun o ho => (World.cell?_of_block (h.block z S.lt (by simp; omega))).trans (S.far o ho)⟩
theorem Sx.new0 (w : World) (p : Nat) (hp : p = w.heap.size) : Sx (w.alloc (.cells #[.slice none 0 0, .slice none 0 0] 26)) p none none 0 0 0 0 zz zz :=
  Sx.new (n := 0) (m := 0) (fs := zz) (hs := zz) ⟨none, none, 0, 0, rfl, fun _ => rfl, fun _ => rfl, Row.zero _ _ _, Row.zero _ _ _⟩ hp
theorem row3 {w : World} {g : Nat} {x y z : Int} (h0 : w.cell? ⟨g, 0, none⟩ = some (.int .i64 x)) (h1 : w.cell? ⟨g, 1, none⟩ = some (.int .i64 y)) (h2 : w.cell? ⟨g, 2, none⟩ = some (.int .i64 z)) : Row w (some ⟨g, 0, none⟩) 3 (fun k => if k = 0 then x else if k = 1 then y else z) :=
  ⟨g, 0, fun _ => rfl, fun k hk => by
    match k, hk with
    | 0, _ => simpa using h0
    | 1, _ => simpa using h1
    | 2, _ => simpa using h2⟩
theorem Sx.noInt {w : World} {z : Nat} {a d : Option Addr} {n c m l : Nat} {fs hs : Nat → Int} (X : Sx w z a d n c m l fs hs) (b o : Nat) (x : Int) (h : w.cell? ⟨b, o, none⟩ = some (.int .i64 x)) : b ≠ z := fun e => by
  subst e
  match o with
  | 0 => rw [X.b.c0] at h; cases h
  | 1 => rw [X.b.c1] at h; cases h
  | o + 2 => rw [X.far (o + 2) (by omega)] at h; cases h
theorem RM.put2 {w wr : World} {p g : Nat} {aa : Option Addr} {cap n0 : Nat} {xs : Nat → Int} {k zR zS zQ : Nat} {mg bk hd : Int} {a d : Option Addr} {n c l : Nat} {fs hs qs : Nat → Int} {z : Nat} {a0 d0 : Option Addr} {n1 c1 m1 l1 : Nat} {f0 h0 : Nat → Int}
    (S : RM w wr p g aa cap n0 xs k zR zS zQ mg bk hd a d n c l fs hs qs) (X : Sx wr z a0 d0 n1 c1 m1 l1 f0 h0) (lt : p < z ∧ g < z ∧ zR < z ∧ zS < z ∧ zQ < z) (u v : Value) : RM w ((wr.setCell ⟨z, 0, none⟩ u).setCell ⟨z, 1, none⟩ v) p g aa cap n0 xs k zR zS zQ mg bk hd a d n c l fs hs qs := by
  obtain ⟨l1, l2, l3, l4, l5⟩ := lt
  have hlo := S.lo.1
  refine ⟨(S.D.setFar (by omega) (by omega) _ _).setFar (by omega) (by omega) _ _, S.R.far (by omega) _ _, ⟨⟨set2_other l4 S.S.b.c0, set2_other l4 S.S.b.c1, S.S.b.s.set2 X.noInt _ _⟩, ?_, ?_, fun o ho => ?_⟩, S.O,
    ⟨fun j hj => set2_other l5 (S.Q.c j hj), fun j => ?_, by simpa using S.Q.lt⟩, (S.bel.setCell (by show _ ≤ z; omega) _).setCell (by show _ ≤ z; omega) _, S.lo, S.ne⟩
  · rw [World.frozen?_setCell, World.frozen?_setCell]; exact S.S.f0
  · rw [World.frozen?_setCell, World.frozen?_setCell]; exact S.S.f1
  · have h1 : z ≠ zS := by omega
    rw [cell_set, if_neg (by simp [h1]), cell_set, if_neg (by simp [h1])]; exact S.S.far o ho
  · rw [World.frozen?_setCell, World.frozen?_setCell]; exact S.Q.f j
/-- Where everything lies, all of it is older than a new block. -/
theorem RM.lts {w wr : World} {p g : Nat} {aa : Option Addr} {cap n0 : Nat} {xs : Nat → Int} {k zR zS zQ : Nat} {mg bk hd : Int} {a d : Option Addr} {n c l : Nat} {fs hs qs : Nat → Int}
    (S : RM w wr p g aa cap n0 xs k zR zS zQ mg bk hd a d n c l fs hs qs) : p < wr.heap.size ∧ g < wr.heap.size ∧ zR < wr.heap.size ∧ zS < wr.heap.size ∧ zQ < wr.heap.size :=
  ⟨lt_of_cell S.D.c0, S.D.gl, lt_of_cell S.R.r0, S.S.lt, S.Q.lt⟩
theorem RM.lts2 {w wr : World} {p g : Nat} {aa : Option Addr} {cap n0 : Nat} {xs : Nat → Int} {k zR zS zQ : Nat} {mg bk hd : Int} {a d : Option Addr} {n c l : Nat} {fs hs qs : Nat → Int} {o : Obj}
    (S : RM w wr p g aa cap n0 xs k zR zS zQ mg bk hd a d n c l fs hs qs) : p < (wr.alloc o).heap.size ∧ g < (wr.alloc o).heap.size ∧ zR < (wr.alloc o).heap.size ∧ zS < (wr.alloc o).heap.size ∧ zQ < (wr.alloc o).heap.size :=
  (S.mono (below_alloc _ _)).lts
theorem RM.congrQ {w wr : World} {p g : Nat} {aa : Option Addr} {cap n0 : Nat} {xs : Nat → Int} {k zR zS zQ : Nat} {mg bk hd : Int} {a d : Option Addr} {n c l : Nat} {fs hs qs qs' : Nat → Int}
    (S : RM w wr p g aa cap n0 xs k zR zS zQ mg bk hd a d n c l fs hs qs) (h : ∀ j, j < n → qs' j = qs j) : RM w wr p g aa cap n0 xs k zR zS zQ mg bk hd a d n c l fs hs qs' :=
  ⟨S.D, S.R, S.S, S.O, ⟨fun j hj => by rw [h j hj]; exact S.Q.c j hj, S.Q.f, S.Q.lt⟩, S.bel, S.lo, S.ne⟩
theorem held_bd {f hs : Nat → Int} {mg bk : Int} {i : Nat} {T : Int} (h : 0 ≤ hs i ∧ hs i ≤ T) (hT : T ≤ 900) : 0 ≤ held f 1 mg bk hs i ∧ held f 1 mg bk hs i ≤ T + 1 := by
  unfold held
  split
  · omega
  · split <;> omega
theorem putN_upto {i : Nat} {new old : Nat → Int} {V : Int} (h : V = new i) (j : Nat) : upto (i + 1) new old j = putN (upto i new old) i V j := by
  rw [upto_succ, h]; rfl
theorem keep_upto {i : Nat} {new old : Nat → Int} (h : old i = new i) (j : Nat) : upto (i + 1) new old j = upto i new old j := by
  rw [upto_succ]
  split
  · rename_i e; subst e; rw [upto_at, h]
  · rfl
end Go.Proofs.Ytbhldnfldkjoiaa
