/- Layer 45: the fades of a terminal by dice. -/
import Derived.Test.YtgflfdnajchjaaaGreatDoorM1
import Derived.Test.YtgflfdnajchjaaaGreatDoorJQ
namespace Go.Proofs.YtgflfdnajchjaaaGreatDoor
set_option linter.unusedVariables false
set_option linter.unusedSimpArgs false
open Go.RowKit Go.Sort
open Tm
attribute [local go_sem] gcell
/-- A fade as dice make it. -/
def FdB (id cells : Int) (x : Ch.Fd) : Prop := x.t = id ∧ 0 ≤ x.c ∧ x.c < cells ∧ 0 ≤ x.f ∧ x.f ≤ 400 ∧ 0 ≤ x.g ∧ x.g ≤ 40 ∧ 0 ≤ x.n ∧ x.n ≤ 60
/-- A row of n fades of one's own. -/
def FdsAt (w : World) (B : Nat) (id cells : Int) (v : Value) (n : Nat) : Prop := ∃ X : Nat → Ch.Fd, w.ownsRow B 86 5 v n ((List.range (n * 5)).map (fdv X)) ∧ ∀ k, k < n → FdB id cells (X k)
theorem FdsAt.nil (w : World) (B : Nat) (id cells : Int) : FdsAt w B id cells (.slice none 0 0) 0 := ⟨fun _ => ⟨0, 0, 0, 0, 0⟩, own_nilK w B 86 5 _, fun k hk => absurd hk (Nat.not_lt_zero k)⟩
theorem fdv_put (X : Nat → Ch.Fd) (n : Nat) (x : Ch.Fd) (j : Nat) (hj : j < n * 5) : fdv (fun k => if k = n then x else X k) j = fdv X j := by
  unfold fdv
  have : j / 5 ≠ n := by omega
  simp only [if_neg this]
theorem fdv_new (X : Nat → Ch.Fd) (n : Nat) (x : Ch.Fd) (j : Nat) (hj : j < 5) : (#[Value.int .i64 x.t, .int .i64 x.c, .int .i64 x.f, .int .i64 x.g, .int .i64 x.n])[j]? = some (fdv (fun k => if k = n then x else X k) (n * 5 + j)) := by
  unfold fdv
  have e1 : (n * 5 + j) / 5 = n := by omega
  have e2 : (n * 5 + j) % 5 = j := by omega
  simp only [e1, e2, if_pos]
  match j, hj with
  | 0, _ => rfl
  | 1, _ => rfl
  | 2, _ => rfl
  | 3, _ => rfl
  | 4, _ => rfl
/-- One fade is appended. -/
theorem wpList_append_fd {ops : Array Oper} {rest : List Oper} {o : Oper} {a : Act} {Q : Exit → Act → World → Prop} (w : World) (B : Nat) (id cells : Int) (hgd : o.guard = none) (sl x : Operand)
    (ho : o.op = .call { callee := .builtin .append, args := #[sl, x], argTypes := #[34, 34] }) (v : Value) (n : Nat) (hs : a.eval sl = v) (y : Ch.Fd) (hy : FdB id cells y) (b : Nat) (hx : a.eval x = .slice (some ⟨b, 0, none⟩) 1 1)
    (hcs : w.heap[b]? = some (.cells #[.int .i64 y.t, .int .i64 y.c, .int .i64 y.f, .int .i64 y.g, .int .i64 y.n] 86 (0, 0))) (F : FdsAt w B id cells v n) (hB : B ≤ w.heap.size) (hn : n + 1 ≤ 1000000)
    (h : ∀ v' w', FdsAt w' B id cells v' (n + 1) → w.grownBy w' v.ownBlock → (v'.ownBlock = v.ownBlock ∨ v'.ownBlock = some w.heap.size) → wpList Tryz.prog ops Q rest (a.put o.dst v') w') :
    wpList Tryz.prog ops Q (o :: rest) a w := by
  obtain ⟨X, hX, hb⟩ := F
  refine wpList_append_at w B hgd sl x 34 ho 86 _ 5 40 Tryz.underlying34 pz86 rfl (by decide) (by decide) v n (fdv X) hs b _ (0, 0) hx hcs rfl ?_ (fdv fun k => if k = n then y else X k) (fun j hj => fdv_put X n y j hj) (fun j hj => fdv_new X n y j hj) hX hB hn ?_
  · intro u hu
    simp at hu
    rcases hu with rfl | rfl | rfl | rfl | rfl <;> rfl
  · intro v' w' h1 h2 h3
    refine h v' w' ⟨_, h1, fun k hk => ?_⟩ h2 h3
    by_cases e : k = n
    · simp only [e, if_pos]; exact hy
    · simp only [e, if_neg]; exact hb k (by omega)
/-- The last fade's noise is written. -/
theorem FdsAt.setN {w : World} {B g n c : Nat} {id cells x : Int} (F : FdsAt w B id cells (.slice (some ⟨g, 0, none⟩) (n + 1) c) (n + 1)) (h0 : 0 ≤ x) (h1 : x ≤ 60) :
    FdsAt (w.setCell ⟨g, n * 5 + 4, none⟩ (.int .i64 x)) B id cells (.slice (some ⟨g, 0, none⟩) (n + 1) c) (n + 1) := by
  obtain ⟨X, hX, hb⟩ := F
  have h2 := (hX.stored (n * 5 + 4) (.int .i64 x)).1
  rw [set_map_range] at h2
  have e : ((List.range ((n + 1) * 5)).map fun j => if j = n * 5 + 4 then Value.int .i64 x else fdv X j) = (List.range ((n + 1) * 5)).map (fdv fun k => if k = n then { X n with n := x } else X k) := map_range_congr fun j hj => by
    unfold fdv
    by_cases hjn : j / 5 = n
    · simp only [hjn, if_pos]
      by_cases q : j % 5 = 4
      · rw [if_pos (show j = n * 5 + 4 by omega), q]; rfl
      · rw [if_neg (show ¬ j = n * 5 + 4 by omega)]
        have : j % 5 = 0 ∨ j % 5 = 1 ∨ j % 5 = 2 ∨ j % 5 = 3 := by omega
        rcases this with q | q | q | q <;> rw [q] <;> rfl
    · rw [if_neg (show ¬ j = n * 5 + 4 by omega)]
      simp only [if_neg hjn]
  rw [e] at h2
  refine ⟨_, h2, fun k hk => ?_⟩
  by_cases e : k = n
  · have := hb n (by omega)
    simp only [e, if_pos]
    exact ⟨this.1, this.2.1, this.2.2.1, this.2.2.2.1, this.2.2.2.2.1, this.2.2.2.2.2.1, this.2.2.2.2.2.2.1, h0, h1⟩
  · simp only [e, if_neg]
    exact hb k hk
theorem FdsAt.keep {w w' : World} {B n p : Nat} {id cells : Int} {v : Value} (F : FdsAt w B id cells v n) (h : OnlyP w w' p) (hp : p < B) : FdsAt w' B id cells v n := by
  obtain ⟨X, hX, hb⟩ := F
  exact ⟨X, own_kept hX fun g hg => only_block h (by have := (hX.lt g hg).1; omega) (hX.lt g hg).2, hb⟩
theorem FdsAt.alloc {w : World} {B n : Nat} {id cells : Int} {v : Value} (F : FdsAt w B id cells v n) (o : Obj) : FdsAt (w.alloc o) B id cells v n := by
  obtain ⟨X, hX, hb⟩ := F
  exact ⟨X, hX.alloc o, hb⟩
end Go.Proofs.YtgflfdnajchjaaaGreatDoor
