/- Layer 45: bearers, buckets, terminals and fades are put to rows. -/
import Derived.Test.YtgflfdnajchjaaaGreatDoorM4b
namespace Go.Proofs.YtgflfdnajchjaaaGreatDoor
set_option linter.unusedVariables false
set_option linter.unusedSimpArgs false
open Go.RowKit Go.Sort
open Tm
def addR {α : Type} (be : Nat → α) (n : Nat) (r : α) : Nat → α := fun k => if k = n then r else be k
theorem addR_at {α : Type} (be : Nat → α) (n : Nat) (r : α) : addR be n r n = r := if_pos rfl
theorem addR_ne {α : Type} {be : Nat → α} {n k : Nat} {r : α} (h : k ≠ n) : addR be n r k = be k := if_neg h
theorem be_keep (be : Nat → BeR) (n : Nat) (r : BeR) (j : Nat) (hj : j < n * 11) : bev' (addR be n r) j = bev' be j := by
  unfold bev'
  rw [addR_ne (show j / 11 ≠ n by omega)]
theorem be_new (be : Nat → BeR) (n : Nat) (r : BeR) (j : Nat) (hj : j < 11) : (be11c r).toArray[j]? = some (bev' (addR be n r) (n * 11 + j)) := by
  rw [bev_at _ _ _ hj, addR_at]
  match j, hj with
  | 0, _ => rfl
  | 1, _ => rfl
  | 2, _ => rfl
  | 3, _ => rfl
  | 4, _ => rfl
  | 5, _ => rfl
  | 6, _ => rfl
  | 7, _ => rfl
  | 8, _ => rfl
  | 9, _ => rfl
  | 10, _ => rfl
def bu4 (x y m t : Int) : List Value := [.int .i64 x, .int .i64 y, .int .i64 m, .int .i64 t]
theorem bu_keep (P R M T : Nat → Int) (n : Nat) (x y m t : Int) (j : Nat) (hj : j < n * 4) : buv (addR P n x) (addR R n y) (addR M n m) (addR T n t) j = buv P R M T j := by
  unfold buv
  have h : j / 4 ≠ n := by omega
  rw [addR_ne h, addR_ne h, addR_ne h, addR_ne h]
theorem bu_new (P R M T : Nat → Int) (n : Nat) (x y m t : Int) (j : Nat) (hj : j < 4) : (bu4 x y m t).toArray[j]? = some (buv (addR P n x) (addR R n y) (addR M n m) (addR T n t) (n * 4 + j)) := by
  rw [buv_at _ _ _ _ _ _ hj, addR_at, addR_at, addR_at, addR_at]
  match j, hj with
  | 0, _ => rfl
  | 1, _ => rfl
  | 2, _ => rfl
  | 3, _ => rfl
theorem te_keep (T : Nat → Te) (n : Nat) (t : Te) (j : Nat) (hj : j < n * 14) : tev' (addR T n t) j = tev' T j := by
  unfold tev'
  rw [addR_ne (show j / 14 ≠ n by omega)]
theorem te_new (T : Nat → Te) (n : Nat) (t : Te) (j : Nat) (hj : j < 14) : (tcs t).toArray[j]? = some (tev' (addR T n t) (n * 14 + j)) := by
  rw [tev_at _ _ _ hj, addR_at, List.getElem?_toArray]
  exact tc_at t j hj
theorem TeB0.withB {m : Int} {t : Te} (h : TeB0 m t) {a1 : Option Addr} {n c1 : Nat} {be : Nat → BeR} : TeB0 m { t with ba := a1, bn := n, bc := c1, be := be } := ⟨h.cl, h.cs, h.bt, h.fr, h.wd, h.bk, h.ry, h.z⟩
theorem TeB0.withK {m : Int} {t : Te} (h : TeB0 m t) {a1 : Option Addr} {n c1 : Nat} {P R M T : Nat → Int} : TeB0 m { t with ka := a1, kn := n, kc := c1, P := P, R := R, M := M, T := T } := ⟨h.cl, h.cs, h.bt, h.fr, h.wd, h.bk, h.ry, h.z⟩
structure BeB3 (t : Te) (nb nk : Nat) : Prop where
  b : ∀ j, j < nb → ∃ mo, (mo = 1 ∨ mo = 2) ∧ SideB mo (t.be j)
  k : ∀ j, j < nk → (0 ≤ t.P j ∧ t.P j ≤ 2) ∧ (0 ≤ t.R j ∧ t.R j ≤ 39) ∧ t.M j = 80 ∧ t.T j = 0
theorem BeB.withB {t : Te} {n : Nat} (h : BeB t n) {a1 : Option Addr} {c1 : Nat} {mo : Int} {r : BeR} (hm : mo = 1 ∨ mo = 2) (hr : SideB mo r) : BeB3 { t with ba := a1, bn := n + 1, bc := c1, be := addR t.be n r } (n + 1) n := by
  refine ⟨fun j hj => ?_, h.k⟩
  by_cases e : j = n
  · subst e
    exact ⟨mo, hm, by show SideB mo (addR t.be j r j); rw [addR_at]; exact hr⟩
  · obtain ⟨m2, h1, h2⟩ := h.b j (by omega)
    exact ⟨m2, h1, by show SideB m2 (addR t.be n r j); rw [addR_ne e]; exact h2⟩
theorem BeB3.withK {t : Te} {n : Nat} (h : BeB3 t (n + 1) n) {a1 : Option Addr} {c1 : Nat} {x y : Int} (hx : 0 ≤ x ∧ x ≤ 2) (hy : 0 ≤ y ∧ y ≤ 39) : BeB { t with ka := a1, kn := n + 1, kc := c1, P := addR t.P n x, R := addR t.R n y, M := addR t.M n 80, T := addR t.T n 0 } (n + 1) := by
  refine ⟨h.b, fun j hj => ?_⟩
  show (0 ≤ addR t.P n x j ∧ addR t.P n x j ≤ 2) ∧ (0 ≤ addR t.R n y j ∧ addR t.R n y j ≤ 39) ∧ addR t.M n 80 j = 80 ∧ addR t.T n 0 j = 0
  by_cases e : j = n
  · subst e
    rw [addR_at, addR_at, addR_at, addR_at]
    exact ⟨hx, hy, rfl, rfl⟩
  · rw [addR_ne e, addR_ne e, addR_ne e, addR_ne e]
    exact h.k j (by omega)
theorem FdsAt.base {w : World} {B C n : Nat} {id m : Int} {v : Value} (F : FdsAt w B id m v n) (h : C ≤ B) : FdsAt w C id m v n := by
  obtain ⟨X, hX, hb⟩ := F
  exact ⟨X, own_base hX h, hb⟩
theorem CfRw.base {w : World} {B C : Nat} {c : Cf} {X : Nat → Ch.Fd} {T : Nat → Te} (K : CfRw w B c X T) (h : C ≤ B) : CfRw w C c X T := ⟨own_base K.f h, own_base K.t h, fun k hk => own_base (K.b k hk) h, fun k hk => own_base (K.u k hk) h⟩
theorem CfRw.sets {w : World} {B q : Nat} {c : Cf} {X : Nat → Ch.Fd} {T : Nat → Te} (K : CfRw w B c X T) (h : q < B) (o : Nat) (vs : List Value) : CfRw (w.setCells q o vs) B c X T := by
  have go : ∀ {e s n : Nat} {v : Value} {xs : List Value}, w.ownsRow B e s v n xs → (w.setCells q o vs).ownsRow B e s v n xs := fun hh => own_kept hh fun g hg => bx_cells_other (by have := (hh.lt g hg).1; omega) vs o
  exact ⟨go K.f, go K.t, fun k hk => go (K.b k hk), fun k hk => go (K.u k hk)⟩
theorem CfRw.row {w : World} {B q : Nat} {c : Cf} {X : Nat → Ch.Fd} {T : Nat → Te} (K : CfRw w B c X T) (h : q < c.tn) : ∃ g, c.ta = some ⟨g, 0, none⟩ ∧ B ≤ g ∧ w.cell? ⟨g, q * 14, none⟩ = some (.int .i64 (T q).cl) := by
  obtain ⟨a, cc, b, e, hc, hp, hcell⟩ := own_cellsK K.t
  injection e with e1 e2 e3
  obtain ⟨hb, h1, -, -⟩ := hp (by omega)
  refine ⟨b, e1.trans hb, h1, ?_⟩
  have := hcell (q * 14 + 0) (by omega)
  rw [tev_at T q 0 (by omega)] at this
  exact this
theorem CfB.addT {c : Cf} {X : Nat → Ch.Fd} {T : Nat → Te} {q : Nat} (K : CfB c X T q) {a1 : Option Addr} {c1 : Nat} {t : Te} (ht : TeB (c.h 1) t) : CfB { c with ta := a1, tn := c.tn + 1, tc := c1 } X (addR T c.tn t) (q + 1) := by
  have hq := K.tn
  refine ⟨⟨K.h.b0, K.h.b1, K.h.b2, K.h.b3, K.h.b4, K.h.b5, K.h.b6, K.h.b7, K.h.b8, K.h.b9, K.h.b10, K.h.b11, K.h.b12, K.h.b13, K.h.b14, K.h.b15, K.h.b16, K.h.b17⟩, by show c.tn + 1 = q + 1; omega, by have := K.fn; show c.fn ≤ 60 * (q + 1); omega, fun k hk => ?_, fun k hk => ?_⟩
  · show TeB (c.h 1) (addR T c.tn t k)
    have hk' : k < c.tn + 1 := hk
    by_cases e : k = c.tn
    · subst e; rw [addR_at]; exact ht
    · rw [addR_ne e]; exact K.t k (by omega)
  · have := K.f k hk
    obtain ⟨h1, h2, h3⟩ := this
    exact ⟨h1, by show _ < ((c.tn + 1 : Nat) : Int); omega, h3⟩
theorem CfB.addF {c : Cf} {X X' : Nat → Ch.Fd} {T : Nat → Te} {q k : Nat} {a1 : Option Addr} {c1 : Nat} (K : CfB c X T (q + 1)) (hf : c.fn ≤ 60 * q) (hk : k ≤ 60) (h1 : ∀ j, j < c.fn → X' j = X j) (h2 : ∀ j, j < k → FdB q (c.h 1) (X' (c.fn + j))) : CfB { c with fa := a1, fn := c.fn + k, fc := c1 } X' T (q + 1) := by
  have hq := K.tn
  refine ⟨⟨K.h.b0, K.h.b1, K.h.b2, K.h.b3, K.h.b4, K.h.b5, K.h.b6, K.h.b7, K.h.b8, K.h.b9, K.h.b10, K.h.b11, K.h.b12, K.h.b13, K.h.b14, K.h.b15, K.h.b16, K.h.b17⟩, K.tn, by show c.fn + k ≤ 60 * (q + 1); omega, K.t, fun j hj => ?_⟩
  show FdB' c.tn (c.h 1) (X' j)
  have hj' : j < c.fn + k := hj
  by_cases e : j < c.fn
  · rw [h1 j e]; exact K.f j e
  · have := h2 (j - c.fn) (by omega)
    rw [show c.fn + (j - c.fn) = j by omega] at this
    obtain ⟨g1, g2, g3, g4, g5, g6, g7, g8, g9⟩ := this
    exact ⟨by omega, by omega, g2, g3, g4, g5, g6, g7, g8, g9⟩
theorem CfW.alloc {w : World} {B z p : Nat} {c : Cf} {X : Nat → Ch.Fd} {T : Nat → Te} (K : CfW w B z c X T) (o : Obj) (hp : p < B) : CfW (w.alloc o) B z c X T := K.only (p := p) (only_alloc (only_refl w p) o) hp
theorem only_low {w u u' : World} {p C : Nat} (O : OnlyP w u p) (h : LowP C p u u') (hC : w.heap.size ≤ C) : OnlyP w u' p :=
  ⟨h.os.trans O.os, h.tape.trans O.tape, h.output.trans O.output, Nat.le_trans O.size h.size, fun i hi hp => (h.block i (by omega) (by simpa using hp)).trans (O.block i hi hp)⟩
section
variable {ops : Array Oper} {rest : List Oper} {o : Oper} {a : Act} {Q : Exit → Act → World → Prop}
theorem wpList_append_be (w : World) (B : Nat) (hgd : o.guard = none) (sl x : Operand) (ho : o.op = .call { callee := .builtin .append, args := #[sl, x], argTypes := #[50, 50] }) (v : Value) (n : Nat) (be : Nat → BeR) (hs : a.eval sl = v) (r : BeR) (b : Nat) (hx : a.eval x = .slice (some ⟨b, 0, none⟩) 1 1)
    (hcs : w.heap[b]? = some (.cells (be11c r).toArray 71 (0, 0))) (F : w.ownsRow B 71 11 v n ((List.range (n * 11)).map (bev' be))) (hB : B ≤ w.heap.size) (hn : n + 1 ≤ 1000000)
    (h : ∀ v' w', w'.ownsRow B 71 11 v' (n + 1) ((List.range ((n + 1) * 11)).map (bev' (addR be n r))) → w.grownBy w' v.ownBlock → wpList Tryz.prog ops Q rest (a.put o.dst v') w') : wpList Tryz.prog ops Q (o :: rest) a w := by
  refine wpList_append_at w B hgd sl x 50 ho 71 _ 11 88 Tryz.underlying50 pz71 rfl (by decide) (by decide) v n (bev' be) hs b _ (0, 0) hx hcs rfl ?_ (bev' (addR be n r)) (fun j hj => be_keep be n r j hj) (fun j hj => be_new be n r j hj) F hB hn fun v' w' h1 h2 _ => h v' w' h1 h2
  intro u hu
  simp [be11c] at hu
  rcases hu with rfl | rfl | rfl | rfl | rfl | rfl | rfl | rfl | rfl | rfl | rfl <;> rfl
theorem wpList_append_bu (w : World) (B : Nat) (hgd : o.guard = none) (sl x : Operand) (ho : o.op = .call { callee := .builtin .append, args := #[sl, x], argTypes := #[51, 51] }) (v : Value) (n : Nat) (P R M T : Nat → Int) (hs : a.eval sl = v) (x0 y0 m0 t0 : Int) (b : Nat) (hx : a.eval x = .slice (some ⟨b, 0, none⟩) 1 1)
    (hcs : w.heap[b]? = some (.cells (bu4 x0 y0 m0 t0).toArray 74 (0, 0))) (F : w.ownsRow B 74 4 v n ((List.range (n * 4)).map (buv P R M T))) (hB : B ≤ w.heap.size) (hn : n + 1 ≤ 1000000)
    (h : ∀ v' w', w'.ownsRow B 74 4 v' (n + 1) ((List.range ((n + 1) * 4)).map (buv (addR P n x0) (addR R n y0) (addR M n m0) (addR T n t0))) → w.grownBy w' v.ownBlock → wpList Tryz.prog ops Q rest (a.put o.dst v') w') : wpList Tryz.prog ops Q (o :: rest) a w := by
  refine wpList_append_at w B hgd sl x 51 ho 74 _ 4 32 Tryz.underlying51 pz74 rfl (by decide) (by decide) v n (buv P R M T) hs b _ (0, 0) hx hcs rfl ?_ (buv (addR P n x0) (addR R n y0) (addR M n m0) (addR T n t0)) (fun j hj => bu_keep P R M T n x0 y0 m0 t0 j hj) (fun j hj => bu_new P R M T n x0 y0 m0 t0 j hj) F hB hn fun v' w' h1 h2 _ => h v' w' h1 h2
  intro u hu
  simp [bu4] at hu
  rcases hu with rfl | rfl | rfl | rfl <;> rfl
theorem wpList_append_te (w : World) (B : Nat) (hgd : o.guard = none) (sl x : Operand) (ho : o.op = .call { callee := .builtin .append, args := #[sl, x], argTypes := #[35, 35] }) (v : Value) (n : Nat) (T : Nat → Te) (hs : a.eval sl = v) (t : Te) (b : Nat) (hx : a.eval x = .slice (some ⟨b, 0, none⟩) 1 1)
    (hcs : w.heap[b]? = some (.cells (tcs t).toArray 57 (0, 0))) (F : w.ownsRow B 57 14 v n ((List.range (n * 14)).map (tev' T))) (hB : B ≤ w.heap.size) (hn : n + 1 ≤ 1000000)
    (h : ∀ v' w', w'.ownsRow B 57 14 v' (n + 1) ((List.range ((n + 1) * 14)).map (tev' (addR T n t))) → w.grownBy w' v.ownBlock → wpList Tryz.prog ops Q rest (a.put o.dst v') w') : wpList Tryz.prog ops Q (o :: rest) a w := by
  refine wpList_append_at w B hgd sl x 35 ho 57 _ 14 _ Tryz.underlying35 pz57 rfl (by decide) (by decide) v n (tev' T) hs b _ (0, 0) hx hcs rfl ?_ (tev' (addR T n t)) (fun j hj => te_keep T n t j hj) (fun j hj => te_new T n t j hj) F hB hn fun v' w' h1 h2 _ => h v' w' h1 h2
  intro u hu
  simp [tcs] at hu
  rcases hu with rfl | rfl | rfl | rfl | rfl | rfl | rfl | rfl | rfl | rfl | rfl | rfl | rfl | rfl <;> rfl
/-- A terminal's fades are put to all. -/
theorem wpList_append_fds (w : World) (B C : Nat) (hgd : o.guard = none) (sl x : Operand) (ho : o.op = .call { callee := .builtin .append, args := #[sl, x], argTypes := #[34, 34] }) (v : Value) (n : Nat) (X : Nat → Ch.Fd) (hs : a.eval sl = v) (id m : Int) (u : Value) (k : Nat) (hk1 : 1 ≤ k) (hx : a.eval x = u)
    (hu : FdsAt w C id m u k) (F : w.ownsRow B 86 5 v n ((List.range (n * 5)).map (fdv X))) (hB : B ≤ w.heap.size) (hn : n + k ≤ 1000000)
    (h : ∀ v' w' X', w'.ownsRow B 86 5 v' (n + k) ((List.range ((n + k) * 5)).map (fdv X')) → (∀ j, j < n → X' j = X j) → (∀ j, j < k → FdB id m (X' (n + j))) → w.grownBy w' v.ownBlock → wpList Tryz.prog ops Q rest (a.put o.dst v') w') : wpList Tryz.prog ops Q (o :: rest) a w := by
  obtain ⟨Y, hY, hYb⟩ := hu
  obtain ⟨a0, cc, b, e, hc, hp, hcell⟩ := own_cellsK hY
  obtain ⟨rfl, -⟩ := hp (by omega)
  rw [e] at hx
  have hX1 : ∀ j, j < n → (fun j => if j < n then X j else Y (j - n)) j = X j := fun j hj => if_pos hj
  have hX2 : ∀ j, (fun j => if j < n then X j else Y (j - n)) (n + j) = Y j := fun j => by
    show (if n + j < n then X (n + j) else Y (n + j - n)) = Y j
    rw [if_neg (by omega), Nat.add_sub_cancel_left]
  generalize (fun j => if j < n then X j else Y (j - n)) = X' at *
  refine wpList_append_rows w B hgd sl x 34 ho 86 _ 5 40 Tryz.underlying34 pz86 rfl (by decide) (by decide) v n (fdv X) hs b 0 k cc hx (fdv Y) (fun j hj => by rw [Nat.zero_add]; exact hcell j hj) (fun j hj => rfl) (fdv X') (fun j hj => ?_) (fun j hj => ?_) F hB hn fun v' w' h1 h2 _ => h v' w' X' h1 hX1 (fun j hj => by rw [hX2]; exact hYb j hj) h2
  · unfold fdv
    rw [hX1 (j / 5) (by omega)]
  · unfold fdv
    rw [show (n * 5 + j) / 5 = n + j / 5 by omega, show (n * 5 + j) % 5 = j % 5 by omega, hX2]
end
end Go.Proofs.YtgflfdnajchjaaaGreatDoor
