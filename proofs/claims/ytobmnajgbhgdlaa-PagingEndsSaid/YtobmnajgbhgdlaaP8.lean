/- Layer 36: what a call makes of the pages, in plain Lean. -/
import Derived.Test.YtobmnajgbhgdlaaP7
namespace Go.Proofs.Ytobmnajgbhgdlaa
set_option linter.unusedVariables false
set_option linter.unusedSimpArgs false
open Go.RowKit Go.Sort

/-- Numbers that a call may not have. -/
def badC (id t : Int) : Bool := decide (id < 0 ∨ 65536 ≤ id ∨ t < 0 ∨ 1048576 < t)
/-- The error of a call. -/
def clE (cy mo tr id t : Int) (n : Nat) (I S C : Nat → Int) : Int :=
  if ckP cy mo tr n I S C ≠ 0 then ckP cy mo tr n I S C else if badC id t = true then 3 else if hs I id n = true then 12 else if n = 16 then 13 else 0
/-- The pages behind a call. -/
def clO (cy mo tr id t : Int) (n : Nat) (I S C : Nat → Int) : List Pg := if clE cy mo tr id t n I S C = 0 then pl I S C n ++ [(id, t, 0)] else pl I S C n
def CallR (cy mo tr id t : Int) (n : Nat) (I S C : Nat → Int) (w : World) (e : Ending) (w' : World) : Prop :=
  ∃ (P : List Pg) (a1 : Option Addr) (c1 : Nat), P = clO cy mo tr id t n I S C ∧ e = .returned (.tuple #[gv cy mo tr a1 P.length c1, .int .i64 (clE cy mo tr id t n I S C)]) ∧
    CapOk P.length c1 ∧ (a1 = none → P.length = 0) ∧ R3 w' a1 P.length (pI P) (pS P) (pC P) ∧ Below w.heap.size w w'
/-- .. in new memory. -/
def CallN (cy mo tr id t : Int) (n : Nat) (I S C : Nat → Int) (w : World) (e : Ending) (w' : World) : Prop :=
  ∃ (P : List Pg) (a1 : Option Addr) (c1 : Nat), P = clO cy mo tr id t n I S C ∧ e = .returned (.tuple #[gv cy mo tr a1 P.length c1, .int .i64 (clE cy mo tr id t n I S C)]) ∧
    CapOk P.length c1 ∧ (a1 = none → P.length = 0) ∧ R3 w' a1 P.length (pI P) (pS P) (pC P) ∧ Below w.heap.size w w' ∧ ∀ x : Addr, a1 = some x → w.heap.size ≤ x.block
theorem CallN.r {cy mo tr id t : Int} {n : Nat} {I S C : Nat → Int} {w w' : World} {e : Ending} (h : CallN cy mo tr id t n I S C w e w') : CallR cy mo tr id t n I S C w e w' := by
  obtain ⟨P, a1, c1, h1, h2, h3, h4, h5, h6, _⟩ := h
  exact ⟨P, a1, c1, h1, h2, h3, h4, h5, h6⟩
theorem CallR.n {cy mo tr id t x : Int} {n c1 : Nat} {I S C : Nat → Int} {w w' : World} {a1 : Option Addr} {m : Nat} (h : CallR cy mo tr id t n I S C w (.returned (.tuple #[gv cy mo tr a1 m c1, .int .i64 x])) w') (hl : ∀ x : Addr, a1 = some x → w.heap.size ≤ x.block) :
    CallN cy mo tr id t n I S C w (.returned (.tuple #[gv cy mo tr a1 m c1, .int .i64 x])) w' := by
  obtain ⟨P, a2, c2, h1, h2, h3, h4, h5, h6⟩ := h
  have : a2 = a1 := by
    unfold gv at h2
    injection h2 with h2
    simp at h2
    exact h2.1.1.symm
  subst this
  exact ⟨P, a2, c2, h1, h2, h3, h4, h5, h6, hl⟩
/-- A call that is refused hands back the pages as they are. -/
theorem CallR.err {cy mo tr id t x : Int} {n c1 : Nat} {I S C : Nat → Int} {w w' : World} {a1 : Option Addr} (hx : clE cy mo tr id t n I S C = x) (hx0 : x ≠ 0) (hc : CapOk n c1) (h0 : a1 = none → n = 0) (r : R3 w' a1 n I S C) (hb : Below w.heap.size w w') :
    CallR cy mo tr id t n I S C w (.returned (.tuple #[gv cy mo tr a1 n c1, .int .i64 x])) w' :=
  ⟨pl I S C n, a1, c1, by unfold clO; rw [hx, if_neg hx0], by rw [hx, pl_len], by rw [pl_len]; exact hc, by rw [pl_len]; exact h0, by rw [pl_len]; exact r.congr fun k hk => pl_at I S C hk, hb⟩
end Go.Proofs.Ytobmnajgbhgdlaa
