/- Layer 42: the tables. -/
import Derived.Test.YtaocopmlgemgiaaRows
import Derived.Test.YtaocopmlgemgiaaRow
import Derived.Test.YtaocopmlgemgiaaMapLit
import Derived.DeepKeys4
namespace Go.Proofs.Ytaocopmlgemgiaa
set_option linter.unusedVariables false
set_option linter.unusedSimpArgs false
open Go.RowKit Go.Maps
attribute [local go_sem] gcell

theorem laidOut : laidOutB Try.prog = true := by kernel_rfl
theorem law52 : Keyed Try.prog 52 := Keyed.of_law (deep_law_laid laidOut (m := 2) (by decide) (by rw [show Try.prog.types.size = 74 by kernel_rfl]; decide) (by kernel_rfl) (by kernel_rfl))
def kv (p e : Int) : Value := .agg #[.int .i64 p, .int .i64 e]
theorem key52 (p e : Int) (hp : (Lit.int .i64 p).wf = true) (he : (Lit.int .i64 e).wf = true) : keyOf Try.prog 52 (kv p e) = some (.string (keyBytes [.int .i64 p, .int .i64 e])) := by
  have h1 : Try.prog.keyType 52 = true := by kernel_rfl
  have h2 : (kv p e).formed Try.prog 52 = true := by
    unfold kv Value.formed
    simp only [Try.underlying52]
    rw [show Try.prog.cellsOf 52 = 2 by kernel_rfl]
    rfl
  have h3 : ∀ n, Try.prog.keyLits (n + 2) 52 [.int .i64 p, .int .i64 e] = some [.int .i64 p, .int .i64 e] := fun n => by
    unfold Program.keyLits
    simp only [Try.underlying52]
    rw [show Try.prog.cellsOf 52 = 2 by kernel_rfl]
    simp [Program.keyLits, Try.underlying3, show Try.prog.cellsOf 3 = 1 by kernel_rfl, hp, he]
  unfold keyOf
  simp only [Try.underlying52]
  rw [if_pos (by rw [h1, h2]; rfl), show Try.prog.types.size + 1 = 73 + 2 by rw [show Try.prog.types.size = 74 by kernel_rfl]]
  show (Try.prog.keyLits (73 + 2) 52 [.int .i64 p, .int .i64 e]).map _ = _
  rw [h3]
  rfl

def rowV (a b : Int) (s : Bool) (c : Int) : Value := .agg #[.int .i64 a, .int .i64 b, .bool s, .int .i64 c]
theorem zero47 (w : World) : (zeroValue 47).run Try.prog w = .ok (rowV 0 0 false 0) w := by kernel_rfl
theorem map49 : Try.prog.underlying 49 = some (.map 52 47) := Try.underlying49
theorem kv_inj {p e p' e' : Int} (h : kv p e = kv p' e') : p = p' ∧ e = e' := by unfold kv at h; simp at h; exact h

/-- The rows of a station, and of a terminal: phase, event; phase, does, since, when. -/
def stK : Nat → Int × Int
  | 0 => (0, 1) | 1 => (1, 2) | 2 => (1, 3) | 3 => (1, 7) | 4 => (2, 4) | 5 => (2, 7) | 6 => (3, 5) | _ => (3, 6)
def stV : Nat → Value
  | 0 => rowV 1 1 true 1 | 1 => rowV 2 2 true 2 | 2 => rowV 0 0 false 2 | 3 => rowV 0 4 false 3 | 4 => rowV 3 3 true 0 | 5 => rowV 0 4 false 3 | 6 => rowV 3 6 false 0 | _ => rowV 0 5 false 0
def teK : Nat → Int × Int
  | 0 => (0, 1) | 1 => (1, 2) | 2 => (1, 3) | 3 => (1, 4) | 4 => (2, 2) | _ => (2, 3)
def teV : Nat → Value
  | 0 => rowV 1 1 true 1 | 1 => rowV 0 2 false 0 | 2 => rowV 2 3 true 0 | 3 => rowV 2 3 true 3 | 4 => rowV 0 4 false 0 | _ => rowV 2 3 false 0
def kOf (f : Nat → Int × Int) (i : Nat) : Value := kv (f i).1 (f i).2

theorem ap_of {n : Nat} {f : Nat → Int × Int} (D : ∀ i : Fin n, ∀ j : Fin n, ((f i).1 = (f j).1 ∧ (f i).2 = (f j).2) → i = j) (i j : Nat) (hi : i < n) (hj : j < n) (h : kOf f i = kOf f j) : i = j :=
  Fin.mk.inj (D ⟨i, hi⟩ ⟨j, hj⟩ (kv_inj h))
theorem st_ap : ∀ i j, i < 8 → j < 8 → kOf stK i = kOf stK j → i = j := ap_of (by decide)
theorem te_ap : ∀ i j, i < 6 → j < 6 → kOf teK i = kOf teK j → i = j := ap_of (by decide)

/-- A table in memory. -/
def Tab (w : World) (n : Nat) (K : Nat → Int × Int) (V : Nat → Value) (e : Ending) (w' : World) : Prop :=
  ∃ B, e = .returned (.map (some B)) ∧ Entries w' B n (kOf K) V (fun _ => True) ∧ Below w.heap.size w w'

set_option maxRecDepth 100000 in
set_option maxHeartbeats 2000000 in
theorem st19 (w : World) : Calls Try.prog 19 #[] w (Tab w 8 stK stV) := by
  have hkl : ∀ i, i < 8 → keyOf Try.prog 52 (kOf stK i) = some (.string (keyBytes [.int .i64 (stK i).1, .int .i64 (stK i).2])) := fun i hi => key52 _ _ (by unfold stK; split <;> decide) (by unfold stK; split <;> decide)
  have hap := st_ap
  have d1 : ∀ i, i < 8 → 2 * i + 2 ≠ 1 ∧ 2 * i + 3 ≠ 1 ∧ 2 * i + 2 ≠ 18 ∧ 2 * i + 3 ≠ 18 ∧ 2 * i + 2 ≠ 0 ∧ 2 * i + 3 ≠ 0 := fun i hi => by omega
  have d3 : ∀ i j, i < 8 → j < 8 → (i ≠ j → 2 * i + 2 ≠ 2 * j + 2 ∧ 2 * i + 3 ≠ 2 * j + 3) ∧ 2 * i + 2 ≠ 2 * j + 3 := fun i j hi hj => by omega
  have d4 : ∀ i, i < 8 → 2 * i + 2 < 19 ∧ 2 * i + 3 < 19 := fun i hi => by omega
  go_enter Try.func19, Try.ntmps19
  go_wp2_with fail
  refine wp_mapLit (S := 19) (n := 8) (m := 1) (z1 := 18) (z2 := 0) (sk := fun i => 2 * i + 2) (sv := fun i => 2 * i + 3) (key := kOf stK) (val := stV) (by kernel_rfl) law52 map49 hkl hap ⟨rfl, by kernel_rfl, by kernel_rfl, ⟨_, rfl, rfl, rfl, rfl⟩, fun i hi => ?_, fun i hi => ?_, fun i hi => ?_, ⟨_, rfl, rfl, rfl, rfl⟩, ⟨_, rfl, rfl, rfl, rfl⟩, d1, by decide, d3⟩ rfl rfl ⟨by decide, by decide, by decide, d4⟩ ?_
  · match i, hi with
      | 0, _ => exact ⟨_, rfl, rfl, rfl, fun a w => by kernel_rfl⟩
      | 1, _ => exact ⟨_, rfl, rfl, rfl, fun a w => by kernel_rfl⟩
      | 2, _ => exact ⟨_, rfl, rfl, rfl, fun a w => by kernel_rfl⟩
      | 3, _ => exact ⟨_, rfl, rfl, rfl, fun a w => by kernel_rfl⟩
      | 4, _ => exact ⟨_, rfl, rfl, rfl, fun a w => by kernel_rfl⟩
      | 5, _ => exact ⟨_, rfl, rfl, rfl, fun a w => by kernel_rfl⟩
      | 6, _ => exact ⟨_, rfl, rfl, rfl, fun a w => by kernel_rfl⟩
      | 7, _ => exact ⟨_, rfl, rfl, rfl, fun a w => by kernel_rfl⟩
  · match i, hi with
      | 0, _ => exact ⟨_, rfl, rfl, rfl, fun a w => by kernel_rfl⟩
      | 1, _ => exact ⟨_, rfl, rfl, rfl, fun a w => by kernel_rfl⟩
      | 2, _ => exact ⟨_, rfl, rfl, rfl, fun a w => by kernel_rfl⟩
      | 3, _ => exact ⟨_, rfl, rfl, rfl, fun a w => by kernel_rfl⟩
      | 4, _ => exact ⟨_, rfl, rfl, rfl, fun a w => by kernel_rfl⟩
      | 5, _ => exact ⟨_, rfl, rfl, rfl, fun a w => by kernel_rfl⟩
      | 6, _ => exact ⟨_, rfl, rfl, rfl, fun a w => by kernel_rfl⟩
      | 7, _ => exact ⟨_, rfl, rfl, rfl, fun a w => by kernel_rfl⟩
  · match i, hi with
      | 0, _ => exact ⟨_, rfl, rfl, rfl, rfl⟩
      | 1, _ => exact ⟨_, rfl, rfl, rfl, rfl⟩
      | 2, _ => exact ⟨_, rfl, rfl, rfl, rfl⟩
      | 3, _ => exact ⟨_, rfl, rfl, rfl, rfl⟩
      | 4, _ => exact ⟨_, rfl, rfl, rfl, rfl⟩
      | 5, _ => exact ⟨_, rfl, rfl, rfl, rfl⟩
      | 6, _ => exact ⟨_, rfl, rfl, rfl, rfl⟩
      | 7, _ => exact ⟨_, rfl, rfl, rfl, rfl⟩
  · intro a' w' hsz hdf hs hb hE
    have HE := Lib.hid hE
    have HB := Lib.hid hb
    clear hE hb hkl hap d1 d3 d4
    go_wp2
    refine bodyPost_ret (v := .map (some w.heap.size)) ?_ hdf ⟨_, rfl, HE.out, HB.out⟩
    unfold Slot at hs
    simp [results, Try.results19, hs]

set_option maxRecDepth 100000 in
set_option maxHeartbeats 2000000 in
theorem te23 (w : World) : Calls Try.prog 23 #[] w (Tab w 6 teK teV) := by
  have hkl : ∀ i, i < 6 → keyOf Try.prog 52 (kOf teK i) = some (.string (keyBytes [.int .i64 (teK i).1, .int .i64 (teK i).2])) := fun i hi => key52 _ _ (by unfold teK; split <;> decide) (by unfold teK; split <;> decide)
  have hap := te_ap
  have d1 : ∀ i, i < 6 → 2 * i + 2 ≠ 1 ∧ 2 * i + 3 ≠ 1 ∧ 2 * i + 2 ≠ 14 ∧ 2 * i + 3 ≠ 14 ∧ 2 * i + 2 ≠ 0 ∧ 2 * i + 3 ≠ 0 := fun i hi => by omega
  have d3 : ∀ i j, i < 6 → j < 6 → (i ≠ j → 2 * i + 2 ≠ 2 * j + 2 ∧ 2 * i + 3 ≠ 2 * j + 3) ∧ 2 * i + 2 ≠ 2 * j + 3 := fun i j hi hj => by omega
  have d4 : ∀ i, i < 6 → 2 * i + 2 < 15 ∧ 2 * i + 3 < 15 := fun i hi => by omega
  go_enter Try.func23, Try.ntmps23
  go_wp2_with fail
  refine wp_mapLit (S := 15) (n := 6) (m := 1) (z1 := 14) (z2 := 0) (sk := fun i => 2 * i + 2) (sv := fun i => 2 * i + 3) (key := kOf teK) (val := teV) (by kernel_rfl) law52 map49 hkl hap ⟨rfl, by kernel_rfl, by kernel_rfl, ⟨_, rfl, rfl, rfl, rfl⟩, fun i hi => ?_, fun i hi => ?_, fun i hi => ?_, ⟨_, rfl, rfl, rfl, rfl⟩, ⟨_, rfl, rfl, rfl, rfl⟩, d1, by decide, d3⟩ rfl rfl ⟨by decide, by decide, by decide, d4⟩ ?_
  · match i, hi with
      | 0, _ => exact ⟨_, rfl, rfl, rfl, fun a w => by kernel_rfl⟩
      | 1, _ => exact ⟨_, rfl, rfl, rfl, fun a w => by kernel_rfl⟩
      | 2, _ => exact ⟨_, rfl, rfl, rfl, fun a w => by kernel_rfl⟩
      | 3, _ => exact ⟨_, rfl, rfl, rfl, fun a w => by kernel_rfl⟩
      | 4, _ => exact ⟨_, rfl, rfl, rfl, fun a w => by kernel_rfl⟩
      | 5, _ => exact ⟨_, rfl, rfl, rfl, fun a w => by kernel_rfl⟩
  · match i, hi with
      | 0, _ => exact ⟨_, rfl, rfl, rfl, fun a w => by kernel_rfl⟩
      | 1, _ => exact ⟨_, rfl, rfl, rfl, fun a w => by kernel_rfl⟩
      | 2, _ => exact ⟨_, rfl, rfl, rfl, fun a w => by kernel_rfl⟩
      | 3, _ => exact ⟨_, rfl, rfl, rfl, fun a w => by kernel_rfl⟩
      | 4, _ => exact ⟨_, rfl, rfl, rfl, fun a w => by kernel_rfl⟩
      | 5, _ => exact ⟨_, rfl, rfl, rfl, fun a w => by kernel_rfl⟩
  · match i, hi with
      | 0, _ => exact ⟨_, rfl, rfl, rfl, rfl⟩
      | 1, _ => exact ⟨_, rfl, rfl, rfl, rfl⟩
      | 2, _ => exact ⟨_, rfl, rfl, rfl, rfl⟩
      | 3, _ => exact ⟨_, rfl, rfl, rfl, rfl⟩
      | 4, _ => exact ⟨_, rfl, rfl, rfl, rfl⟩
      | 5, _ => exact ⟨_, rfl, rfl, rfl, rfl⟩
  · intro a' w' hsz hdf hs hb hE
    have HE := Lib.hid hE
    have HB := Lib.hid hb
    clear hE hb hkl hap d1 d3 d4
    go_wp2
    refine bodyPost_ret (v := .map (some w.heap.size)) ?_ hdf ⟨_, rfl, HE.out, HB.out⟩
    unfold Slot at hs
    simp [results, Try.results23, hs]


/-- What the rows say: the place of a phase and an event among them. -/
theorem look {w : World} {n B : Nat} {f : Nat → Int × Int} {V : Nat → Value} (hf : ∀ i, i < n → (Lit.int .i64 (f i).1).wf = true ∧ (Lit.int .i64 (f i).2).wf = true) (hap : ∀ i j, i < n → j < n → kOf f i = kOf f j → i = j) (h : Entries w B n (kOf f) V (fun _ => True)) {p e : Int} (hp : (Lit.int .i64 p).wf = true) (he : (Lit.int .i64 e).wf = true) :
    (∀ i, i < n → p = (f i).1 → e = (f i).2 → (Instr.lookup 49 (.map (some B)) (kv p e) true).run Try.prog w = .ok (.tuple #[V i, .bool true]) w) ∧ ((∀ i, i < n → ¬ (p = (f i).1 ∧ e = (f i).2)) → (Instr.lookup 49 (.map (some B)) (kv p e) true).run Try.prog w = .ok (.tuple #[rowV 0 0 false 0, .bool false]) w) := by
  obtain ⟨h1, h2⟩ := lookup_run law52 map49 (fun i hi => key52 _ _ (hf i hi).1 (hf i hi).2) hap h (zero47 w) (key52 p e hp he)
  exact ⟨fun i hi e1 e2 => h1 i hi (by rw [e1, e2]), fun hno => h2 fun i hi e => hno i hi (kv_inj e)⟩
end Go.Proofs.Ytaocopmlgemgiaa
