/- Small facts on worlds that every walk of this seat uses. Nothing of the program is named here. -/
import Derived.WalkKit
import Derived.WalkSpells
import Derived.WalkLawsBesides
import Derived.Lib.QuietBelow
import Derived.Lib.Hide
import Derived.BigQuiet
import Derived.Deep.MidRow
import Derived.Test.YtdcogbokcbpnnaaTail
import Derived.Test.YtdcogbokcbpnnaaRead
namespace Go.Proofs.Ytdcogbokcbpnnaa
set_option linter.unusedVariables false
set_option linter.unusedSimpArgs false
open Go.RowKit Go.Sort

theorem ret_int {k : IntKind} {a b : Int} (h : a = b) : Ending.returned (.int k a) = .returned (.int k b) := by rw [h]
theorem ret_bool {a b : Bool} (h : a = b) : Ending.returned (.bool a) = .returned (.bool b) := by rw [h]

theorem bcell {W w1 : World} (hb : Below W.heap.size W w1) : (∀ b o, b < W.heap.size → w1.cell? ⟨b, o, none⟩ = W.cell? ⟨b, o, none⟩) ∧ (∀ b o, b < W.heap.size → w1.frozen? ⟨b, o, none⟩ = W.frozen? ⟨b, o, none⟩) :=
  ⟨fun b o h => hb.cell (p := ⟨b, o, none⟩) h, fun b o h => hb.frozen (p := ⟨b, o, none⟩) h⟩

theorem gcell (W : World) (d : Nat) (os : Array Obj) (b o : Nat) (h : b < W.heap.size) : (grow (redrawn W d) os).cell? ⟨b, o, none⟩ = W.cell? ⟨b, o, none⟩ :=
  (below_regrown W d os).cell (p := ⟨b, o, none⟩) h
theorem gfrozen (W : World) (d : Nat) (os : Array Obj) (b o : Nat) (h : b < W.heap.size) : (grow (redrawn W d) os).frozen? ⟨b, o, none⟩ = W.frozen? ⟨b, o, none⟩ :=
  (below_regrown W d os).frozen (p := ⟨b, o, none⟩) h

theorem lt_of_cell {w : World} {b o : Nat} {v : Value} (h : w.cell? ⟨b, o, none⟩ = some v) : b < w.heap.size := block_lt_of_cell h

/-- A cell that was there is there in a world that has grown. -/
theorem up {W w : World} {b o : Nat} {v : Value} (hb : Below W.heap.size W w) (h : W.cell? ⟨b, o, none⟩ = some v) : w.cell? ⟨b, o, none⟩ = some v := (hb.cell (lt_of_cell h)).trans h
theorem upf {W w : World} {b o : Nat} (hb : Below W.heap.size W w) (hl : b < W.heap.size) (h : W.frozen? ⟨b, o, none⟩ = false) : w.frozen? ⟨b, o, none⟩ = false := (hb.frozen (p := ⟨b, o, none⟩) hl).trans h

/-- Two worlds that have grown, one behind the other. -/
theorem bthen {B : Nat} {a b c : World} (h : Below B a b) (k : Below b.heap.size b c) (hB : B ≤ b.heap.size) : Below B a c := h.trans (k.mono hB)
theorem bthen' {a b c : World} (h : Below a.heap.size a b) (k : Below b.heap.size b c) : Below a.heap.size a c := h.trans (k.mono h.size)

theorem below_of_regrown {W w : World} (h : ∃ p : Regrown, w = grow (redrawn W p.d) p.os) : Below W.heap.size W w := by
  obtain ⟨p, rfl⟩ := h
  exact below_regrown _ _ _

theorem below_of_same {P : Program} {f : FuncId} {args : Array Value} {w : World} {v : Value} (h : Calls P f args w fun e w' => e = .returned v ∧ w' = w) : Calls P f args w fun e w' => e = .returned v ∧ Below w.heap.size w w' :=
  h.mono fun _ _ ⟨he, hw⟩ => ⟨he, hw ▸ Below.refl _ _⟩
theorem regrown_same {P : Program} {f : FuncId} {args : Array Value} {w : World} {d : Nat} {os : Array Obj} {v : Value}
    (h : Calls P f args (grow (redrawn w d) os) fun e w' => e = .returned v ∧ w' = grow (redrawn w d) os) : Calls P f args (grow (redrawn w d) os) fun e w'' => e = .returned v ∧ ∃ p : Regrown, w'' = grow (redrawn w p.d) p.os :=
  Calls.regrown_of (below_of_same h)

theorem cell_set (w : World) (a b : Addr) (v : Value) : (w.setCell a v).cell? b = if a = b then (w.cell? b).map (fun _ => v) else w.cell? b := by
  by_cases h : a = b
  · subst h
    rw [if_pos rfl]
    cases hc : w.cell? a with
    | some u => exact World.cell?_setCell_same _ _ _ hc
    | none =>
      simp only [World.setCell, World.cell?, Array.getElem?_modify, if_true, Option.map_none] at hc ⊢
      cases hb : w.heap[a.block]? with
      | none => simp
      | some o =>
        rw [hb] at hc
        cases o with
        | cells c t f =>
          simp only [Option.map_some] at hc ⊢
          split at hc
          · rename_i h1; simp [h1]
          · rename_i h1
            have : c.size ≤ a.off := by simpa using hc
            simp [h1, this]
        | _ => simp
  · rw [if_neg h]; exact World.cell?_setCell_other _ _ _ _ h

/-- What a function hands back that lies in a row of memory. -/
theorem results_range {P : Program} {fn : Func} {p : Tmp} {ty : TypeId} (h : fn.results = #[.cell p ty]) (tmps : Array Value) (w : World) (g : Nat) (cs : List Value) (d : TypeDesc)
    (hp : tmps.getD p undef = .pointer (some ⟨g, 0, none⟩)) (hc : w.rangeAt g 0 cs) (hu : P.underlying ty = some d) (hd : d.isRow = true) (hi : (P.info? ty).map (·.size) = some cs.length) :
    (results fn tmps).run P w = .ok (.agg cs.toArray) w := by
  have hp' : tmps[p]?.getD undef = .pointer (some ⟨g, 0, none⟩) := by simpa using hp
  have h1 := run_loadAt_mid (P := P) w g 0 ty cs d hc hu hd hi
  simp only [Instr.loadAt, Instr.sureAddr, Sem.run_bind, Sem.run_pure, Result.andThen_ok] at h1
  simp [results, h, hp', asAddr, h1]

end Go.Proofs.Ytdcogbokcbpnnaa
