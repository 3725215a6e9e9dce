import Derived.Test.YtgflfdnajchjaaaGreatDoorJC
import Derived.Test.YtgflfdnajchjaaaGreatDoorJI
import Derived.Test.YtgflfdnajchjaaaGreatDoorJB
import Derived.WalkKit
import Derived.StillTailTactics
import Derived.BigCall
import Derived.BigQuiet
import Derived.Deep.QuietTactic
/- Layer 45: the pointers to the numbers of a line. -/
namespace Go.Proofs.YtgflfdnajchjaaaGreatDoor
set_option linter.unusedVariables false
set_option linter.unusedSimpArgs false
open Go.RowKit Go.Sort Go.Lib
/-- Pointers in memory. -/
def PtrAt (w : World) (b : Nat) (l : List Addr) : Prop := ∀ k, k < l.length → w.cell? ⟨b, k, none⟩ = some (.pointer (some (l.getD k ⟨0, 0, none⟩)))
theorem PtrAt.mono {W w : World} {b : Nat} {l : List Addr} (H : PtrAt W b l) (hb : Below W.heap.size W w) : PtrAt w b l := fun k hk => up hb (H k hk)
def adr (z : Nat) (l : List Nat) : List Addr := l.map fun k => ⟨z, k, none⟩
theorem ptr_new (w : World) (l : List Addr) : PtrAt ((w.alloc (.cells (l.map fun a => Value.pointer (some a)).toArray 125)).drew) w.heap.size l ∧ Below w.heap.size w ((w.alloc (.cells (l.map fun a => Value.pointer (some a)).toArray 125)).drew) ∧ ((w.alloc (.cells (l.map fun a => Value.pointer (some a)).toArray 125)).drew).heap.size = w.heap.size + 1 := by
  refine ⟨fun k hk => ?_, ((Below.refl _ _).alloc (Nat.le_refl _) _).drew, by simp [World.drew]⟩
  have : ((w.alloc (.cells (l.map fun a => Value.pointer (some a)).toArray 125)).drew).cell? ⟨w.heap.size, k, none⟩ = (w.alloc (.cells (l.map fun a => Value.pointer (some a)).toArray 125)).cell? ⟨w.heap.size, k, none⟩ := rfl
  rw [this, cell_of_row _ w.heap.size k _ 125 (0, 0) (MapKept.heap_alloc w _).1]
  rw [List.getElem?_toArray, List.getElem?_map, List.getElem?_eq_getElem hk, Option.map_some, List.getD_eq_getElem?_getD, List.getElem?_eq_getElem hk]
  rfl
/-- What a list of pointers is, handed back. -/
def Ptrs (l : List Addr) (w : World) (e : Ending) (w' : World) : Prop := e = .returned (.slice (some ⟨w.heap.size, 0, none⟩) l.length l.length) ∧ PtrAt w' w.heap.size l ∧ Below w.heap.size w w' ∧ w'.heap.size = w.heap.size + 1
set_option maxRecDepth 100000 in
set_option maxHeartbeats 4000000 in
theorem fade29 (z o : Nat) (w : World) : Calls Tryz.prog 29 #[.pointer (some ⟨z, o, none⟩)] w (Ptrs (adr z [o, o + 1, o + 2, o + 3, o + 4]) w) := by
  go_enter Tryz.func29, Tryz.ntmps29
  go_wp2
  go_still_tail 15, (by kernel_rfl)
  change wpList _ _ _ _ _ w.drew
  go_wp2
  go_ret
  exact ⟨rfl, ptr_new w (adr z [o, o + 1, o + 2, o + 3, o + 4])⟩
set_option maxRecDepth 100000 in
set_option maxHeartbeats 4000000 in
theorem packet32 (z o : Nat) (w : World) : Calls Tryz.prog 32 #[.pointer (some ⟨z, o, none⟩)] w (Ptrs (adr z [o, o + 1, o + 2, o + 3]) w) := by
  go_enter Tryz.func32, Tryz.ntmps32
  go_wp2
  go_still_tail 12, (by kernel_rfl)
  change wpList _ _ _ _ _ w.drew
  go_wp2
  go_ret
  exact ⟨rfl, ptr_new w (adr z [o, o + 1, o + 2, o + 3])⟩
set_option maxRecDepth 100000 in
set_option maxHeartbeats 4000000 in
theorem head28_0 (z : Nat) (w : World) : Calls Tryz.prog 28 #[.pointer (some ⟨z, 0, none⟩), .int .i64 0] w (Ptrs (adr z [0, 1, 2, 3, 4, 5, 6, 7, 8]) w) := by
  go_enter Tryz.func28, Tryz.ntmps28
  go_wp2
  go_still_tail 27, (by kernel_rfl)
  change wpList _ _ _ _ _ w.drew
  go_wp2
  go_ret
  exact ⟨rfl, ptr_new w (adr z [0, 1, 2, 3, 4, 5, 6, 7, 8])⟩
set_option maxRecDepth 100000 in
set_option maxHeartbeats 4000000 in
theorem head28_1 (z : Nat) (w : World) : Calls Tryz.prog 28 #[.pointer (some ⟨z, 0, none⟩), .int .i64 1] w (Ptrs (adr z [9, 10, 11]) w) := by
  go_enter Tryz.func28, Tryz.ntmps28
  go_wp2
  go_still_tail 12, (by kernel_rfl)
  change wpList _ _ _ _ _ w.drew
  go_wp2
  go_ret
  exact ⟨rfl, ptr_new w (adr z [9, 10, 11])⟩
set_option maxRecDepth 100000 in
set_option maxHeartbeats 4000000 in
theorem head28_2 (z : Nat) (w : World) : Calls Tryz.prog 28 #[.pointer (some ⟨z, 0, none⟩), .int .i64 2] w (Ptrs (adr z [12, 13, 14]) w) := by
  go_enter Tryz.func28, Tryz.ntmps28
  go_wp2
  go_still_tail 12, (by kernel_rfl)
  change wpList _ _ _ _ _ w.drew
  go_wp2
  go_ret
  exact ⟨rfl, ptr_new w (adr z [12, 13, 14])⟩
set_option maxRecDepth 100000 in
set_option maxHeartbeats 4000000 in
theorem head28_3 (z : Nat) (w : World) : Calls Tryz.prog 28 #[.pointer (some ⟨z, 0, none⟩), .int .i64 3] w (Ptrs (adr z [16, 17]) w) := by
  go_enter Tryz.func28, Tryz.ntmps28
  go_wp2
  go_still_tail 8, (by kernel_rfl)
  change wpList _ _ _ _ _ w.drew
  go_wp2
  go_ret
  exact ⟨rfl, ptr_new w (adr z [16, 17])⟩
set_option maxRecDepth 100000 in
set_option maxHeartbeats 4000000 in
theorem bearer31 (zb ob zk ok : Nat) (w : World) : Calls Tryz.prog 31 #[.pointer (some ⟨zb, ob, none⟩), .pointer (some ⟨zk, ok, none⟩)] w (Ptrs (adr zb [ob, ob + 1, ob + 2, ob + 3, ob + 4, ob + 5, ob + 6, ob + 7, ob + 8, ob + 9, ob + 10] ++ adr zk [ok, ok + 1, ok + 2, ok + 3]) w) := by
  go_enter Tryz.func31, Tryz.ntmps31
  go_wp2
  go_still_tail 45, (by kernel_rfl)
  change wpList _ _ _ _ _ w.drew
  go_wp2
  go_ret
  exact ⟨rfl, ptr_new w (adr zb [ob, ob + 1, ob + 2, ob + 3, ob + 4, ob + 5, ob + 6, ob + 7, ob + 8, ob + 9, ob + 10] ++ adr zk [ok, ok + 1, ok + 2, ok + 3])⟩
set_option maxRecDepth 100000 in
set_option maxHeartbeats 4000000 in
theorem terminal30 (z o : Nat) (w : World) : Calls Tryz.prog 30 #[.pointer (some ⟨z, o, none⟩)] w (Ptrs (adr z [o, o + 1, o + 13, o + 4, o + 5, o + 6, o + 7, o + 8, o + 9, o + 10, o + 11, o + 12]) w) := by
  go_enter Tryz.func30, Tryz.ntmps30
  go_wp2
  go_quiet (fail)
  go_wp2
  go_still_tail 36, (by kernel_rfl)
  change wpList _ _ _ _ _ (w.drewN nq).drew
  go_wp2
  go_ret
  obtain ⟨h1, h2, h3⟩ := ptr_new (w.drewN nq) (adr z [o, o + 1, o + 13, o + 4, o + 5, o + 6, o + 7, o + 8, o + 9, o + 10, o + 11, o + 12])
  exact ⟨rfl, h1, ⟨h2.os, h2.tape, h2.output, h2.size, h2.block⟩, h3⟩
end Go.Proofs.YtgflfdnajchjaaaGreatDoor
