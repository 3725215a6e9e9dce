import Derived.Test.YtgflfdnajchjaaaGreatDoorPY
import Derived.Test.YtgflfdnajchjaaaGreatDoorRA
import Derived.Test.YtgflfdnajchjaaaGreatDoorRB
import Derived.Test.YtgflfdnajchjaaaGreatDoorRC
import Derived.Test.YtgflfdnajchjaaaGreatDoorRE
import Derived.Test.YtgflfdnajchjaaaGreatDoorRF
import Derived.Test.YtgflfdnajchjaaaGreatDoorRG
import Derived.Test.YtgflfdnajchjaaaGreatDoorPT
set_option linter.unusedVariables false
set_option linter.unusedSimpArgs false
namespace Go.Proofs.YtgflfdnajchjaaaGreatDoor
open Go.Lib (hid)
open Go.RowKit
section
open Go.RowKit Go.Sort
open Tm
theorem part_lt {st : Nat} {D : DocS} (h : StOk st D) : partOf st = 0 ∨ partOf st = 1 ∨ partOf st = 2 ∨ partOf st = 3 ∨ partOf st = 4 ∨ partOf st = 5 ∨ partOf st = 6 := by
 unfold partOf;split
 · omega
 · split
   · omega
   · split <;> omega
theorem part_five {st : Nat} {D : DocS} (h : StOk st D) (hp : partOf st = 5) : D.terms ≠ [] := by
 have h4 := h.2.2.2.1;apply h4
 unfold partOf at hp;split at hp
 · omega
 · split at hp
   · omega
   · split at hp <;> omega
theorem read39 (HT : Text24) (L : List UInt8) (hs : (bs L).size ≤ 900000) (w : World) (B z st : Nat) (c : Cf) (X : Nat → Ch.Fd) (T : Nat → Te) (lv : Value) (n : Nat) (Q : Nat → Tr) (D : DocR w B z ((partOf st : Nat) : Int) c X T lv n Q) (hBw : B ≤ w.heap.size) (hok : StOk st (docOf c X T n Q)) (m : Nat) (HM : DocM (docOf c X T n Q) m) (hm : m < 900000) :
 Calls Tryz.prog 39 #[.pointer (some ⟨z, 0, none⟩), .string (bs L)] w (RdPost w B z (stepR (partOf st) (docOf c X T n Q) L)) := by
 have hL : L.length ≤ 1000000 := by rw [bs_size] at hs; omega
 have h5 := part_five hok;have hz : w.cell? ⟨z, 0, none⟩ = some (.int .i64 ((partOf st : Nat) : Int)) := cell_box D.hz rfl;have hwd : (spl 32 (bs L).data.toList).headD [] = (spl 32 L).headD [] := by rw [bs_toList]
 rcases part_lt hok with hp | hp | hp | hp | hp | hp | hp
 all_goals rw [hp] at D hz ⊢
 · skip
   by_cases hw0 : (spl 32 L).headD [] = wNetwork
   · have hr : refNew 0 (docOf c X T n Q) L = some (1, { docOf c X T n Q with h0 := refNums L 9 }) := by
      unfold refNew;rw [if_pos ⟨rfl, hw0⟩]
     rw [stepR_some hr, hw0];exact read_network HT L hs w B z c X T lv n Q D hBw hw0 _ rfl (m + 1) (docM_new hL HM hr) (by omega) _ rfl
   · skip
     have hr : refNew 0 (docOf c X T n Q) L = none := by
      unfold refNew;rw [if_neg (fun h => hw0 h.2)];rw [if_neg (fun h => absurd h.1 (by decide))];rw [if_neg (fun h => absurd h.1 (by decide))];rw [if_neg (fun h => absurd h.1 (by decide))];rw [if_neg (fun h => absurd h.1 (by decide))];rw [if_neg (fun h => absurd h.1 (by decide))];rw [if_neg (fun h => absurd h.1 (by decide))];rw [if_neg (fun h => absurd h.1 (by decide))]
     rw [stepR_none hr];exact (readN0 (bs L) hs w z hz _ hwd (beq_false_of_ne hw0)).mono fun e w' h => ⟨h.1, h.2.mono hBw⟩
 · skip
   by_cases hw0 : (spl 32 L).headD [] = wPatience
   · have hr : refNew 1 (docOf c X T n Q) L = some (2, { docOf c X T n Q with h1 := refNums L 3 }) := by
      unfold refNew;rw [if_neg (fun h => absurd (hw0.symm.trans h.2) (by decide))];rw [if_pos ⟨rfl, hw0⟩]
     rw [stepR_some hr, hw0];exact read_patience HT L hs w B z c X T lv n Q D hBw hw0 _ rfl (m + 1) (docM_new hL HM hr) (by omega) _ rfl
   · skip
     have hr : refNew 1 (docOf c X T n Q) L = none := by
      unfold refNew;rw [if_neg (fun h => absurd h.1 (by decide))];rw [if_neg (fun h => hw0 h.2)];rw [if_neg (fun h => absurd h.1 (by decide))];rw [if_neg (fun h => absurd h.1 (by decide))];rw [if_neg (fun h => absurd h.1 (by decide))];rw [if_neg (fun h => absurd h.1 (by decide))];rw [if_neg (fun h => absurd h.1 (by decide))];rw [if_neg (fun h => absurd h.1 (by decide))]
     rw [stepR_none hr];exact (readN1 (bs L) hs w z hz _ hwd (beq_false_of_ne hw0)).mono fun e w' h => ⟨h.1, h.2.mono hBw⟩
 · skip
   by_cases hw0 : (spl 32 L).headD [] = wRule
   · have hr : refNew 2 (docOf c X T n Q) L = some (3, { docOf c X T n Q with h2 := refNums L 3 }) := by
      unfold refNew;rw [if_neg (fun h => absurd (hw0.symm.trans h.2) (by decide))];rw [if_neg (fun h => absurd (hw0.symm.trans h.2) (by decide))];rw [if_pos ⟨rfl, hw0⟩]
     rw [stepR_some hr, hw0];exact read_rule HT L hs w B z c X T lv n Q D hBw hw0 _ rfl (m + 1) (docM_new hL HM hr) (by omega) _ rfl
   · skip
     have hr : refNew 2 (docOf c X T n Q) L = none := by
      unfold refNew;rw [if_neg (fun h => absurd h.1 (by decide))];rw [if_neg (fun h => absurd h.1 (by decide))];rw [if_neg (fun h => hw0 h.2)];rw [if_neg (fun h => absurd h.1 (by decide))];rw [if_neg (fun h => absurd h.1 (by decide))];rw [if_neg (fun h => absurd h.1 (by decide))];rw [if_neg (fun h => absurd h.1 (by decide))];rw [if_neg (fun h => absurd h.1 (by decide))]
     rw [stepR_none hr];exact (readN2 (bs L) hs w z hz _ hwd (beq_false_of_ne hw0)).mono fun e w' h => ⟨h.1, h.2.mono hBw⟩
 · skip
   by_cases hw0 : (spl 32 L).headD [] = wOuter
   · have hr : refNew 3 (docOf c X T n Q) L = some (4, { docOf c X T n Q with h3 := refNums L 2 }) := by
      unfold refNew;rw [if_neg (fun h => absurd (hw0.symm.trans h.2) (by decide))];rw [if_neg (fun h => absurd (hw0.symm.trans h.2) (by decide))];rw [if_neg (fun h => absurd (hw0.symm.trans h.2) (by decide))];rw [if_pos ⟨rfl, hw0⟩]
     rw [stepR_some hr, hw0];exact read_outer HT L hs w B z c X T lv n Q D hBw hw0 _ rfl (m + 1) (docM_new hL HM hr) (by omega) _ rfl
   · skip
     have hr : refNew 3 (docOf c X T n Q) L = none := by
      unfold refNew;rw [if_neg (fun h => absurd h.1 (by decide))];rw [if_neg (fun h => absurd h.1 (by decide))];rw [if_neg (fun h => absurd h.1 (by decide))];rw [if_neg (fun h => hw0 h.2)];rw [if_neg (fun h => absurd h.1 (by decide))];rw [if_neg (fun h => absurd h.1 (by decide))];rw [if_neg (fun h => absurd h.1 (by decide))];rw [if_neg (fun h => absurd h.1 (by decide))]
     rw [stepR_none hr];exact (readN3 (bs L) hs w z hz _ hwd (beq_false_of_ne hw0)).mono fun e w' h => ⟨h.1, h.2.mono hBw⟩
 · skip
   by_cases hw0 : (spl 32 L).headD [] = wFade
   · have hr : refNew 4 (docOf c X T n Q) L = some (4, { docOf c X T n Q with fades := (docOf c X T n Q).fades ++ [refNums L 5] }) := by
      unfold refNew;rw [if_neg (fun h => absurd (hw0.symm.trans h.2) (by decide))];rw [if_neg (fun h => absurd (hw0.symm.trans h.2) (by decide))];rw [if_neg (fun h => absurd (hw0.symm.trans h.2) (by decide))];rw [if_neg (fun h => absurd (hw0.symm.trans h.2) (by decide))];rw [if_pos ⟨rfl, hw0⟩]
     rw [stepR_some hr, hw0];exact read_fade HT L hs w B z c X T lv n Q D hBw hw0 _ rfl (m + 1) (docM_new hL HM hr) (by omega) _ rfl
   · skip
     by_cases hw1 : (spl 32 L).headD [] = wTerminal
     · have hr : refNew 4 (docOf c X T n Q) L = some (5, { docOf c X T n Q with terms := (docOf c X T n Q).terms ++ [⟨refNums L 12, []⟩] }) := by
        unfold refNew;rw [if_neg (fun h => absurd (hw1.symm.trans h.2) (by decide))];rw [if_neg (fun h => absurd (hw1.symm.trans h.2) (by decide))];rw [if_neg (fun h => absurd (hw1.symm.trans h.2) (by decide))];rw [if_neg (fun h => absurd (hw1.symm.trans h.2) (by decide))];rw [if_neg (fun h => absurd (hw1.symm.trans h.2) (by decide))];rw [if_pos ⟨by decide, hw1⟩]
       rw [stepR_some hr, hw1];exact read_terminalS 4 (by decide) HT L hs w B z c X T lv n Q D hBw hw1 _ rfl (m + 1) (docM_new hL HM hr) (by omega) _ rfl
     · skip
       by_cases hw2 : (spl 32 L).headD [] = wPacket
       · have hr : refNew 4 (docOf c X T n Q) L = some (6, { docOf c X T n Q with pkts := (docOf c X T n Q).pkts ++ [(refNums L 4, hexR ((spl 32 L).getLastD []))] }) := by
          unfold refNew;rw [if_neg (fun h => absurd (hw2.symm.trans h.2) (by decide))];rw [if_neg (fun h => absurd (hw2.symm.trans h.2) (by decide))];rw [if_neg (fun h => absurd (hw2.symm.trans h.2) (by decide))];rw [if_neg (fun h => absurd (hw2.symm.trans h.2) (by decide))];rw [if_neg (fun h => absurd (hw2.symm.trans h.2) (by decide))];rw [if_neg (fun h => absurd (hw2.symm.trans h.2) (by decide))];rw [if_neg (fun h => absurd (hw2.symm.trans h.2) (by decide))];rw [if_pos ⟨by decide, hw2⟩]
         rw [stepR_some hr, hw2];exact read_packetS 4 (by decide) HT L hs w B z c X T lv n Q D hBw hw2 _ rfl (m + 1) (docM_new hL HM hr) (by omega) _ rfl
       · skip
         have hr : refNew 4 (docOf c X T n Q) L = none := by
          unfold refNew;rw [if_neg (fun h => absurd h.1 (by decide))];rw [if_neg (fun h => absurd h.1 (by decide))];rw [if_neg (fun h => absurd h.1 (by decide))];rw [if_neg (fun h => absurd h.1 (by decide))];rw [if_neg (fun h => hw0 h.2)];rw [if_neg (fun h => hw1 h.2)];rw [if_neg (fun h => absurd h.1 (by decide))];rw [if_neg (fun h => hw2 h.2)]
         rw [stepR_none hr];exact (readN4 (bs L) hs w z hz _ hwd (beq_false_of_ne hw0) (beq_false_of_ne hw1) (beq_false_of_ne hw2)).mono fun e w' h => ⟨h.1, h.2.mono hBw⟩
 · skip
   by_cases hw0 : (spl 32 L).headD [] = wTerminal
   · have hr : refNew 5 (docOf c X T n Q) L = some (5, { docOf c X T n Q with terms := (docOf c X T n Q).terms ++ [⟨refNums L 12, []⟩] }) := by
      unfold refNew;rw [if_neg (fun h => absurd (hw0.symm.trans h.2) (by decide))];rw [if_neg (fun h => absurd (hw0.symm.trans h.2) (by decide))];rw [if_neg (fun h => absurd (hw0.symm.trans h.2) (by decide))];rw [if_neg (fun h => absurd (hw0.symm.trans h.2) (by decide))];rw [if_neg (fun h => absurd (hw0.symm.trans h.2) (by decide))];rw [if_pos ⟨by decide, hw0⟩]
     rw [stepR_some hr, hw0];exact read_terminalS 5 (by decide) HT L hs w B z c X T lv n Q D hBw hw0 _ rfl (m + 1) (docM_new hL HM hr) (by omega) _ rfl
   · skip
     by_cases hw1 : (spl 32 L).headD [] = wBearer
     · have hr : refNew 5 (docOf c X T n Q) L = some (5, putB (docOf c X T n Q) (refNums L 15)) := by
        unfold refNew;rw [if_neg (fun h => absurd (hw1.symm.trans h.2) (by decide))];rw [if_neg (fun h => absurd (hw1.symm.trans h.2) (by decide))];rw [if_neg (fun h => absurd (hw1.symm.trans h.2) (by decide))];rw [if_neg (fun h => absurd (hw1.symm.trans h.2) (by decide))];rw [if_neg (fun h => absurd (hw1.symm.trans h.2) (by decide))];rw [if_neg (fun h => absurd (hw1.symm.trans h.2) (by decide))];rw [if_pos ⟨rfl, hw1⟩]
       rw [stepR_some hr, hw1];have ht0 : 0 < c.tn := Nat.pos_of_ne_zero fun h => h5 hp (by show (List.range c.tn).map _ = []; rw [h]; rfl)
       exact read_bearer HT L hs w B z c X T lv n Q D hBw hw1 ht0 _ rfl (m + 1) (docM_new hL HM hr) (by omega) _ rfl
     · skip
       by_cases hw2 : (spl 32 L).headD [] = wPacket
       · have hr : refNew 5 (docOf c X T n Q) L = some (6, { docOf c X T n Q with pkts := (docOf c X T n Q).pkts ++ [(refNums L 4, hexR ((spl 32 L).getLastD []))] }) := by
          unfold refNew;rw [if_neg (fun h => absurd (hw2.symm.trans h.2) (by decide))];rw [if_neg (fun h => absurd (hw2.symm.trans h.2) (by decide))];rw [if_neg (fun h => absurd (hw2.symm.trans h.2) (by decide))];rw [if_neg (fun h => absurd (hw2.symm.trans h.2) (by decide))];rw [if_neg (fun h => absurd (hw2.symm.trans h.2) (by decide))];rw [if_neg (fun h => absurd (hw2.symm.trans h.2) (by decide))];rw [if_neg (fun h => absurd (hw2.symm.trans h.2) (by decide))];rw [if_pos ⟨by decide, hw2⟩]
         rw [stepR_some hr, hw2];exact read_packetS 5 (by decide) HT L hs w B z c X T lv n Q D hBw hw2 _ rfl (m + 1) (docM_new hL HM hr) (by omega) _ rfl
       · skip
         have hr : refNew 5 (docOf c X T n Q) L = none := by
          unfold refNew;rw [if_neg (fun h => absurd h.1 (by decide))];rw [if_neg (fun h => absurd h.1 (by decide))];rw [if_neg (fun h => absurd h.1 (by decide))];rw [if_neg (fun h => absurd h.1 (by decide))];rw [if_neg (fun h => absurd h.1 (by decide))];rw [if_neg (fun h => hw0 h.2)];rw [if_neg (fun h => hw1 h.2)];rw [if_neg (fun h => hw2 h.2)]
         rw [stepR_none hr];exact (readN5 (bs L) hs w z hz _ hwd (beq_false_of_ne hw0) (beq_false_of_ne hw1) (beq_false_of_ne hw2)).mono fun e w' h => ⟨h.1, h.2.mono hBw⟩
 · skip
   by_cases hw0 : (spl 32 L).headD [] = wPacket
   · have hr : refNew 6 (docOf c X T n Q) L = some (6, { docOf c X T n Q with pkts := (docOf c X T n Q).pkts ++ [(refNums L 4, hexR ((spl 32 L).getLastD []))] }) := by
      unfold refNew;rw [if_neg (fun h => absurd (hw0.symm.trans h.2) (by decide))];rw [if_neg (fun h => absurd (hw0.symm.trans h.2) (by decide))];rw [if_neg (fun h => absurd (hw0.symm.trans h.2) (by decide))];rw [if_neg (fun h => absurd (hw0.symm.trans h.2) (by decide))];rw [if_neg (fun h => absurd (hw0.symm.trans h.2) (by decide))];rw [if_neg (fun h => absurd (hw0.symm.trans h.2) (by decide))];rw [if_neg (fun h => absurd (hw0.symm.trans h.2) (by decide))];rw [if_pos ⟨by decide, hw0⟩]
     rw [stepR_some hr, hw0];exact read_packetS 6 (by decide) HT L hs w B z c X T lv n Q D hBw hw0 _ rfl (m + 1) (docM_new hL HM hr) (by omega) _ rfl
   · skip
     have hr : refNew 6 (docOf c X T n Q) L = none := by
      unfold refNew;rw [if_neg (fun h => absurd h.1 (by decide))];rw [if_neg (fun h => absurd h.1 (by decide))];rw [if_neg (fun h => absurd h.1 (by decide))];rw [if_neg (fun h => absurd h.1 (by decide))];rw [if_neg (fun h => absurd h.1 (by decide))];rw [if_neg (fun h => absurd h.1 (by decide))];rw [if_neg (fun h => absurd h.1 (by decide))];rw [if_neg (fun h => hw0 h.2)]
     rw [stepR_none hr];exact (readN6 (bs L) hs w z hz _ hwd (beq_false_of_ne hw0)).mono fun e w' h => ⟨h.1, h.2.mono hBw⟩
end
section
open Go.RowKit Go.Sort
open Tm
attribute [local go_sem] gcell bs_tl
def F16 (z : Nat) (c : Cf) (lv : Value) (i : Nat) (v : Value) : Prop := match i with
 | 0 => v = .pointer (some ⟨z, 0, none⟩)
 | 1 => v = .pointer (some ⟨z, 0, none⟩)
 | 2 => v = .pointer (some ⟨z, 1, none⟩)
 | 3 => v = .agg (cfs c).toArray
 | 4 => v = .pointer (some ⟨z, 0, none⟩)
 | 5 => v = .pointer (some ⟨z, 0, none⟩)
 | 6 => v = .pointer (some ⟨z, 21, none⟩)
 | 7 => v = lv
 | _ => True
structure St16 (W : World) (S0 z : Nat) (c : Cf) (lv : Value) (L : Nat → Bool) (vs : Nat → Value) (u : World) : Prop where
 b : Below S0 W u
 k : ∀ i, i ≠ S0 → i < W.heap.size → u.heap[i]? = W.heap[i]?
 f : ∀ i, i < 9 → L i = true → F16 z c lv i (vs i)
 r0 : L 8 = false → u.heap[S0]? = some (.cells (cfs cfZ).toArray 37 (0, 0))
 r1 : L 8 = true → u.rangeAt S0 0 (cfs c)
section
variable {W : World} {S0 z : Nat} {c : Cf} {lv : Value} {L : Nat → Bool} {vs : Nat → Value} {u : World}
theorem St16.congr {L' : Nat → Bool} {vs' : Nat → Value} (h1 : ∀ i, 0 ≤ i → i < 9 → L i = L' i) (h2 : ∀ i, 0 ≤ i → i < 9 → L i = true → vs i = vs' i) (S : St16 W S0 z c lv L vs u) : St16 W S0 z c lv L' vs' u :=
 ⟨S.b, S.k, fun i hi hl => by
  have hl2 : L i = true := (h1 i (Nat.zero_le _) hi).trans hl;rw [← h2 i (Nat.zero_le _) hi hl2];exact S.f i hi hl2, fun h => S.r0 ((h1 8 (by omega) (by omega)).trans h), fun h => S.r1 ((h1 8 (by omega) (by omega)).trans h)⟩
theorem St16.step (S : St16 W S0 z c lv L vs u) {i : Nat} (hi : i ≠ 8) {v : Value} (h : F16 z c lv i v) : St16 W S0 z c lv (fun j => L j || j == i) (fun j => if j = i then v else vs j) u := by
 have e4 : (8 == i) = false := beq_false_of_ne (Ne.symm hi);refine ⟨S.b, S.k, fun j hj hl => ?_, fun h4 => S.r0 ?_, fun h4 => S.r1 ?_⟩
 · by_cases e : j = i
   · subst e; rw [if_pos rfl]; exact h
   · rw [if_neg e];refine S.f j hj ?_
     have : (j == i) = false := beq_false_of_ne e;have hl3 : (L j || j == i) = true := hl;rwa [this, Bool.or_false] at hl3
 · have h5 : (L 8 || 8 == i) = false := h4;rwa [e4, Bool.or_false] at h5
 · have h5 : (L 8 || 8 == i) = true := h4;rwa [e4, Bool.or_false] at h5
theorem St16.store (S : St16 W S0 z c lv L vs u) (hl : L 8 = false) {v : Value} : St16 W S0 z c lv (fun j => L j || j == 8) (fun j => if j = 8 then v else vs j) (u.setCells S0 0 (cfs c)) := by
 refine ⟨S.b.trans (setCells_base (Nat.le_refl _) _ _ _), fun i hi hi2 => (heap_cells_other hi _ _).trans (S.k i hi hi2), fun j hj hl2 => ?_, fun h4 => ?_, fun h4 => box_range (S.r0 hl) (cfs c) rfl⟩
 · by_cases e : j = 8
   · subst e; exact trivial
   · rw [if_neg e];refine S.f j hj ?_
     have : (j == 8) = false := beq_false_of_ne e;have hl3 : (L j || j == 8) = true := hl2;rwa [this, Bool.or_false] at hl3
 · have h5 : (L 8 || true) = false := h4;rw [Bool.or_true] at h5
   cases h5
end
theorem post_goodR {w W : World} {S0 z : Nat} {p : Int} {c : Cf} {X : Nat → Ch.Fd} {T : Nat → Te} {a : Option Addr} {n cc : Nat} {Q : Nat → Tr} {tmps : Array Value} {vs : Nat → Value} {u : World} (S : St16 W S0 z c (.slice a n cc) (fun _ => true) vs u)
 (hpv : tmps.getD 2 undef = .pointer (some ⟨S0, 0, none⟩)) (h3 : tmps.getD 3 undef = .slice a n cc) (h4 : tmps.getD 4 undef = .int .i64 0) (h5 : tmps.getD 5 undef = .int .i64 0) (D : DocR W z z p c X T (.slice a n cc) n Q) (hz : S0 < z) (hb : Below S0 w W) (hS : w.heap.size = S0) :
 bodyPost Tryz.prog Tryz.f19 (ParsePost w (0, 0, some (docOf c X T n Q))) .ret ⟨tmps, []⟩ u := by
 have D2 : DocR u z z p c X T (.slice a n cc) n Q := D.out fun i h1 h2 => S.k i (by omega) h2
 obtain ⟨a', cc', e, h6, h7, h8⟩ := D2.trR;injection e with e1 e2 e3
 subst e1 e3;refine bodyPost_ret (results_range4 (p := 2) (t1 := 3) (t2 := 4) (t3 := 5) Tryz.results19 tmps _ S0 (cfs c) _ hpv (S.r1 rfl) Tryz.underlying37 rfl (by kernel_rfl)) rfl ⟨c, X, T, a, n, cc, Q, ?_, D2.cfIn, h8, h7, rfl, D2.h15, D2.eq, ?_⟩
 · rw [h3, h4, h5]; rfl
 · show Below w.heap.size w _
   rw [hS];exact hb.trans S.b
theorem post_badR {w W : World} {S0 ln : Nat} {x er : Int} {tmps : Array Value} (hpv : tmps.getD 2 undef = .pointer (some ⟨S0, 0, none⟩)) (h3 : tmps.getD 3 undef = .slice none 0 0) (h4 : tmps.getD 4 undef = .int .i64 x) (hx : x = (ln : Int)) (h5 : tmps.getD 5 undef = .int .i64 er)
 (hr : W.heap[S0]? = some (.cells (cfs cfZ).toArray 37 (0, 0))) (hb : Below S0 w W) (hS : w.heap.size = S0) : bodyPost Tryz.prog Tryz.f19 (ParsePost w (ln, er, none)) .ret ⟨tmps, []⟩ (W.setCells S0 0 (cfs cfZ)) := by
 subst hx;refine bodyPost_ret (results_range4 (p := 2) (t1 := 3) (t2 := 4) (t3 := 5) Tryz.results19 tmps _ S0 (cfs cfZ) _ hpv (box_range hr (cfs cfZ) rfl) Tryz.underlying37 rfl (by kernel_rfl)) rfl ⟨?_, ?_⟩
 · rw [h3, h4, h5]; rfl
 · show Below w.heap.size w _
   rw [hS];exact hb.trans (setCells_base (Nat.le_refl _) _ _ _)
structure RSt (w : World) (z : Nat) (L : List (List UInt8)) (k st : Nat) (c : Cf) (X : Nat → Ch.Fd) (T : Nat → Te) (lv : Value) (n : Nat) (Q : Nat → Tr) : Prop where
 d : DocR w z z ((partOf st : Nat) : Int) c X T lv n Q
 run : runP 0 0 doc0 L = runP k st (docOf c X T n Q) (L.drop k)
 ok : StOk st (docOf c X T n Q)
 s1 : st < 4 → st = k
 s2 : 4 ≤ k → 4 ≤ st
 m : DocM (docOf c X T n Q) k
theorem toPart_none {o : Option (Nat × DocS)} (h : toPart o = none) : o = none := by
 cases o with
 | none => rfl
 | some x => cases h
theorem toPart_some {o : Option (Nat × DocS)} {p' : Nat} {D' : DocS} (h : toPart o = some (p', D')) : ∃ st', o = some (st', D') ∧ partOf st' = p' := by
 cases o with
 | none => cases h
 | some x =>
   injection h with h
   injection h with h1 h2
   exact ⟨x.1, by rw [← h2], h1⟩
section
variable {w w' : World} {z : Nat} {L : List (List UInt8)} {k st p' : Nat} {c c' : Cf} {X X' : Nat → Ch.Fd} {T T' : Nat → Te} {lv lv' : Value} {n n' : Nat} {Q Q' : Nat → Tr}
theorem RSt.next (S : RSt w z L k st c X T lv n Q) (hk : k < L.length) (hl : (L.getD k []).length ≤ 1000000) (h : stepR (partOf st) (docOf c X T n Q) (L.getD k []) = some (p', docOf c' X' T' n' Q')) (hd : DocR w' z z (p' : Int) c' X' T' lv' n' Q') : ∃ st', RSt w' z L (k + 1) st' c' X' T' lv' n' Q' ∧ (st < 4 → st' = st + 1) := by
 obtain ⟨st', e1, e2⟩ := toPart_some ((head_cases (L.getD k []) st _ S.ok).trans h);obtain ⟨g1, g2, g3⟩ := stepP_ok S.ok e1
 have e3 : ∃ q D2, refNew (partOf st) (docOf c X T n Q) (L.getD k []) = some (q, D2) ∧ D2 = docOf c' X' T' n' Q' := by
  unfold stepR at h;split at h
  · cases h
  · rename_i q D2 hq
    split at h
    · injection h with h
      injection h with h1 h2
      exact ⟨q, D2, hq, h2⟩
    · cases h
 obtain ⟨q, D2, hq, rfl⟩ := e3
 have h4 : 4 ≤ k + 1 → 4 ≤ st' := fun h4 => by
  by_cases h5 : st < 4
  · have := g2 h5; have := S.s1 h5; omega
  · exact g3 (by omega)
 refine ⟨st', ⟨by rw [e2]; exact hd, S.run.trans (runP_some hk e1), g1, fun h4 => ?_, h4, docM_new hl S.m hq⟩, g2⟩
 by_cases h5 : st < 4
 · have := g2 h5; have := S.s1 h5; omega
 · have := g3 (by omega); omega
theorem RSt.fail (S : RSt w z L k st c X T lv n Q) (hk : k < L.length) (h : stepR (partOf st) (docOf c X T n Q) (L.getD k []) = none) : runP 0 0 doc0 L = .bad (k + 1) := S.run.trans (runP_none hk (toPart_none ((head_cases (L.getD k []) st _ S.ok).trans h)))
end
theorem rst_new {w : World} {z : Nat} (L : List (List UInt8)) (hz : w.heap[z]? = some (.cells (docRs 0 cfZ (.slice none 0 0)) 105 (0, 0))) : RSt w z L 0 0 cfZ (fun _ => ⟨0, 0, 0, 0, 0⟩) (fun _ => teN []) (.slice none 0 0) 0 (fun _ => ⟨0, 0, 0, 0, none, 0, 0, []⟩) :=
 ⟨⟨hz, Nat.le_refl _, own_nilK _ _ _ _ _, own_nilK _ _ _ _ _, fun k h => absurd h (Nat.not_lt_zero k), fun k h => absurd h (Nat.not_lt_zero k), fun j k h => absurd h (Nat.not_lt_zero j), fun j k h => absurd h (Nat.not_lt_zero j), fun k h => absurd h (Nat.not_lt_zero k), own_nilK _ _ _ _ _, fun k h => absurd h (Nat.not_lt_zero k), rfl⟩, rfl, stOk0, fun _ => rfl, fun h => absurd h (by omega), docM0⟩
set_option maxRecDepth 100000 in
set_option maxHeartbeats 16000000 in
theorem parse19 (HT : Text24) (s : ByteArray) (hs : s.size ≤ 800000) (w : World) :
 Calls Tryz.prog 19 #[.string s] w (ParsePost w (parseP chkD 66 s.data.toList)) := by
 have hN := spl_count 10 s.data.toList;have KS := hid (fun (W : World) => cut38 s (by omega) 10 W);have hp : (spl 10 s.data.toList).length ≠ 0 := fun h => spl_ne 10 _ (List.length_eq_zero_iff.1 h)
 have HPB := hid (fun k => parseP_bad (s := s.data.toList) (k := k));have HPG := hid (fun st D => parseP_good (s := s.data.toList) (st := st) (D := D));generalize parseP chkD 66 s.data.toList = R at *;have hsz : s.data.toList.length = s.size := Array.length_toList;have HL := hid (spl_len 10 s.data.toList);rw [hsz] at HL hN;clear hsz;generalize spl 10 s.data.toList = L at *;obtain ⟨nl, hnl⟩ : ∃ nl, L.length = nl + 1 := ⟨L.length - 1, by omega⟩
 have HNL := hid hnl;have HHT := hid HT;have hnb : nl ≤ 800000 := by omega
 clear hnl hp hN HT;go_enter Tryz.func19, Tryz.ntmps19;go_wp2_with (go_at_call 38; refine (KS.out _).mono ?_; rintro e w1 ⟨v, rfl, ho1, hb1⟩; obtain ⟨a1, c1, b1, rfl, hc1, hp1, hs1⟩ := ho1.slice; obtain ⟨e9, hge1, hlt1⟩ := hp1 (by have := HNL.out; omega); subst e9; refine Hid.out ?_);refine hid ?_
 rw [HNL.out];have hr1 : w1.heap[w.heap.size]? = some (.cells (cfs cfZ).toArray 37 (0, 0)) := (hb1.block _ (by simp)).trans (MapKept.heap_alloc w _).1;have hb1e := bthen ((Below.refl w.heap.size w).alloc (Nat.le_refl _) (.cells (cfs cfZ).toArray 37)) hb1 (by simp);have HB1 := hid hb1e;have HR1 := hid hr1;have HS1 := hid hs1;have HZ1 := hid (show w.heap.size < w1.heap.size ∧ b1 < w1.heap.size from ⟨heap_lt hr1, hlt1⟩);clear hb1e hs1 hb1 hr1 hge1 hlt1 hp1 hc1 ho1 KS;go_upto_region 3 with fail
 have hz81 : (w1.alloc (.cells #[.int .i64 0, .int .i64 0, .int .i64 0, .int .i64 0, .int .i64 0, .int .i64 0, .int .i64 0, .int .i64 0, .int .i64 0, .int .i64 0, .int .i64 0, .int .i64 0, .int .i64 0, .int .i64 0, .int .i64 0, .int .i64 0, .int .i64 0, .int .i64 0, .int .i64 0, .slice none 0 0, .slice none 0 0, .slice none 0 0] 105)).heap[w1.heap.size]? = some (.cells (docRs 0 cfZ (.slice none 0 0)) 105 (0, 0)) := (MapKept.heap_alloc w1 _).1;have hb2 : Below w1.heap.size w1 (w1.alloc (.cells #[.int .i64 0, .int .i64 0, .int .i64 0, .int .i64 0, .int .i64 0, .int .i64 0, .int .i64 0, .int .i64 0, .int .i64 0, .int .i64 0, .int .i64 0, .int .i64 0, .int .i64 0, .int .i64 0, .int .i64 0, .int .i64 0, .int .i64 0, .int .i64 0, .int .i64 0, .slice none 0 0, .slice none 0 0, .slice none 0 0] 105)) := (bR).alloc (Nat.le_refl _) _;generalize w1.alloc (.cells #[.int .i64 0, .int .i64 0, .int .i64 0, .int .i64 0, .int .i64 0, .int .i64 0, .int .i64 0, .int .i64 0, .int .i64 0, .int .i64 0, .int .i64 0, .int .i64 0, .int .i64 0, .int .i64 0, .int .i64 0, .int .i64 0, .int .i64 0, .int .i64 0, .int .i64 0, .slice none 0 0, .slice none 0 0, .slice none 0 0] 105) = w2 at *;have HR2 := hid ((hb2.block _ (heap_lt HR1.out)).trans HR1.out);have HS2 := hid (HS1.out.mono hb2);have HB2 := hid (bthen' HB1.out hb2);have HP2 := hid (rst_new L.dropLast hz81);have HZ2 := hid (show w.heap.size < w1.heap.size ∧ b1 < w1.heap.size ∧ w1.heap.size < w2.heap.size from ⟨HZ1.out.1, HZ1.out.2, heap_lt hz81⟩);clear hz81 hb2 HR1 HS1 HB1 HZ1;generalize w1.heap.size = z at *;generalize hS : w.heap.size = S0 at *;have HS0 := hid hS;clear hS;generalize hpv : Value.pointer (some ⟨S0, 0, none⟩) = pv;have HPV := hid hpv.symm;clear hpv;go_wp2
 go_loopw [8] (fun i wr => ∃ (k st : Nat) (c : Cf) (X : Nat → Ch.Fd) (T : Nat → Te) (lv : Value) (n : Nat) (Q : Nat → Tr), k ≤ nl ∧ i = .int .i64 k ∧ Below z w2 wr ∧ RSt wr z L.dropLast k st c X T lv n Q ∧ (k < 4 → st = k)) (fun i _ => nl - (intOf i).toNat)
 case atStart => exact ⟨0, 0, _, _, _, _, _, _, Nat.zero_le _, rfl, bR, HP2.out, fun _ => rfl⟩
 case round =>
  obtain ⟨k, st, c, X, T, lv, n, Q, hk, rfl, hbr, hps, h34⟩ := hrel;have HBr := hid hbr;have HPr := hid hps;clear hbr hps HP2;have HRX := hid ((HBr.out.block S0 (by have := HZ2.out.1; omega)).trans HR2.out);have HBW := hid (show Below S0 w wr from HB2.out.trans (HBr.out.mono (by have := HZ2.out.1; omega)))
  have HSt := hid (fun q (hq : q < L.length) => (show wr.cell? ⟨b1, q, none⟩ = some (.string (bs (L.getD q []))) from by
   have h1 := HS2.out q hq;rw [Nat.zero_add] at h1;exact (HBr.out.cell (p := ⟨b1, q, none⟩) (show b1 < z from HZ2.out.2.1)).trans h1))
  by_cases hlt : k < nl
  · have HN := hid (show k < L.dropLast.length by rw [List.length_dropLast, HNL.out]; omega)
    have eL : L.dropLast.getD k [] = L.getD k [] := by
     rw [List.getD_eq_getElem?_getD, List.getD_eq_getElem?_getD, List.getElem?_dropLast, if_pos (by rw [HNL.out]; omega)]
    have hmem : L.getD k [] ∈ L := by
     rw [List.getD_eq_getElem?_getD, List.getElem?_eq_getElem (by rw [HNL.out]; omega), Option.getD_some];exact List.getElem_mem _
    have hc := HSt.out k (by rw [HNL.out]; omega);have hl1 := HL.out _ hmem;have hln : (bs (L.getD k [])).size ≤ 900000 := by rw [bs_size]; omega
    have HNX := hid (fun (w' : World) (p' : Nat) (c' : Cf) (X' : Nat → Ch.Fd) (T' : Nat → Te) (lv' : Value) (n' : Nat) (Q' : Nat → Tr) hl h hd => HPr.out.next (w' := w') (p' := p') (c' := c') (X' := X') (T' := T') (lv' := lv') (n' := n') (Q' := Q') HN.out hl h hd);have HFA := hid (fun h => HPB.out _ (HPr.out.fail HN.out h));rw [eL] at HNX HFA;have KA := read39 HHT.out (L.getD k []) hln wr z z st c X T lv n Q HPr.out.d (Nat.le_of_lt (heap_lt HPr.out.d.hz)) HPr.out.ok k HPr.out.m (by omega);have HLN := hid (show (L.getD k []).length ≤ 1000000 by omega);have KA := hid KA;clear hmem eL hln HN hl1 HSt;generalize stepR (partOf st) (docOf c X T n Q) (L.getD k []) = o at *;generalize L.getD k [] = ln at *
    cases o with
    | none =>
      have e := HFA.out rfl;subst e;clear HFA HPG HPB HNX;have hrx := HRX.out;go_wp2_with (first | (go_at_call 39; refine KA.out.mono ?_; rintro e w4 ⟨rfl, hb4⟩; have HB4 := hid (HBr.out.trans hb4); have hr4 := (hb4.block S0 (by have := HZ2.out.1; omega)).trans hrx; clear hb4 KA hrx) | (refine wpList_store_mid rfl 37 _ _ rfl S0 0 (cfs cfZ).toArray HPV.out rfl (box_there hr4) info37 one_zero ?_));exact post_badR HPV.out rfl rfl (by go_num) rfl hr4 (HB2.out.trans (HB4.out.mono (by have := HZ2.out.1; omega))) HS0.out
    | some p =>
      obtain ⟨p', D'⟩ := p;clear HFA HRX;go_wp2_with (go_at_call 39; refine KA.out.mono ?_; rintro e w4 ⟨rfl, ⟨c', X', T', lv', n', Q', hd4, hD4⟩, hb4⟩; obtain ⟨st', hP4, h44⟩ := HNX.out _ _ _ _ _ _ _ _ HLN.out (by rw [hD4]) hd4; have HP4 := hid hP4; have HB4 := hid (HBr.out.trans hb4); clear hb4 KA hD4 hd4 hP4);go_roundw
      case rel => exact ⟨k + 1, st', c', X', T', lv', n', Q', by omega, by go_num, HB4.out, HP4.out, fun h => by
       have h6 := h34 (by omega);have h7 := h44 (by omega)
       omega⟩
      case measure => simp [intOf]; omega
  · obtain rfl : k = nl := by omega
    have hD : runP 0 0 doc0 L.dropLast = .good st (docOf c X T n Q) := HPr.out.run.trans (by
     rw [show k = L.dropLast.length by rw [List.length_dropLast, HNL.out]; omega]; exact runP_end)
    have e := HPG.out _ _ hD;rw [HNL.out] at e;clear HPG HPB hD;have hc := HSt.out k (by rw [HNL.out]; omega)
    have HLA := hid (show L.getLastD [] = L.getD k [] from by
     rw [List.getLastD_eq_getLast?, List.getLast?_eq_getElem?, List.getD_eq_getElem?_getD, HNL.out]
     rfl)
    rw [HLA.out] at e;clear HLA HSt;generalize L.getD k [] = la at *;by_cases hla : la = []
    · subst hla;rw [if_neg (fun h => h rfl)] at e;by_cases h3 : k ≤ 3
      · rw [if_pos (by omega)] at e;subst e;obtain rfl := h34 (by omega);have hpt : partOf st = st := by unfold partOf; rw [if_pos h3]
        have hc0 := cell_box HPr.out.d.hz (k := 0) (v := .int .i64 ((partOf st : Nat) : Int)) rfl;rw [hpt] at hc0;have hrx := HRX.out;clear HPr HL hpt;by_cases h1 : 1 ≤ st
        · go_wp2_with (first | (refine wpList_store_mid rfl 37 _ _ rfl S0 0 (cfs cfZ).toArray HPV.out rfl (box_there hrx) info37 one_zero ?_));exact post_badR HPV.out rfl rfl (by omega) rfl hrx HBW.out HS0.out
        · obtain rfl : st = 0 := by omega
          go_wp2_with (first | (refine wpList_store_mid rfl 37 _ _ rfl S0 0 (cfs cfZ).toArray HPV.out rfl (box_there hrx) info37 one_zero ?_));exact post_badR HPV.out rfl rfl (by rfl) rfl hrx HBW.out HS0.out
      · rw [if_neg (by omega)] at e;subst e
        have hp4 : 4 ≤ partOf st := by
         have h4s := HPr.out.s2 (by omega);have := partOf_mid (st := st) (by omega);omega
        have hc0 := cell_box HPr.out.d.hz (k := 0) (v := .int .i64 ((partOf st : Nat) : Int)) rfl;obtain ⟨a, cc, rfl, hncc, hnm, htr⟩ := HPr.out.d.trR;have hH15 := HPr.out.d.h15;have hEQ := HPr.out.d.eq;have hcf := HPr.out.d.cfIn
        have K23f := hid (fun (u : World) (hb : Below wr.heap.size wr u) => (show Calls Tryz.prog 23 #[.agg (cfs c).toArray, .slice a n cc] u fun e w' => e = .returned (.int .i64 (chkD (docOf c X T n Q))) ∧ Below u.heap.size u w' from by
         have h := bad23 c X T a n cc Q u (hcf.mono hb) (htr.mono hb) hnm;rw [chkM_doc c X T n Q hH15 hEQ] at h;exact h))
        clear hH15 hEQ hcf htr;obtain ⟨o, ho⟩ : ∃ o : Nat × Int × Option DocS, (0, chkD (docOf c X T n Q), if chkD (docOf c X T n Q) = 0 then some (docOf c X T n Q) else none) = o := ⟨_, rfl⟩
        rw [ho];have HO := hid ho;clear ho;generalize partOf st = pst at *;go_upto_region 13 with fail
        clear hc0 hc
        refine wp_region_peelF 0 8 (fun i v u => match i with
         | 0 => v = .pointer (some ⟨z, 0, none⟩)
         | 1 => v = .pointer (some ⟨z, 0, none⟩)
         | 2 => v = .pointer (some ⟨z, 1, none⟩)
         | 3 => v = .agg (cfs c).toArray
         | 4 => v = .pointer (some ⟨z, 0, none⟩)
         | 5 => v = .pointer (some ⟨z, 0, none⟩)
         | 6 => v = .pointer (some ⟨z, 21, none⟩)
         | 7 => v = .slice a n cc
         | _ => True) (by kernel_rfl) (by kernel_rfl) rfl (fun _ _ d _ _ h => by cases d <;> exact h) ?_ ?_ ?_
        · intro i v w1 w2 hb h
          match i with
          | 0 => exact h
          | 1 => exact h
          | 2 => exact h
          | 3 => exact h
          | 4 => exact h
          | 5 => exact h
          | 6 => exact h
          | 7 => exact h
          | k + 8 => exact h
        · intro i o hp hi ho vf u1 hb hd;have hi' : i = 0 ∨ i = 1 ∨ i = 2 ∨ i = 3 ∨ i = 4 ∨ i = 5 ∨ i = 6 ∨ i = 7 := by omega
          rcases hi' with rfl | rfl | rfl | rfl | rfl | rfl | rfl | rfl
          all_goals obtain rfl := oI ho
          all_goals simp only [fillA, fA, fB, fC, fD, fH, Nat.reduceAdd]
          · clear hd;go_wp2;exact ⟨rfl, bR, rfl⟩
          · have f0 := hd 0 (by omega) (by omega) (by kernel_rfl);clear hd;go_wp2;exact ⟨rfl, bR, rfl⟩
          · have f1 := hd 1 (by omega) (by omega) (by kernel_rfl);clear hd;go_wp2;exact ⟨rfl, bR, rfl⟩
          · have f2 : vf 2 = .pointer (some ⟨z, 1, none⟩) := hd 2 (by omega) (by omega) (by kernel_rfl);clear hd;have hrg := range_docR ((hb.block z (heap_lt HPr.out.d.hz)).trans HPr.out.d.hz);simp only [Act.put, fE, fF, fG];generalize vf 2 = v2 at *;subst f2;refine wpList_load_mid rfl 37 (.tmp 64) rfl z 1 rfl (cfs c) _ hrg Tryz.underlying37 rfl (by kernel_rfl) ?_
            go_wp2;exact ⟨rfl, bR, rfl⟩
          · clear hd;go_wp2;exact ⟨rfl, bR, rfl⟩
          · have f4 := hd 4 (by omega) (by omega) (by kernel_rfl);clear hd;go_wp2;exact ⟨rfl, bR, rfl⟩
          · have f5 := hd 5 (by omega) (by omega) (by kernel_rfl);clear hd;go_wp2;exact ⟨rfl, bR, rfl⟩
          · have f6 := hd 6 (by omega) (by omega) (by kernel_rfl);clear hd;have hcc := cell_box ((hb.block z (heap_lt HPr.out.d.hz)).trans HPr.out.d.hz) (k := 21) (v := .slice a n cc) rfl;go_wp2;exact ⟨rfl, bR, rfl⟩
        · intro vf u1 hb hd;have f3 : vf 3 = .agg (cfs c).toArray := hd 3 (by omega) (by omega);have f7 : vf 7 = .slice a n cc := hd 7 (by omega) (by omega);clear hd;simp only [fillA, fA, fB, fC, fD, fH, Nat.reduceAdd, Act.put, fE, fF, fG];generalize vf 3 = v3 at *;generalize vf 7 = v7 at *;subst f3 f7;have HBu := hid hb;clear hb;have K23 := hid (K23f.out u1 HBu.out);go_wp2_with (go_at_call 23; refine K23.out.mono ?_; rintro e w5 ⟨rfl, hb5⟩; have HB5 := hid (bthen' HBu.out hb5); clear hb5 K23; refine Hid.out ?_);refine hid ?_
          have HD5 := hid (HPr.out.d.mono HB5.out);have HW5 := hid (bthen HBW.out HB5.out (Nat.le_of_lt (heap_lt HRX.out)));have HR5 := hid ((HB5.out.block S0 (heap_lt HRX.out)).trans HRX.out);have HZ3 := hid (show S0 < z by have := HZ2.out.1; omega);clear HBu K23f HPr HBr HRX HBW HL HS2;by_cases h0 : chkD (docOf c X T n Q) = 0
          · have eo := HO.out;rw [h0, if_pos rfl] at eo;subst eo;rw [h0];go_upto_region 16 with fail
            refine wp_region_peel 0 9 (St16 w5 S0 z c (.slice a n cc)) (by kernel_rfl) (by kernel_rfl) rfl (fun _ _ d _ _ h => by cases d <;> exact h) (fun L L' vs vs' u h1 h2 S => S.congr h1 h2) ⟨(bR).drew, fun _ _ _ => rfl, fun i _ h => by have := of_decide_eq_true h; omega, fun _ => HR5.out, fun h => by have := of_decide_eq_true h; omega⟩ ?_ ?_
            · intro i o _ hi ho L0 vf u hL hwt S;have HS := hid S;have Hw := hid hwt;have HL0 := hid hL;have hzu := (S.k z (by have := HZ3.out; omega) (heap_lt HD5.out.hz)).trans HD5.out.hz;have HRU := hid (range_docR hzu);have hc21 := cell_box hzu (k := 21) (v := .slice a n cc) rfl;clear S hwt hL hzu;have hi' : i = 0 ∨ i = 1 ∨ i = 2 ∨ i = 3 ∨ i = 4 ∨ i = 5 ∨ i = 6 ∨ i = 7 ∨ i = 8 := by omega
              rcases hi' with rfl | rfl | rfl | rfl | rfl | rfl | rfl | rfl | rfl
              · obtain rfl := oI ho;simp only [fillA, fA, fB, fC, fD];go_wp2;exact ⟨rfl, HS.out.step (by decide) rfl⟩
              · obtain rfl := oI ho;have f0 : vf 0 = .pointer (some ⟨z, 0, none⟩) := HS.out.f 0 (by omega) (Hw.out 0 (by kernel_rfl));simp only [fillA, fA, fB, fC, fD, fH, Nat.reduceAdd, Act.put, fE, fF, fG];generalize vf 0 = v0 at *;subst f0;go_wp2;exact ⟨rfl, HS.out.step (by decide) rfl⟩
              · obtain rfl := oI ho;have f1 : vf 1 = .pointer (some ⟨z, 0, none⟩) := HS.out.f 1 (by omega) (Hw.out 1 (by kernel_rfl));simp only [fillA, fA, fB, fC, fD, fH, Nat.reduceAdd, Act.put, fE, fF, fG];generalize vf 1 = v1 at *;subst f1;go_wp2;exact ⟨rfl, HS.out.step (by decide) rfl⟩
              · obtain rfl := oI ho;have f2 : vf 2 = .pointer (some ⟨z, 1, none⟩) := HS.out.f 2 (by omega) (Hw.out 2 (by kernel_rfl));simp only [fillA, fA, fB, fC, fD, fH, Nat.reduceAdd, Act.put, fE, fF, fG];generalize vf 2 = v2 at *;subst f2;refine wpList_load_mid rfl 37 (.tmp 77) rfl z 1 rfl (cfs c) _ HRU.out Tryz.underlying37 rfl (by kernel_rfl) ?_
                go_wp2;exact ⟨rfl, HS.out.step (by decide) rfl⟩
              · obtain rfl := oI ho;simp only [fillA, fA, fB, fC, fD];go_wp2;exact ⟨rfl, HS.out.step (by decide) rfl⟩
              · obtain rfl := oI ho;have f4 : vf 4 = .pointer (some ⟨z, 0, none⟩) := HS.out.f 4 (by omega) (Hw.out 4 (by kernel_rfl));simp only [fillA, fA, fB, fC, fD, fH, Nat.reduceAdd, Act.put, fE, fF, fG];generalize vf 4 = v4 at *;subst f4;go_wp2;exact ⟨rfl, HS.out.step (by decide) rfl⟩
              · obtain rfl := oI ho;have f5 : vf 5 = .pointer (some ⟨z, 0, none⟩) := HS.out.f 5 (by omega) (Hw.out 5 (by kernel_rfl));simp only [fillA, fA, fB, fC, fD, fH, Nat.reduceAdd, Act.put, fE, fF, fG];generalize vf 5 = v5 at *;subst f5;go_wp2;exact ⟨rfl, HS.out.step (by decide) rfl⟩
              · obtain rfl := oI ho;have f6 : vf 6 = .pointer (some ⟨z, 21, none⟩) := HS.out.f 6 (by omega) (Hw.out 6 (by kernel_rfl));simp only [fillA, fA, fB, fC, fD, fH, Nat.reduceAdd, Act.put, fE, fF, fG];generalize vf 6 = v6 at *;subst f6;go_wp2;exact ⟨rfl, HS.out.step (by decide) rfl⟩
              · obtain rfl := oI ho;have f3 : vf 3 = .agg (cfs c).toArray := HS.out.f 3 (by omega) (Hw.out 3 (by kernel_rfl));simp only [fillA, fA, fB, fC, fD, fH, Nat.reduceAdd, Act.put, fE, fF, fG];generalize vf 3 = v3 at *;subst f3;have ht := box_there (HS.out.r0 HL0.out);refine wpList_store_mid rfl 37 (.tmp 2) (.tmp 78) rfl S0 0 (cfs c).toArray HPV.out rfl (show u.there S0 0 (cfs c).toArray.size from ht) info37 (one_c c) ?_
                go_wp2;exact ⟨rfl, HS.out.store HL0.out⟩
            · intro vf u S;have HS := hid S;have f7 : vf 7 = .slice a n cc := S.f 7 (by omega) rfl;clear S;simp only [fillA, fA, fB, fC, fD, fH, Nat.reduceAdd, Act.put, fE, fF, fG];generalize vf 7 = v7 at *;subst f7;go_wp2;exact post_goodR HS.out HPV.out rfl rfl rfl HD5.out HZ3.out HW5.out HS0.out
          · have hq : (chkD (docOf c X T n Q) != 0) = true := by simp [h0]
            have eo := HO.out;rw [if_neg h0] at eo;subst eo;generalize chkD (docOf c X T n Q) = er at *;go_wp2_with (first | (refine wpList_store_mid rfl 37 _ _ rfl S0 0 (cfs cfZ).toArray HPV.out rfl (box_there HR5.out) info37 one_zero ?_));exact post_badR HPV.out rfl rfl (by rfl) rfl HR5.out HW5.out HS0.out
    · rw [if_pos hla] at e;subst e;have hq : la.isEmpty = false := by simpa using hla
      have hrx := HRX.out;clear HPr HL;go_wp2_with (first | (refine wpList_store_mid rfl 37 _ _ rfl S0 0 (cfs cfZ).toArray HPV.out rfl (box_there hrx) info37 one_zero ?_));exact post_badR HPV.out rfl rfl (by omega) rfl hrx HBW.out HS0.out
end
end Go.Proofs.YtgflfdnajchjaaaGreatDoor
