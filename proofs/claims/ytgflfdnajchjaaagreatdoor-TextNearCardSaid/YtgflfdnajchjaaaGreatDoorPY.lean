import Derived.Test.YtgflfdnajchjaaaGreatDoorPS
import Derived.Test.YtgflfdnajchjaaaGreatDoorPX
import Derived.Test.YtgflfdnajchjaaaGreatDoorPA
import Derived.Test.YtgflfdnajchjaaaGreatDoorPB
set_option linter.unusedVariables false
set_option linter.unusedSimpArgs false
namespace Go.Proofs.YtgflfdnajchjaaaGreatDoor
open Go.Lib (hid)
open Go.RowKit
section
open Go.RowKit Go.Sort
open Tm
def docRs (p : Int) (c : Cf) (lv : Value) : Array Value := (.int .i64 p :: (cfs c ++ [lv])).toArray
structure DocR (w : World) (B z : Nat) (p : Int) (c : Cf) (X : Nat → Ch.Fd) (T : Nat → Te) (lv : Value) (n : Nat) (Q : Nat → Tr) : Prop where
 hz : w.heap[z]? = some (.cells (docRs p c lv) 105 (0, 0))
 bz : B ≤ z
 f : w.ownsRow B 86 5 (.slice c.fa c.fn c.fc) c.fn ((List.range (c.fn * 5)).map (fdv X))
 t : w.ownsRow B 57 14 (.slice c.ta c.tn c.tc) c.tn ((List.range (c.tn * 14)).map (tev' T))
 b : ∀ k, k < c.tn → w.ownsRow B 71 11 (bV (T k)) (T k).bn ((List.range ((T k).bn * 11)).map (bev' (T k).be))
 u : ∀ k, k < c.tn → w.ownsRow B 74 4 (kV (T k)) (T k).kn ((List.range ((T k).kn * 4)).map (buv (T k).P (T k).R (T k).M (T k).T))
 sb : ∀ j k, j < c.tn → k < c.tn → j ≠ k → ∀ g, (bV (T j)).ownBlock = some g → (bV (T k)).ownBlock ≠ some g
 su : ∀ j k, j < c.tn → k < c.tn → j ≠ k → ∀ g, (kV (T j)).ownBlock = some g → (kV (T k)).ownBlock ≠ some g
 eq : ∀ k, k < c.tn → (T k).kn = (T k).bn
 l : w.ownsRow B 49 5 lv n ((List.range (n * 5)).map (trv Q))
 d : ∀ k, k < n → OwnU w B (.slice (Q k).pa (Q k).pn (Q k).pc) (Q k).by'
 h15 : c.h 15 = 0
theorem DocR.mono {w w' : World} {B z : Nat} {p : Int} {c : Cf} {X : Nat → Ch.Fd} {T : Nat → Te} {lv : Value} {n : Nat} {Q : Nat → Tr} (D : DocR w B z p c X T lv n Q) (hb : Below w.heap.size w w') : DocR w' B z p c X T lv n Q :=
 ⟨(hb.block z (heap_lt D.hz)).trans D.hz, D.bz, own_below D.f hb, own_below D.t hb, fun k hk => own_below (D.b k hk) hb, fun k hk => own_below (D.u k hk) hb, D.sb, D.su, D.eq, own_below D.l hb, fun k hk => own_below (D.d k hk) hb, D.h15⟩
theorem docRs_setH (p : Int) (c : Cf) (lv : Value) (x : Int) : ∀ k, k < 18 → (docRs p c lv).setIfInBounds (k + 1) (.int .i64 x) = docRs p (setH c k x) lv := by
 intro k hk
 have : k = 0 ∨ k = 1 ∨ k = 2 ∨ k = 3 ∨ k = 4 ∨ k = 5 ∨ k = 6 ∨ k = 7 ∨ k = 8 ∨ k = 9 ∨ k = 10 ∨ k = 11 ∨ k = 12 ∨ k = 13 ∨ k = 14 ∨ k = 15 ∨ k = 16 ∨ k = 17 := by omega
 rcases this with rfl | rfl | rfl | rfl | rfl | rfl | rfl | rfl | rfl | rfl | rfl | rfl | rfl | rfl | rfl | rfl | rfl | rfl <;> rfl
section
variable {w : World} {B z : Nat} {p : Int} {c : Cf} {X : Nat → Ch.Fd} {T : Nat → Te} {lv : Value} {n : Nat} {Q : Nat → Tr}
theorem DocR.rows (D : DocR w B z p c X T lv n Q) {w' : World} (hk : ∀ i, i < w.heap.size → i ≠ z → w'.heap[i]? = w.heap[i]?) {c' : Cf} {lv' : Value} (hz : w'.heap[z]? = some (.cells (docRs p c' lv') 105 (0, 0)))
 (hf : c'.fa = c.fa ∧ c'.fn = c.fn ∧ c'.fc = c.fc) (ht : c'.ta = c.ta ∧ c'.tn = c.tn ∧ c'.tc = c.tc) (hl : lv' = lv) (h15 : c'.h 15 = 0) : DocR w' B z p c' X T lv' n Q := by
 subst hl
 obtain ⟨f1, f2, f3⟩ := hf
 obtain ⟨t1, t2, t3⟩ := ht
 refine ⟨hz, D.bz, ?_, ?_, fun k hk' => ?_, fun k hk' => ?_, ?_, ?_, ?_, ?_, fun k hk' => ?_, h15⟩
 · rw [f1, f2, f3]; exact own_kept D.f fun g hg => hk g (D.f.lt g hg).2 (own_ne D.f D.hz (by decide) hg)
 · rw [t1, t2, t3]; exact own_kept D.t fun g hg => hk g (D.t.lt g hg).2 (own_ne D.t D.hz (by decide) hg)
 · rw [t2] at hk'
   exact own_kept (D.b k hk') fun g hg => hk g ((D.b k hk').lt g hg).2 (own_ne (D.b k hk') D.hz (by decide) hg)
 · rw [t2] at hk'
   exact own_kept (D.u k hk') fun g hg => hk g ((D.u k hk').lt g hg).2 (own_ne (D.u k hk') D.hz (by decide) hg)
 · rw [t2]; exact D.sb
 · rw [t2]; exact D.su
 · rw [t2]; exact D.eq
 · exact own_kept D.l fun g hg => hk g (D.l.lt g hg).2 (own_ne D.l D.hz (by decide) hg)
 · exact own_kept (D.d k hk') fun g hg => hk g ((D.d k hk').lt g hg).2 (own_ne (D.d k hk') D.hz (by decide) hg)
theorem DocR.setH (D : DocR w B z p c X T lv n Q) (k : Nat) (hk : k < 18) (h15 : k ≠ 15) (x : Int) : DocR (w.setCell ⟨z, k + 1, none⟩ (.int .i64 x)) B z p (setH c k x) X T lv n Q :=
 D.rows (fun i _ hi => heap_set_other _ hi) (by rw [heap_set_same D.hz, docRs_setH p c lv x k hk]) ⟨rfl, rfl, rfl⟩ ⟨rfl, rfl, rfl⟩ rfl (by
  show (if 15 = k then x else c.h 15) = 0
  rw [if_neg (fun e => h15 e.symm)]
  exact D.h15)
theorem DocR.other (D : DocR w B z p c X T lv n Q) {w1 : World} {e s m : Nat} {v : Value} {xs : List Value} (h : w.ownsRow B e s v m xs) (hg : w.grownBy w1 v.ownBlock) (p : Value) (k : Nat) {e' s' m' : Nat} {v' : Value} {xs' : List Value} (h' : w.ownsRow B e' s' v' m' xs') (hne : e' ≠ e) (hz : e' ≠ 105) : (w1.setCell ⟨z, k, none⟩ p).ownsRow B e' s' v' m' xs' :=
 own_kept h' fun g hg' => by
  rw [heap_set_other _ (own_ne h' D.hz hz hg')]
  exact hg.block g (h'.lt g hg').2 (fun e => own_apart h' h hne hg' e.symm)
theorem DocR.addF (D : DocR w B z p c X T lv n Q) {w1 : World} {a' : Option Addr} {c' : Nat} {X' : Nat → Ch.Fd}
 (h : w1.ownsRow B 86 5 (.slice a' (c.fn + 1) c') (c.fn + 1) ((List.range ((c.fn + 1) * 5)).map (fdv X'))) (hg : w.grownBy w1 (Value.slice c.fa c.fn c.fc).ownBlock) :
 DocR (w1.setCell ⟨z, 19, none⟩ (.slice a' (c.fn + 1) c')) B z p { c with fa := a', fn := c.fn + 1, fc := c' } X' T lv n Q := by
 have hz1 : w1.heap[z]? = some (.cells (docRs p c lv) 105 (0, 0)) := (hg.block z (heap_lt D.hz) (fun e => own_ne D.f D.hz (by decide) e.symm rfl)).trans D.hz
 refine ⟨by rw [heap_set_same hz1]; rfl, D.bz, own_kept h fun g hg' => heap_set_other _ (own_ne h hz1 (by decide) hg'), ?_, fun k hk => ?_, fun k hk => ?_, D.sb, D.su, D.eq, ?_, fun k hk => ?_, D.h15⟩
 · exact D.other D.f hg _ _ D.t (by decide) (by decide)
 · exact D.other D.f hg _ _ (D.b k hk) (by decide) (by decide)
 · exact D.other D.f hg _ _ (D.u k hk) (by decide) (by decide)
 · exact D.other D.f hg _ _ D.l (by decide) (by decide)
 · exact D.other D.f hg _ _ (D.d k hk) (by decide) (by decide)
theorem DocR.addP (D : DocR w B z p c X T lv n Q) {w1 : World} {lv' : Value} {Q' : Nat → Tr} (hQ : ∀ k, k < n → Q' k = Q k) (hd : OwnU w B (.slice (Q' n).pa (Q' n).pn (Q' n).pc) (Q' n).by')
 (h : w1.ownsRow B 49 5 lv' (n + 1) ((List.range ((n + 1) * 5)).map (trv Q'))) (hg : w.grownBy w1 lv.ownBlock) :
 DocR (w1.setCell ⟨z, 21, none⟩ lv') B z p c X T lv' (n + 1) Q' := by
 have hz1 : w1.heap[z]? = some (.cells (docRs p c lv) 105 (0, 0)) := (hg.block z (heap_lt D.hz) (fun e => own_ne D.l D.hz (by decide) e.symm rfl)).trans D.hz
 refine ⟨by rw [heap_set_same hz1]; rfl, D.bz, ?_, ?_, fun k hk => ?_, fun k hk => ?_, D.sb, D.su, D.eq, own_kept h fun g hg' => heap_set_other _ (own_ne h hz1 (by decide) hg'), fun k hk => ?_, D.h15⟩
 · exact D.other D.l hg _ _ D.f (by decide) (by decide)
 · exact D.other D.l hg _ _ D.t (by decide) (by decide)
 · exact D.other D.l hg _ _ (D.b k hk) (by decide) (by decide)
 · exact D.other D.l hg _ _ (D.u k hk) (by decide) (by decide)
 · by_cases hkn : k < n
   · rw [hQ k hkn]; exact D.other D.l hg _ _ (D.d k hkn) (by decide) (by decide)
   · obtain rfl : k = n := by omega
     exact D.other D.l hg _ _ hd (by decide) (by decide)
theorem DocR.addT (D : DocR w B z p c X T lv n Q) {w1 : World} {a' : Option Addr} {c' : Nat} {T' : Nat → Te} (hT : ∀ k, k < c.tn → T' k = T k) (hb : bV (T' c.tn) = .slice none 0 0) (hk0 : kV (T' c.tn) = .slice none 0 0)
 (h : w1.ownsRow B 57 14 (.slice a' (c.tn + 1) c') (c.tn + 1) ((List.range ((c.tn + 1) * 14)).map (tev' T'))) (hg : w.grownBy w1 (Value.slice c.ta c.tn c.tc).ownBlock) :
 DocR (w1.setCell ⟨z, 20, none⟩ (.slice a' (c.tn + 1) c')) B z p { c with ta := a', tn := c.tn + 1, tc := c' } X T' lv n Q := by
 have hz1 : w1.heap[z]? = some (.cells (docRs p c lv) 105 (0, 0)) := (hg.block z (heap_lt D.hz) (fun e => own_ne D.t D.hz (by decide) e.symm rfl)).trans D.hz
 have e1 : (T' c.tn).bn = 0 := by have := hb; unfold bV at this; injection this
 have e2 : (T' c.tn).kn = 0 := by have := hk0; unfold kV at this; injection this
 have hn1 : (bV (T' c.tn)).ownBlock = none := by rw [hb]; rfl
 have hn2 : (kV (T' c.tn)).ownBlock = none := by rw [hk0]; rfl
 refine ⟨by rw [heap_set_same hz1]; rfl, D.bz, ?_, own_kept h fun g hg' => heap_set_other _ (own_ne h hz1 (by decide) hg'), fun k hk => ?_, fun k hk => ?_, fun j k hj hk hjk g hg1 hg2 => ?_, fun j k hj hk hjk g hg1 hg2 => ?_, fun k hk => ?_, ?_, fun k hk => ?_, D.h15⟩
 · exact D.other D.t hg _ _ D.f (by decide) (by decide)
 · by_cases hkn : k < c.tn
   · rw [hT k hkn]; exact D.other D.t hg _ _ (D.b k hkn) (by decide) (by decide)
   · obtain rfl : k = c.tn := by have : k < c.tn + 1 := hk
                                 omega
     rw [hb, e1]
     exact own_nilK _ _ _ _ _
 · by_cases hkn : k < c.tn
   · rw [hT k hkn]; exact D.other D.t hg _ _ (D.u k hkn) (by decide) (by decide)
   · obtain rfl : k = c.tn := by have : k < c.tn + 1 := hk
                                 omega
     rw [hk0, e2]
     exact own_nilK _ _ _ _ _
 · have hj' : j < c.tn + 1 := hj
   have hk' : k < c.tn + 1 := hk
   by_cases hjn : j < c.tn
   · by_cases hkn : k < c.tn
     · rw [hT j hjn] at hg1
       rw [hT k hkn] at hg2
       exact D.sb j k hjn hkn hjk g hg1 hg2
     · obtain rfl : k = c.tn := by omega
       rw [hn1] at hg2; cases hg2
   · obtain rfl : j = c.tn := by omega
     rw [hn1] at hg1; cases hg1
 · have hj' : j < c.tn + 1 := hj
   have hk' : k < c.tn + 1 := hk
   by_cases hjn : j < c.tn
   · by_cases hkn : k < c.tn
     · rw [hT j hjn] at hg1
       rw [hT k hkn] at hg2
       exact D.su j k hjn hkn hjk g hg1 hg2
     · obtain rfl : k = c.tn := by omega
       rw [hn2] at hg2; cases hg2
   · obtain rfl : j = c.tn := by omega
     rw [hn2] at hg1; cases hg1
 · by_cases hkn : k < c.tn
   · rw [hT k hkn]; exact D.eq k hkn
   · obtain rfl : k = c.tn := by have : k < c.tn + 1 := hk
                                 omega
     rw [e1, e2]
 · exact D.other D.t hg _ _ D.l (by decide) (by decide)
 · exact D.other D.t hg _ _ (D.d k hk) (by decide) (by decide)
set_option maxHeartbeats 1000000 in
theorem DocR.addB (D : DocR w B z p c X T lv n Q) {u : World} {k0 g : Nat} (hk0 : k0 + 1 = c.tn) (hta : c.ta = some ⟨g, 0, none⟩) {a1 : Option Addr} {c1 : Nat} {a2 : Option Addr} {c2 : Nat} {be : Nat → BeR} {P R M T2 : Nat → Int}
 (hsz : w.heap.size ≤ u.heap.size) (hk : ∀ i, i < w.heap.size → (bV (T k0)).ownBlock ≠ some i → (kV (T k0)).ownBlock ≠ some i → u.heap[i]? = w.heap[i]?)
 (hB : u.ownsRow B 71 11 (.slice a1 ((T k0).bn + 1) c1) ((T k0).bn + 1) ((List.range (((T k0).bn + 1) * 11)).map (bev' be)))
 (hK : u.ownsRow B 74 4 (.slice a2 ((T k0).bn + 1) c2) ((T k0).bn + 1) ((List.range (((T k0).bn + 1) * 4)).map (buv P R M T2)))
 (n1 : ∀ i, (Value.slice a1 ((T k0).bn + 1) c1).ownBlock = some i → (bV (T k0)).ownBlock = some i ∨ w.heap.size ≤ i) (n2 : ∀ i, (Value.slice a2 ((T k0).bn + 1) c2).ownBlock = some i → (kV (T k0)).ownBlock = some i ∨ w.heap.size ≤ i) :
 DocR ((u.setCell ⟨g, k0 * 14 + 2, none⟩ (.slice a1 ((T k0).bn + 1) c1)).setCell ⟨g, k0 * 14 + 3, none⟩ (.slice a2 ((T k0).bn + 1) c2)) B z p c X (fun k => if k = k0 then teB (T k0) a1 c1 a2 c2 ((T k0).bn + 1) be P R M T2 else T k) lv n Q := by
 have hkt : k0 < c.tn := by omega
 have hb0 := D.b k0 hkt
 have hu0 := D.u k0 hkt
 have hgt : (Value.slice c.ta c.tn c.tc).ownBlock = some g := by rw [hta]; rfl
 have ht := D.t
 obtain ⟨-, hglt, gcs, hg⟩ := own_tag ht hgt
 have keep : ∀ {e s m : Nat} {v : Value} {xs : List Value}, w.ownsRow B e s v m xs → e ≠ 71 → e ≠ 74 → u.ownsRow B e s v m xs := fun {e s m v xs} h h1 h2 => own_kept h fun i hi => hk i (h.lt i hi).2 (fun e => own_apart hb0 h (by first | exact fun e => h1 e.symm | omega) e hi) (fun e => own_apart hu0 h (by first | exact fun e => h2 e.symm | omega) e hi)
 have hz1 : u.heap[z]? = some (.cells (docRs p c lv) 105 (0, 0)) := (hk z (heap_lt D.hz) (fun e => own_ne hb0 D.hz (by decide) e rfl) (fun e => own_ne hu0 D.hz (by decide) e rfl)).trans D.hz
 have hgu : u.heap[g]? = some (.cells gcs 57 (0, 0)) := (hk g hglt (fun e => own_apart hb0 ht (by decide) e hgt) (fun e => own_apart hu0 ht (by decide) e hgt)).trans hg
 have far : ∀ i, i ≠ g → ((u.setCell ⟨g, k0 * 14 + 2, none⟩ (.slice a1 ((T k0).bn + 1) c1)).setCell ⟨g, k0 * 14 + 3, none⟩ (.slice a2 ((T k0).bn + 1) c2)).heap[i]? = u.heap[i]? := fun i hi => by
  rw [heap_set_other _ hi, heap_set_other _ hi]
 have pass : ∀ {e s m : Nat} {v : Value} {xs : List Value}, u.ownsRow B e s v m xs → e ≠ 57 → ((u.setCell ⟨g, k0 * 14 + 2, none⟩ (.slice a1 ((T k0).bn + 1) c1)).setCell ⟨g, k0 * 14 + 3, none⟩ (.slice a2 ((T k0).bn + 1) c2)).ownsRow B e s v m xs := fun {e s m v xs} h h1 => own_kept h fun i hi => far i (own_ne h hgu h1 hi)
 have hgz : z ≠ g := fun e => by
  rw [e, hgu] at hz1
  injection hz1 with hz1
  injection hz1 with _ hz1
  exact absurd hz1 (by decide)
 have other : ∀ k, k < c.tn → k ≠ k0 → u.ownsRow B 71 11 (bV (T k)) (T k).bn ((List.range ((T k).bn * 11)).map (bev' (T k).be)) := fun k hkn hne => own_kept (D.b k hkn) fun i hi => hk i ((D.b k hkn).lt i hi).2 (fun e => D.sb k k0 hkn hkt hne i hi e) (fun e => own_apart hu0 (D.b k hkn) (by decide) e hi)
 have other2 : ∀ k, k < c.tn → k ≠ k0 → u.ownsRow B 74 4 (kV (T k)) (T k).kn ((List.range ((T k).kn * 4)).map (buv (T k).P (T k).R (T k).M (T k).T)) := fun k hkn hne => own_kept (D.u k hkn) fun i hi => hk i ((D.u k hkn).lt i hi).2 (fun e => own_apart hb0 (D.u k hkn) (by decide) e hi) (fun e => D.su k k0 hkn hkt hne i hi e)
 have eT : ∀ k, k ≠ k0 → (fun k => if k = k0 then teB (T k0) a1 c1 a2 c2 ((T k0).bn + 1) be P R M T2 else T k) k = T k := fun k h => if_neg h
 have eT0 : (fun k => if k = k0 then teB (T k0) a1 c1 a2 c2 ((T k0).bn + 1) be P R M T2 else T k) k0 = teB (T k0) a1 c1 a2 c2 ((T k0).bn + 1) be P R M T2 := if_pos rfl
 generalize hT' : (fun k => if k = k0 then teB (T k0) a1 c1 a2 c2 ((T k0).bn + 1) be P R M T2 else T k) = T' at *
 refine ⟨by rw [far z hgz]; exact hz1, D.bz, pass (keep D.f (by decide) (by decide)) (by decide), ?_, fun k hkn => ?_, fun k hkn => ?_, fun j k hj hkn hjk i h1 h2 => ?_, fun j k hj hkn hjk i h1 h2 => ?_, fun k hkn => ?_, pass (keep D.l (by decide) (by decide)) (by decide), fun k hkn => pass (keep (D.d k hkn) (by decide) (by decide)) (by decide), D.h15⟩
 · have h1 := keep ht (by decide) (by decide)
   rw [hta] at h1 ⊢
   have h2 := (h1.stored (k0 * 14 + 2) (.slice a1 ((T k0).bn + 1) c1)).1
   have h3 := (h2.stored (k0 * 14 + 3) (.slice a2 ((T k0).bn + 1) c2)).1
   rw [set_map_range, set_map_range] at h3
   have e : (List.range (c.tn * 14)).map (tev' T') = (List.range (c.tn * 14)).map fun j => if j = k0 * 14 + 3 then .slice a2 ((T k0).bn + 1) c2 else if j = k0 * 14 + 2 then .slice a1 ((T k0).bn + 1) c1 else tev' T j := map_range_congr fun j hj => by
    unfold tev'
    by_cases hjk : j / 14 = k0
    · rw [hjk, eT0, tcell_teB _ _ _ _ _ _ _ _ _ _ _ _ (Nat.mod_lt _ (by omega))]
      have h14 := Nat.div_add_mod j 14
      rw [hjk] at h14
      by_cases q3 : j % 14 = 3
      · rw [if_pos q3, if_pos (show j = k0 * 14 + 3 by omega)]
      · rw [if_neg q3, if_neg (show ¬ j = k0 * 14 + 3 by omega)]
        by_cases q2 : j % 14 = 2
        · rw [if_pos q2, if_pos (show j = k0 * 14 + 2 by omega)]
        · rw [if_neg q2, if_neg (show ¬ j = k0 * 14 + 2 by omega)]
    · rw [eT _ hjk, if_neg (show ¬ j = k0 * 14 + 3 by omega), if_neg (show ¬ j = k0 * 14 + 2 by omega)]
   rw [e]
   exact h3
 · by_cases hne : k = k0
   · subst hne; rw [eT0]; exact pass hB (by decide)
   · rw [eT k hne]; exact pass (other k hkn hne) (by decide)
 · by_cases hne : k = k0
   · subst hne; rw [eT0]; exact pass hK (by decide)
   · rw [eT k hne]; exact pass (other2 k hkn hne) (by decide)
 · by_cases hjn : j = k0
   · subst hjn
     rw [eT0] at h1
     rw [eT k (fun e => hjk e.symm)] at h2
     rcases n1 i h1 with h | h
     · exact D.sb k j hkn hj (fun e => hjk e.symm) i h2 h
     · have := ((D.b k hkn).lt i h2).2; omega
   · rw [eT j hjn] at h1
     by_cases hkk : k = k0
     · subst hkk
       rw [eT0] at h2
       rcases n1 i h2 with h | h
       · exact D.sb j k hj hkn hjk i h1 h
       · have := ((D.b j hj).lt i h1).2; omega
     · rw [eT k hkk] at h2
       exact D.sb j k hj hkn hjk i h1 h2
 · by_cases hjn : j = k0
   · subst hjn
     rw [eT0] at h1
     rw [eT k (fun e => hjk e.symm)] at h2
     rcases n2 i h1 with h | h
     · exact D.su k j hkn hj (fun e => hjk e.symm) i h2 h
     · have := ((D.u k hkn).lt i h2).2; omega
   · rw [eT j hjn] at h1
     by_cases hkk : k = k0
     · subst hkk
       rw [eT0] at h2
       rcases n2 i h2 with h | h
       · exact D.su j k hj hkn hjk i h1 h
       · have := ((D.u j hj).lt i h1).2; omega
     · rw [eT k hkk] at h2
       exact D.su j k hj hkn hjk i h1 h2
 · by_cases hne : k = k0
   · subst hne; rw [eT0]; rfl
   · rw [eT k hne]; exact D.eq k hkn
theorem DocR.lens (D : DocR w B z p c X T lv n Q) : c.fn ≤ maxLen ∧ c.tn ≤ maxLen ∧ ∀ k, k < c.tn → (T k).bn ≤ maxLen ∧ (T k).kn ≤ maxLen := by
 refine ⟨?_, ?_, fun k hk => ⟨?_, ?_⟩⟩
 · obtain ⟨a, cc, e, h1, h2, -⟩ := own_slice D.f; omega
 · obtain ⟨a, cc, e, h1, h2, -⟩ := own_slice D.t; omega
 · obtain ⟨a, cc, e, h1, h2, -⟩ := own_slice (D.b k hk); omega
 · obtain ⟨a, cc, e, h1, h2, -⟩ := own_slice (D.u k hk); omega
theorem DocR.fadesR (D : DocR w B z p c X T lv n Q) : Ch.R5 w c.fa c.fn X := by
 obtain ⟨a, cc, b, e, hc, hp, hcell⟩ := own_cellsK D.f
 injection e with e1 e2 e3
 subst e1
 refine ⟨b, 0, fun h => (hp h).1, fun k hk => ?_⟩
 have g : ∀ i, i < 5 → w.cell? ⟨b, 0 + k * 5 + i, none⟩ = some (.int .i64 ((fdL (X k)).getD i 0)) := fun i hi => by
  rw [Nat.zero_add, ← fdv_at X k i hi]
  exact hcell _ (by omega)
 exact ⟨g 0 (by omega), g 1 (by omega), g 2 (by omega), g 3 (by omega), g 4 (by omega)⟩
theorem DocR.teIn (D : DocR w B z p c X T lv n Q) (k : Nat) (hk : k < c.tn) : TeIn w (T k) := by
 refine ⟨?_, ?_, (D.lens.2.2 k hk).1, (D.lens.2.2 k hk).2⟩
 · obtain ⟨a, cc, b, e, hc, hp, hcell⟩ := own_cellsK (D.b k hk)
   injection e with e1 e2 e3
   subst e1
   refine ⟨b, 0, fun h => (hp h).1, fun j hj => ?_⟩
   have g : ∀ i, i < 11 → w.cell? ⟨b, 0 + j * 11 + i, none⟩ = some (.int .i64 ((be11 ((T k).be j)).getD i 0)) := fun i hi => by
    rw [Nat.zero_add, ← bev_at (T k).be j i hi]
    exact hcell _ (by omega)
   exact ⟨g 0 (by omega), g 1 (by omega), g 2 (by omega), g 3 (by omega), g 4 (by omega), g 5 (by omega), g 6 (by omega), g 7 (by omega), g 8 (by omega), g 9 (by omega), g 10 (by omega)⟩
 · obtain ⟨a, cc, b, e, hc, hp, hcell⟩ := own_cellsK (D.u k hk)
   injection e with e1 e2 e3
   subst e1
   refine ⟨b, 0, fun h => (hp h).1, fun j hj => ?_⟩
   have g : ∀ i, i < 4 → w.cell? ⟨b, 0 + j * 4 + i, none⟩ = some (.int .i64 ([(T k).P j, (T k).R j, (T k).M j, (T k).T j].getD i 0)) := fun i hi => by
    rw [Nat.zero_add, ← buv_at _ _ _ _ j i hi]
    exact hcell _ (by omega)
   exact ⟨g 0 (by omega), g 1 (by omega), g 2 (by omega), g 3 (by omega)⟩
theorem DocR.cfIn (D : DocR w B z p c X T lv n Q) : CfIn w c X T := by
 refine ⟨D.fadesR, ?_, D.lens.1, D.lens.2.1⟩
 obtain ⟨a, cc, b, e, hc, hp, hcell⟩ := own_cellsK D.t
 injection e with e1 e2 e3
 subst e1
 refine ⟨b, 0, fun h => (hp h).1, fun k hk => ⟨fun j hj => ?_, D.teIn k hk⟩⟩
 rw [Nat.zero_add, ← tev_at T k j hj]
 exact hcell _ (by omega)
theorem DocR.trR (D : DocR w B z p c X T lv n Q) : ∃ a cc, lv = .slice a n cc ∧ n ≤ cc ∧ n ≤ maxLen ∧ TrR w a n Q := by
 obtain ⟨a, cc, b, e, hc, hp, hcell⟩ := own_cellsK D.l
 obtain ⟨a', cc', e', h1, h2, -⟩ := own_slice D.l
 rw [e] at e'
 injection e' with q1 q2 q3
 refine ⟨a, cc, e, hc, by omega, b, 0, fun h => (hp h).1, fun k hk => ?_⟩
 have g : ∀ i, i < 5 → w.cell? ⟨b, 0 + k * 5 + i, none⟩ = some ((trC (Q k)).getD i undef) := fun i hi => by
  rw [Nat.zero_add, ← trv_at Q k i hi]
  exact hcell _ (by omega)
 have hd := (D.d k hk).byAt
 exact ⟨g 0 (by omega), g 1 (by omega), g 2 (by omega), g 3 (by omega), g 4 (by omega), hd.1, hd.2.1, hd.2.2⟩
end
theorem DocR.out {w w' : World} {B z : Nat} {p : Int} {c : Cf} {X : Nat → Ch.Fd} {T : Nat → Te} {lv : Value} {n : Nat} {Q : Nat → Tr} (D : DocR w B z p c X T lv n Q) (hk : ∀ i, B ≤ i → i < w.heap.size → w'.heap[i]? = w.heap[i]?) : DocR w' B z p c X T lv n Q :=
 ⟨(hk z D.bz (heap_lt D.hz)).trans D.hz, D.bz, own_kept D.f fun g hg => hk g (D.f.lt g hg).1 (D.f.lt g hg).2, own_kept D.t fun g hg => hk g (D.t.lt g hg).1 (D.t.lt g hg).2, fun k h => own_kept (D.b k h) fun g hg => hk g ((D.b k h).lt g hg).1 ((D.b k h).lt g hg).2, fun k h => own_kept (D.u k h) fun g hg => hk g ((D.u k h).lt g hg).1 ((D.u k h).lt g hg).2, D.sb, D.su, D.eq, own_kept D.l fun g hg => hk g (D.l.lt g hg).1 (D.l.lt g hg).2, fun k h => own_kept (D.d k h) fun g hg => hk g ((D.d k h).lt g hg).1 ((D.d k h).lt g hg).2, D.h15⟩
theorem DocR.part {w : World} {B z : Nat} {p : Int} {c : Cf} {X : Nat → Ch.Fd} {T : Nat → Te} {lv : Value} {n : Nat} {Q : Nat → Tr} (D : DocR w B z p c X T lv n Q) (q : Int) : DocR (w.setCell ⟨z, 0, none⟩ (.int .i64 q)) B z q c X T lv n Q :=
 ⟨by rw [heap_set_same D.hz]; rfl, D.bz, own_kept D.f fun g hg => heap_set_other _ (own_ne D.f D.hz (by decide) hg), own_kept D.t fun g hg => heap_set_other _ (own_ne D.t D.hz (by decide) hg),
  fun k hk => own_kept (D.b k hk) fun g hg => heap_set_other _ (own_ne (D.b k hk) D.hz (by decide) hg), fun k hk => own_kept (D.u k hk) fun g hg => heap_set_other _ (own_ne (D.u k hk) D.hz (by decide) hg), D.sb, D.su, D.eq,
  own_kept D.l fun g hg => heap_set_other _ (own_ne D.l D.hz (by decide) hg), fun k hk => own_kept (D.d k hk) fun g hg => heap_set_other _ (own_ne (D.d k hk) D.hz (by decide) hg), D.h15⟩
end
section
open Go.RowKit Go.Sort
open Tm
theorem range_docR {w : World} {z : Nat} {p : Int} {c : Cf} {lv : Value} (h : w.heap[z]? = some (.cells (docRs p c lv) 105 (0, 0))) : w.rangeAt z 1 (cfs c) := fun j v hv => by
 refine cell_box h ?_
 have hj : j < (cfs c).length := (List.getElem?_eq_some_iff.1 hv).1
 show (.int .i64 p :: (cfs c ++ [lv])).toArray[1 + j]? = some v
 rw [List.getElem?_toArray, Nat.add_comm, List.getElem?_cons_succ, List.getElem?_append_left hj]
 exact hv
theorem docR_stores {p : Int} {c : Cf} {lv : Value} {ns : List Int} (hn : ns.length = 9) {cs : Array Value} (h1 : cs.size = 22) (h2 : ∀ k, k < 9 → cs[k + 1]? = some (.int .i64 (ns.getD k 0))) (h3 : ∀ k, (k = 0 ∨ 9 < k) → cs[k]? = (docRs p c lv)[k]?) : cs = docRs p (setHs c [0, 1, 2, 3, 4, 5, 6, 7, 8] ns) lv := by
 match ns, hn with
 | [a0, a1, a2, a3, a4, a5, a6, a7, a8], _ =>
   apply Array.ext_getElem?
   intro k
   by_cases hk : k < 22
   · have : k = 0 ∨ k = 1 ∨ k = 2 ∨ k = 3 ∨ k = 4 ∨ k = 5 ∨ k = 6 ∨ k = 7 ∨ k = 8 ∨ k = 9 ∨ k = 10 ∨ k = 11 ∨ k = 12 ∨ k = 13 ∨ k = 14 ∨ k = 15 ∨ k = 16 ∨ k = 17 ∨ k = 18 ∨ k = 19 ∨ k = 20 ∨ k = 21 := by omega
     rcases this with rfl | rfl | rfl | rfl | rfl | rfl | rfl | rfl | rfl | rfl | rfl | rfl | rfl | rfl | rfl | rfl | rfl | rfl | rfl | rfl | rfl | rfl
     · exact (h3 0 (by omega)).trans rfl
     · exact (h2 0 (by omega)).trans rfl
     · exact (h2 1 (by omega)).trans rfl
     · exact (h2 2 (by omega)).trans rfl
     · exact (h2 3 (by omega)).trans rfl
     · exact (h2 4 (by omega)).trans rfl
     · exact (h2 5 (by omega)).trans rfl
     · exact (h2 6 (by omega)).trans rfl
     · exact (h2 7 (by omega)).trans rfl
     · exact (h2 8 (by omega)).trans rfl
     · exact (h3 10 (by omega)).trans rfl
     · exact (h3 11 (by omega)).trans rfl
     · exact (h3 12 (by omega)).trans rfl
     · exact (h3 13 (by omega)).trans rfl
     · exact (h3 14 (by omega)).trans rfl
     · exact (h3 15 (by omega)).trans rfl
     · exact (h3 16 (by omega)).trans rfl
     · exact (h3 17 (by omega)).trans rfl
     · exact (h3 18 (by omega)).trans rfl
     · exact (h3 19 (by omega)).trans rfl
     · exact (h3 20 (by omega)).trans rfl
     · exact (h3 21 (by omega)).trans rfl
   · rw [Array.getElem?_eq_none (by omega), Array.getElem?_eq_none (by show 22 ≤ k; omega)]
theorem sml_at {l : List Int} (h : SmL l) : I64s l := fun k hk => by
 rw [List.getD_eq_getElem?_getD, List.getElem?_eq_getElem hk]
 have := h l[k] (List.getElem_mem hk)
 unfold smallI at this
 show -9223372036854775808 < l[k] ∧ l[k] ≤ 9223372036854775807
 omega
theorem numN_of {c : Cf} {X : Nat → Ch.Fd} {T : Nat → Te} {n : Nat} {Q : Nat → Tr} (H : DocN (docOf c X T n Q)) (hz : ∀ x ∈ (docOf c X T n Q).pkts, x.2.length ≤ 1000000) (he : ∀ i, i < c.tn → (T i).kn = (T i).bn) : NumN c X T n Q := by
 refine ⟨⟨sml_at H.h0, sml_at H.h1, sml_at H.h2, sml_at H.h3⟩, fun j hj => sml_at (H.f _ (List.mem_map.2 ⟨j, List.mem_range.2 hj, rfl⟩)), fun i hi => sml_at (H.t (teS (T i)) (List.mem_map.2 ⟨i, List.mem_range.2 hi, rfl⟩)).1, fun i j hi hj => sml_at ((H.t (teS (T i)) (List.mem_map.2 ⟨i, List.mem_range.2 hi, rfl⟩)).2 _ (List.mem_map.2 ⟨j, List.mem_range.2 hj, rfl⟩)), fun k hk => sml_at (H.p (trS (Q k)) (List.mem_map.2 ⟨k, List.mem_range.2 hk, rfl⟩)), fun k hk => hz (trS (Q k)) (List.mem_map.2 ⟨k, List.mem_range.2 hk, rfl⟩), he⟩
structure DocM (D : DocS) (m : Nat) : Prop where
 n : DocN D
 z : ∀ x ∈ D.pkts, x.2.length ≤ 1000000
 l : (textS D).length ≤ 4 + m
def Text24 : Prop := ∀ (c : Cf) (X : Nat → Ch.Fd) (T : Nat → Te) (a : Option Addr) (n cc : Nat) (Q : Nat → Tr) (w : World), CfIn w c X T → TrR w a n Q → n ≤ maxLen → NumN c X T n Q → (textS (docOf c X T n Q)).length ≤ 1000000 →
    Calls Tryz.prog 24 #[cfv c, .slice a n cc] w fun e w' => ∃ v, e = .returned v ∧ OwnS w' w.heap.size v (textS (docOf c X T n Q)) ∧ Below w.heap.size w w'
def RdPost (w : World) (B z : Nat) (o : Option (Nat × DocS)) (e : Ending) (w' : World) : Prop := match o with
 | some (p', D') => e = .returned (.bool true) ∧ (∃ c X T lv n Q, DocR w' B z (p' : Int) c X T lv n Q ∧ docOf c X T n Q = D') ∧ Below B w w'
 | none => e = .returned (.bool false) ∧ Below B w w'
theorem refOk_head {D : DocS} {s word : List UInt8} (hw : word ≠ wPacket) {p : Nat} (hp : p < 4) : refOk word p D s = decide ((textS D).getD (p - 1) [] = s) := by
 unfold refOk
 rw [if_neg hw, if_pos hp]
theorem refOk_tail {D : DocS} {s word : List UInt8} (hw : word ≠ wPacket) {p : Nat} (hp : 4 ≤ p) : refOk word p D s = decide ((textS D).getD (max ((textS D).length - 1) 3) [] = s) := by
 unfold refOk
 rw [if_neg hw, if_neg (by omega)]
theorem refOk_packet {D : DocS} {s : List UInt8} {p : Nat} : refOk wPacket p D s = decide ((textS D).getLastD [] = s ∧ 0 < ((D.pkts.getLastD ([], [])).2).length) := by
 unfold refOk
 rw [if_pos rfl]
theorem text_bounds (D : DocS) : D.fades.length ≤ (textS D).length ∧ D.terms.length ≤ (textS D).length ∧ D.pkts.length ≤ (textS D).length ∧ ∀ t ∈ D.terms, t.bs.length ≤ (textS D).length := by
 have e : (textS D).length = 4 + D.fades.length + (D.terms.flatMap termS).length + D.pkts.length := by
  unfold textS
  simp only [List.length_append, List.length_cons, List.length_nil, List.length_map]
 have h1 : ∀ T : List TermS, T.length ≤ (T.flatMap termS).length ∧ ∀ t ∈ T, t.bs.length ≤ (T.flatMap termS).length := fun T => by
  induction T with
  | nil => exact ⟨Nat.le_refl _, fun t h => by cases h⟩
  | cons a T ih =>
    have ea : ((a :: T).flatMap termS).length = 1 + a.bs.length + (T.flatMap termS).length := by
     rw [List.flatMap_cons, List.length_append]
     simp [termS]
     omega
    rw [ea]
    refine ⟨by rw [List.length_cons]; have := ih.1; omega, fun t ht => ?_⟩
    rcases List.mem_cons.1 ht with rfl | ht
    · omega
    · have := ih.2 t ht; omega
 have h2 := h1 D.terms
 rw [e]
 refine ⟨by omega, by have := h2.1; omega, by omega, fun t ht => by have := h2.2 t ht; omega⟩
theorem DocR.set15 {w : World} {B z : Nat} {p : Int} {c : Cf} {X : Nat → Ch.Fd} {T : Nat → Te} {lv : Value} {n : Nat} {Q : Nat → Tr} (D : DocR w B z p c X T lv n Q) : DocR (w.setCell ⟨z, 16, none⟩ (.int .i64 0)) B z p c X T lv n Q := by
 refine D.rows (fun i _ hi => heap_set_other _ hi) ?_ ⟨rfl, rfl, rfl⟩ ⟨rfl, rfl, rfl⟩ rfl D.h15
 rw [heap_set_same D.hz]
 have e : (docRs p c lv).setIfInBounds 16 (.int .i64 0) = docRs p c lv := by
  have h := D.h15
  show (.int .i64 p :: (cfs c ++ [lv])).toArray.setIfInBounds 16 (.int .i64 0) = (.int .i64 p :: (cfs c ++ [lv])).toArray
  unfold cfs
  rw [h]
  rfl
 rw [e]
end
section
theorem textS_length (D : DocS) : (textS D).length = 4 + D.fades.length + (D.terms.flatMap termS).length + D.pkts.length := by
 unfold textS
 simp only [List.length_append, List.length_cons, List.length_nil, List.length_map]
theorem termS_length (t : TermS) : (termS t).length = 1 + t.bs.length := by
 simp [termS]
 omega
theorem putB_len (D : DocS) (ns : List Int) : ((putB D ns).terms.flatMap termS).length ≤ (D.terms.flatMap termS).length + 1 ∧ (putB D ns).fades = D.fades ∧ (putB D ns).pkts = D.pkts := by
 refine ⟨?_, rfl, rfl⟩
 rcases List.eq_nil_or_concat D.terms with h | ⟨T, t, h⟩
 · unfold putB
   simp [h]
 · rw [List.concat_eq_append] at h
   rw [putB_terms h, h]
   simp only [List.flatMap_append, List.length_append, List.flatMap_cons, List.flatMap_nil, List.append_nil, termS_length, List.length_cons, List.length_nil]
   omega
theorem refS (s : List UInt8) (k : Nat) : SmL (refNums s k) := refNums_small s k
theorem last_mem {M : List (List UInt8)} (h : M ≠ []) : M.getLastD [] ∈ M := by
 rw [List.getLastD_eq_getLast?, List.getLast?_eq_some_getLast h]
 exact List.getLast_mem h
theorem docM_new {p p' : Nat} {D D' : DocS} {s : List UInt8} {m : Nat} (hs : s.length ≤ 1000000) (H : DocM D m) (he : refNew p D s = some (p', D')) : DocM D' (m + 1) := by
 have hl := H.l
 have e0 := textS_length D
 have key : ∀ (h0 h1 h2 h3 : List Int) (F : List (List Int)) (T : List TermS) (P : List (List Int × List UInt8)), F.length + (T.flatMap termS).length + P.length ≤ D.fades.length + (D.terms.flatMap termS).length + D.pkts.length + 1 → (textS ⟨h0, h1, h2, h3, F, T, P⟩).length ≤ 4 + (m + 1) := fun h0 h1 h2 h3 F T P h => by
  rw [textS_length]
  show 4 + F.length + (T.flatMap termS).length + P.length ≤ _
  omega
 unfold refNew at he
 split at he
 · injection he with he; injection he with h1 h2; subst h1 h2
   exact ⟨{ H.n with h0 := refS _ _ }, H.z, key _ _ _ _ _ _ _ (by omega)⟩
 · split at he
   · injection he with he; injection he with h1 h2; subst h1 h2
     exact ⟨{ H.n with h1 := refS _ _ }, H.z, key _ _ _ _ _ _ _ (by omega)⟩
   · split at he
     · injection he with he; injection he with h1 h2; subst h1 h2
       exact ⟨{ H.n with h2 := refS _ _ }, H.z, key _ _ _ _ _ _ _ (by omega)⟩
     · split at he
       · injection he with he; injection he with h1 h2; subst h1 h2
         exact ⟨{ H.n with h3 := refS _ _ }, H.z, key _ _ _ _ _ _ _ (by omega)⟩
       · split at he
         · injection he with he; injection he with h1 h2; subst h1 h2
           refine ⟨{ H.n with f := fun l hl => ?_ }, H.z, key _ _ _ _ _ _ _ (by rw [List.length_append]; simp only [List.length_cons, List.length_nil]; omega)⟩
           rcases List.mem_append.1 hl with hl | hl
           · exact H.n.f l hl
           · rw [List.mem_singleton.1 hl]; exact refS _ _
         · split at he
           · injection he with he; injection he with h1 h2; subst h1 h2
             refine ⟨{ H.n with t := fun l hl => ?_ }, H.z, key _ _ _ _ _ _ _ (by
              rw [List.flatMap_append, List.length_append]
              simp only [List.flatMap_cons, List.flatMap_nil, List.append_nil, termS_length, List.length_nil]
              omega)⟩
             rcases List.mem_append.1 hl with hl | hl
             · exact H.n.t l hl
             · rw [List.mem_singleton.1 hl]; exact ⟨refS _ _, fun l h => by cases h⟩
           · split at he
             · injection he with he; injection he with h1 h2; subst h1 h2
               have hp := putB_len D (refNums s 15)
               refine ⟨{ H.n with t := fun l hl => ?_ }, H.z, key _ _ _ _ _ (putB D (refNums s 15)).terms _ (by have := hp.1; omega)⟩
               rcases List.mem_append.1 hl with hl | hl
               · exact H.n.t l (List.dropLast_subset _ hl)
               · cases hg : D.terms.getLast? with
                 | none => rw [hg] at hl; cases hl
                 | some t =>
                   rw [hg] at hl
                   have ht := List.mem_of_getLast? hg
                   rw [List.mem_singleton.1 hl]
                   refine ⟨(H.n.t t ht).1, fun l2 h2 => ?_⟩
                   rcases List.mem_append.1 h2 with h2 | h2
                   · exact (H.n.t t ht).2 l2 h2
                   · rw [List.mem_singleton.1 h2]; exact refS _ _
             · split at he
               · injection he with he; injection he with h1 h2; subst h1 h2
                 refine ⟨{ H.n with p := fun x hx => ?_ }, fun x hx => ?_, key _ _ _ _ _ _ _ (by rw [List.length_append]; simp only [List.length_cons, List.length_nil]; omega)⟩
                 · rcases List.mem_append.1 hx with hx | hx
                   · exact H.n.p x hx
                   · rw [List.mem_singleton.1 hx]; exact refS _ _
                 · rcases List.mem_append.1 hx with hx | hx
                   · exact H.z x hx
                   · rw [List.mem_singleton.1 hx]
                     have h5 := spl_len 32 s _ (last_mem (spl_ne 32 s))
                     have h6 := hexR_len ((spl 32 s).getLastD [])
                     show (hexR ((spl 32 s).getLastD [])).length ≤ 1000000
                     omega
               · cases he
theorem docM0 : DocM doc0 0 := ⟨docN0, fun x h => (by cases h), by rw [textS_length]; exact Nat.le_refl _⟩
theorem stepR_some {p p' : Nat} {D D' : DocS} {s : List UInt8} (h : refNew p D s = some (p', D')) : stepR p D s = if refOk ((spl 32 s).headD []) p' D' s = true then some (p', D') else none := by
 unfold stepR
 rw [h]
theorem stepR_none {p : Nat} {D : DocS} {s : List UInt8} (h : refNew p D s = none) : stepR p D s = none := by
 unfold stepR
 rw [h]
end
end Go.Proofs.YtgflfdnajchjaaaGreatDoor
