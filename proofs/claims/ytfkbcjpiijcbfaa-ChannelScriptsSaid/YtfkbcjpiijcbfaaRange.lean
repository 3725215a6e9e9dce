/- A range over an iterator that never ends by itself: the body leaves it at round N. Nothing of the program is named here. -/
import Derived.Test.YtfkbcjpiijcbfaaTailN
import Derived.RangeFuncFrom
import Derived.RangeFuncLeaves
import Derived.Shelf.Abstract
namespace Go.Proofs.Ytfkbcjpiijcbfaa
set_option linter.unusedVariables false
set_option linter.unusedSimpArgs false
open Go.RowKit Go.Sort
section
variable {P : Program}
/-- How a round's body may be left: below N off its end, at N by the jump out of the loop. -/
def roundEnd (N brk : Nat) (J : Nat → World → Prop) (k : Nat) (W : World) : Exit → Act → World → Prop
  | .normal, _, W' => k < N ∧ KeepsOthers W W' ∧ J (k + 1) W'
  | .exit id, _, W' => k = N ∧ id = brk ∧ KeepsOthers W W' ∧ J N W'
  | _, _, _ => False
/-- An iterator that hands out x 0, x 1, .. until it is told to stop. -/
def GivesTill (P : Program) (gf : Nat) (lb : Array Value) (x : Nat → Value) (N : Nat) (W : World) : Prop :=
  ∀ (l : Nat) (I : Nat → World → Prop) (Ix : World → Prop), I 0 W →
    (∀ k W1, k ≤ N → I k W1 → YieldAt Fence.wide 1 P l #[x k] W1 fun e W' => (k < N ∧ e = .returned (.bool true) ∧ I (k + 1) W') ∨ (k = N ∧ e = .returned (.bool false) ∧ Ix W')) →
    CallsIn Fence.wide 2 P gf (#[.func (.yield l) #[] #[]] ++ lb) W fun e W' => (∃ v, e = .returned v) ∧ Ix W'
theorem wpIn_rangeFunc_till {g : Operand} {assign body : Code} {Q : Exit → Act → World → Prop} {a : Act} {w : World} {p : Tmp} {gf N brk : Nat} {lb : Array Value} {x : Nat → Value}
    (hg : a.eval g = .func (.func gf) #[] lb) (eg : ∀ args w, (callFunc gf args).run P w = .ok (.enter gf args) w)
    (J : Nat → World → Prop) (hJ : OwnFrom w.heap.size J) (h0 : J 0 w) (hit : ∀ W, Below w.heap.size w W → GivesTill P gf lb x N W) (a₁ : Nat → Act)
    (hassign : ∀ (l k : Nat) (W : World) (K : Act → World → Prop), K (a₁ k) W → assign.wpIn (Fence.wide.inRound l) 1 P (Exit.then K (fun _ _ _ => False)) { tmps := a.tmps.setIfInBounds p (x k), defers := [] } W)
    (hbody : ∀ (l k : Nat) (W : World), k ≤ N → J k W → body.wpIn (Fence.wide.inRound l) 1 P (roundEnd N brk J k W) (a₁ k) W)
    (hstop : ∀ (D : Nat) (W : World), w.heap.size ≤ D → J N W → W.heap[D]? = some (.deferred (some [])) → (Code.exit brk).wpIn Fence.wide 3 P Q { a with defers := { target := .collected D, args := #[] } :: a.defers } W) :
    (Code.rangeFunc g #[p] assign body).wpIn Fence.wide 3 P Q a w := by
  refine wpIn_rangeFunc fun fn _ => ?_
  let mk : LoopState → Option Code → Loop := fun st pe => { state := st, pending := pe, fn, tmps := a.tmps, params := #[p], assign, body, defers := w.heap.size }
  have hlaid : ∀ k, k < w.heap.size → ((w.alloc (.deferred (some []))).alloc (.loop (mk .ready none))).heap[k]? = w.heap[k]? := fun k hk => (Below.heap_alloc _ _ k (by simp; omega)).trans (Below.heap_alloc _ _ k hk)
  have hL : ((w.alloc (.deferred (some []))).alloc (.loop (mk .ready none))).heap[w.heap.size + 1]? = some (.loop (mk .ready none)) := by
    have := World.alloc_heap_new (w.alloc (.deferred (some []))) (.loop (mk .ready none))
    rwa [World.size_alloc] at this
  have hD : ((w.alloc (.deferred (some []))).alloc (.loop (mk .ready none))).heap[w.heap.size]? = some (.deferred (some [])) := (Below.heap_alloc _ _ _ (by simp)).trans (World.alloc_heap_new w _)
  refine ⟨w.heap.size + 1, [{ target := .collected w.heap.size, args := #[] }], (w.alloc (.deferred (some []))).alloc (.loop (mk .ready none)), { target := .fn (.func gf) lb, args := #[.func (.yield (w.heap.size + 1)) #[] #[]] }, (w.alloc (.deferred (some []))).alloc (.loop (mk .ready none)), gf, #[.func (.yield (w.heap.size + 1)) #[] #[]] ++ lb, (w.alloc (.deferred (some []))).alloc (.loop (mk .ready none)), run_enterLoop_outer _ _ _ _ _, ?_, fun _ _ => trivial, ?_, fun h => (by simp [Fence.wide] at h), ?_⟩
  · simp only [resolve, hg]
    simp [go_sem]
  · simp [invoke, go_sem, eg]
  · refine (hit _ (((Below.refl _ _).alloc (Nat.le_refl _) _).alloc (by simp) _) (w.heap.size + 1)
      (fun k W => J k W ∧ W.heap[w.heap.size + 1]? = some (.loop (mk .ready none)) ∧ W.heap[w.heap.size]? = some (.deferred (some [])))
      (fun W => J N W ∧ W.heap[w.heap.size + 1]? = some (.loop (mk .done (some (.exit brk)))) ∧ W.heap[w.heap.size]? = some (.deferred (some [])))
      ⟨hJ.alloc _ (hJ.alloc _ h0), hL, hD⟩ ?_).mono ?_
    · rintro k W hk ⟨hj, hl, hd⟩
      have hlt := (Array.getElem?_eq_some_iff.1 hl).1
      have hy : (Instr.yield (w.heap.size + 1) #[x k]).run P W = .ok (.round (w.heap.size + 1) fn (a.tmps.setIfInBounds p (x k)) assign body) W := by simpa [mk] using run_yield (P := P) (args := #[x k]) hl rfl
      refine ⟨fn, _, assign, body, hy, ?_⟩
      refine roundIn_of_wpIn trivial ?_
      refine hassign _ k W _ ?_
      refine ⟨_, run_beginRound hl rfl, ?_⟩
      have hl2 : (W.putObj (w.heap.size + 1) (.loop { mk .ready none with state := .busy })).heap[w.heap.size + 1]? = some (.loop { mk .ready none with state := .busy }) := World.putObj_heap_same hlt
      have hd2 : (W.putObj (w.heap.size + 1) (.loop { mk .ready none with state := .busy })).heap[w.heap.size]? = some (.deferred (some [])) := (World.putObj_heap_other (by omega)).trans hd
      refine wpIn_mono (hbody _ k _ hk (hJ.putObj _ hj (by omega) hl rfl)) ?_
      intro e b W3 he
      cases e with
      | normal =>
        obtain ⟨h1, h2, h3⟩ := he
        have hl3 := h2.same _ _ hl2 rfl
        exact ⟨_, _, run_endRound none hl3, .inl ⟨h1, rfl, hJ.putObj _ h3 (by omega) hl3 rfl, World.putObj_heap_same (Array.getElem?_eq_some_iff.1 hl3).1, (World.putObj_heap_other (by omega)).trans (h2.same _ _ hd2 rfl)⟩⟩
      | exit id =>
        obtain ⟨h1, rfl, h2, h3⟩ := he
        have hl3 := h2.same _ _ hl2 rfl
        exact ⟨_, _, run_endRound (some (.exit id)) hl3, .inr ⟨h1, rfl, hJ.putObj _ h3 (by omega) hl3 rfl, World.putObj_heap_same (Array.getElem?_eq_some_iff.1 hl3).1, (World.putObj_heap_other (by omega)).trans (h2.same _ _ hd2 rfl)⟩⟩
      | ret => exact he.elim
      | goto t => exact he.elim
      | panic c => exact he.elim
      | outgrown => exact he.elim
    · rintro e W2 ⟨⟨v, rfl⟩, h1, h2, h3⟩
      exact ⟨_, _, run_endLoop (P := P) h2 (by simp [mk]), hstop _ _ (Nat.le_refl _) (hJ.putObj _ h1 (by omega) h2 rfl) ((World.putObj_heap_other (by omega)).trans h3)⟩
/-- .. where the loop has one variable. -/
theorem wpIn_rangeFunc_till1 {g : Operand} {body : Code} {Q : Exit → Act → World → Prop} {tm : Array Value} {ds : List Deferred} {w : World} {p d : Tmp} {gf N brk id : Nat} {lb : Array Value} {x : Nat → Value} {o : Oper}
    (hg : ({ tmps := tm, defers := ds } : Act).eval g = .func (.func gf) #[] lb) (eg : ∀ args w, (callFunc gf args).run P w = .ok (.enter gf args) w)
    (ho : o.op = .assign (.tmp p)) (hd : o.dst = some d) (hgd : o.guard = none) (hp : p < tm.size) (J : Nat → World → Prop) (hJ : OwnFrom w.heap.size J) (h0 : J 0 w) (hit : ∀ W, Below w.heap.size w W → GivesTill P gf lb x N W)
    (hbody : ∀ (l k : Nat) (W : World), k ≤ N → J k W → body.wpIn (Fence.wide.inRound l) 1 P (roundEnd N brk J k W) { tmps := (tm.setIfInBounds p (x k)).setIfInBounds d (x k), defers := [] } W)
    (hstop : ∀ (D : Nat) (W : World), w.heap.size ≤ D → J N W → W.heap[D]? = some (.deferred (some [])) → (Code.exit brk).wpIn Fence.wide 3 P Q { tmps := tm, defers := { target := .collected D, args := #[] } :: ds } W) :
    (Code.rangeFunc g #[p] (Code.region id #[o] false) body).wpIn Fence.wide 3 P Q { tmps := tm, defers := ds } w := by
  refine wpIn_rangeFunc_till hg eg J hJ h0 hit (fun k => { tmps := (tm.setIfInBounds p (x k)).setIfInBounds d (x k), defers := [] }) (fun l k W K hK => ?_) hbody hstop
  refine wpIn_region_list ?_
  have hev : ({ tmps := tm.setIfInBounds p (x k), defers := [] } : Act).eval (.tmp p) = x k := by
    show (tm.setIfInBounds p (x k)).getD p undef = x k
    simp [hp]
  have hrun : (execOp ({ tmps := tm.setIfInBounds p (x k), defers := [] } : Act).eval o).run P W = .ok (.value (x k)) W := by
    unfold execOp
    rw [ho]
    simp only [hev]
    rfl
  unfold wpListIn
  rw [if_pos (by simp [Region.wanted, hgd])]
  refine wpIn_round_of_wp (fun c e => by rw [ho] at e; cases e) ?_
  unfold Oper.wp
  rw [hrun]
  show K (({ tmps := tm.setIfInBounds p (x k), defers := [] } : Act).put o.dst (x k)) W
  rw [hd]
  exact hK
end
end Go.Proofs.Ytfkbcjpiijcbfaa
