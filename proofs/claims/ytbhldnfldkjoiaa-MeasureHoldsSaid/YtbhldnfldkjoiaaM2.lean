/- Layer 37: new measurements, and whether two are the same. -/
import Derived.Test.YtbhldnfldkjoiaaM1
namespace Go.Proofs.Ytbhldnfldkjoiaa
set_option linter.unusedVariables false
set_option linter.unusedSimpArgs false
open Go.RowKit Go.Sort
attribute [local go_sem] gcell

/-- A measurement as it lies in memory. -/
def Sg (w : World) (v : Value) (n m : Nat) (fs hs : Nat → Int) : Prop :=
  ∃ a d c l, v = sv a d n c m l ∧ (a = none → n = 0) ∧ (d = none → m = 0) ∧ Row w a n fs ∧ Row w d m hs
theorem Sg.mono {W w : World} {v : Value} {n m : Nat} {fs hs : Nat → Int} (S : Sg W v n m fs hs) (hb : Below W.heap.size W w) : Sg w v n m fs hs := by
  obtain ⟨a, d, c, l, h1, h2, h3, h4, h5⟩ := S
  exact ⟨a, d, c, l, h1, h2, h3, h4.mono hb, h5.mono hb⟩
/-- What hands back a measurement and a word. -/
def SR (n m : Nat) (fs hs : Nat → Int) (E : Int) (w : World) (e : Ending) (w' : World) : Prop :=
  ∃ v, e = .returned (.tuple #[v, .int .i64 E]) ∧ Sg w' v n m fs hs ∧ Below w.heap.size w w'

/-- .. of which the lists lie from block B on. -/
def Fr (B : Nat) (v : Value) : Prop := ∃ a d n c m l, v = sv a d n c m l ∧ (0 < n → ∃ b, a = some ⟨b, 0, none⟩ ∧ B ≤ b) ∧ (0 < m → ∃ b, d = some ⟨b, 0, none⟩ ∧ B ≤ b)
def SRL (L : Value → Prop) (n m : Nat) (fs hs : Nat → Int) (E : Int) (w : World) (e : Ending) (w' : World) : Prop :=
  ∃ v, e = .returned (.tuple #[v, .int .i64 E]) ∧ Sg w' v n m fs hs ∧ Below w.heap.size w w' ∧ L v
theorem SRL.sr {L : Value → Prop} {n m : Nat} {fs hs : Nat → Int} {E : Int} {w : World} {e : Ending} {w' : World} (h : SRL L n m fs hs E w e w') : SR n m fs hs E w e w' := by
  obtain ⟨v, h1, h2, h3, _⟩ := h
  exact ⟨v, h1, h2, h3⟩
def zz : Nat → Int := fun _ => 0
def newE (x : Int) : Int := if 1 ≤ x ∧ x ≤ 3 then 0 else 3
def newN (x : Int) : Nat := if 1 ≤ x ∧ x ≤ 3 then x.toNat else 0

theorem new_end (w : World) (n p q : Nat) (Z : Array Value) (o : Obj) (hz : ∀ k, k < n → Z[k]? = some (.int .i64 0)) (hp : p = w.heap.size + 1 ∨ p = w.heap.size + 1 + 1) (hq : q = w.heap.size + 1 ∨ q = w.heap.size + 1 + 1) :
    SRL (Fr w.heap.size) n n zz zz 0 w (.returned (.tuple #[sv (some ⟨p, 0, none⟩) (some ⟨q, 0, none⟩) n n n n, .int .i64 0])) (((w.alloc o).alloc (.cells Z 3)).alloc (.cells Z 3)).drew := by
  refine ⟨_, rfl, ⟨_, _, _, _, rfl, fun h => (by cases h), fun h => (by cases h), ⟨p, 0, fun _ => rfl, fun k hk => ?_⟩, ⟨q, 0, fun _ => rfl, fun k hk => ?_⟩⟩, (((Below.refl _ _).alloc (Nat.le_refl _) _).alloc (by simp) _).alloc (by simp; omega) _ |>.drew, ⟨_, _, _, _, _, _, rfl, fun _ => ⟨p, rfl, by omega⟩, fun _ => ⟨q, rfl, by omega⟩⟩⟩
  · rw [Nat.zero_add]
    rcases hp with rfl | rfl
    · simpa [go_sem, zz] using hz k hk
    · simpa [go_sem, zz] using hz k hk
  · rw [Nat.zero_add]
    rcases hq with rfl | rfl
    · simpa [go_sem, zz] using hz k hk
    · simpa [go_sem, zz] using hz k hk

theorem mk1 (w : World) : (Instr.makeSlice 24 (.int .i64 1) (.int .i64 1)).run Try.prog w = .ok (.slice (some ⟨w.heap.size, 0, none⟩) 1 1) (w.alloc (.cells #[.int .i64 0] 3)) := by kernel_rfl
theorem mk2 (w : World) : (Instr.makeSlice 24 (.int .i64 2) (.int .i64 2)).run Try.prog w = .ok (.slice (some ⟨w.heap.size, 0, none⟩) 2 2) (w.alloc (.cells #[.int .i64 0, .int .i64 0] 3)) := by kernel_rfl
theorem mk3 (w : World) : (Instr.makeSlice 24 (.int .i64 3) (.int .i64 3)).run Try.prog w = .ok (.slice (some ⟨w.heap.size, 0, none⟩) 3 3) (w.alloc (.cells #[.int .i64 0, .int .i64 0, .int .i64 0] 3)) := by kernel_rfl


set_option maxHeartbeats 2000000 in
theorem new9L (x : Int) (w : World) : Calls Try.prog 9 #[.int .i64 x] w (SRL (Fr w.heap.size) (newN x) (newN x) zz zz (newE x) w) := by
  by_cases h : 1 ≤ x ∧ x ≤ 3
  · have hE : newE x = 0 := if_pos h
    have hN : newN x = x.toNat := if_pos h
    rw [hE, hN]
    clear hE hN
    have h3 : x = 1 ∨ x = 2 ∨ x = 3 := by omega
    clear h
    have m1 := mk1
    have m2 := mk2
    have m3 := mk3
    rcases h3 with rfl | rfl | rfl
    · show Calls Try.prog 9 #[.int .i64 1] w (SRL (Fr w.heap.size) 1 1 zz zz 0 w)
      go_enter Try.func9, Try.ntmps9
      go_wp2_with fail
      go_region
      · go_wp2
        refine bodyPost_ret (v := .tuple #[sv (some ⟨w.heap.size + 1, 0, none⟩) (some ⟨w.heap.size + 1 + 1, 0, none⟩) 1 1 1 1, .int .i64 0]) (by simp [results, Try.results9, go_sem, cell_set, sv]) rfl ?_
        exact new_end w 1 (w.heap.size + 1) (w.heap.size + 1 + 1) #[.int .i64 0] _ (fun k hk => by match k, hk with | 0, _ => rfl) (by simp) (by simp)
      · go_wp2
        refine bodyPost_ret (v := .tuple #[sv (some ⟨w.heap.size + 1 + 1, 0, none⟩) (some ⟨w.heap.size + 1, 0, none⟩) 1 1 1 1, .int .i64 0]) (by simp [results, Try.results9, go_sem, cell_set, sv]) rfl ?_
        exact new_end w 1 (w.heap.size + 1 + 1) (w.heap.size + 1) #[.int .i64 0] _ (fun k hk => by match k, hk with | 0, _ => rfl) (by simp) (by simp)
    · show Calls Try.prog 9 #[.int .i64 2] w (SRL (Fr w.heap.size) 2 2 zz zz 0 w)
      go_enter Try.func9, Try.ntmps9
      go_wp2_with fail
      go_region
      · go_wp2
        refine bodyPost_ret (v := .tuple #[sv (some ⟨w.heap.size + 1, 0, none⟩) (some ⟨w.heap.size + 1 + 1, 0, none⟩) 2 2 2 2, .int .i64 0]) (by simp [results, Try.results9, go_sem, cell_set, sv]) rfl ?_
        exact new_end w 2 (w.heap.size + 1) (w.heap.size + 1 + 1) #[.int .i64 0, .int .i64 0] _ (fun k hk => by match k, hk with | 0, _ => rfl | 1, _ => rfl) (by simp) (by simp)
      · go_wp2
        refine bodyPost_ret (v := .tuple #[sv (some ⟨w.heap.size + 1 + 1, 0, none⟩) (some ⟨w.heap.size + 1, 0, none⟩) 2 2 2 2, .int .i64 0]) (by simp [results, Try.results9, go_sem, cell_set, sv]) rfl ?_
        exact new_end w 2 (w.heap.size + 1 + 1) (w.heap.size + 1) #[.int .i64 0, .int .i64 0] _ (fun k hk => by match k, hk with | 0, _ => rfl | 1, _ => rfl) (by simp) (by simp)
    · show Calls Try.prog 9 #[.int .i64 3] w (SRL (Fr w.heap.size) 3 3 zz zz 0 w)
      go_enter Try.func9, Try.ntmps9
      go_wp2_with fail
      go_region
      · go_wp2
        refine bodyPost_ret (v := .tuple #[sv (some ⟨w.heap.size + 1, 0, none⟩) (some ⟨w.heap.size + 1 + 1, 0, none⟩) 3 3 3 3, .int .i64 0]) (by simp [results, Try.results9, go_sem, cell_set, sv]) rfl ?_
        exact new_end w 3 (w.heap.size + 1) (w.heap.size + 1 + 1) #[.int .i64 0, .int .i64 0, .int .i64 0] _ (fun k hk => by match k, hk with | 0, _ => rfl | 1, _ => rfl | 2, _ => rfl) (by simp) (by simp)
      · go_wp2
        refine bodyPost_ret (v := .tuple #[sv (some ⟨w.heap.size + 1 + 1, 0, none⟩) (some ⟨w.heap.size + 1, 0, none⟩) 3 3 3 3, .int .i64 0]) (by simp [results, Try.results9, go_sem, cell_set, sv]) rfl ?_
        exact new_end w 3 (w.heap.size + 1 + 1) (w.heap.size + 1) #[.int .i64 0, .int .i64 0, .int .i64 0] _ (fun k hk => by match k, hk with | 0, _ => rfl | 1, _ => rfl | 2, _ => rfl) (by simp) (by simp)
  · have hE : newE x = 3 := if_neg h
    have hN : newN x = 0 := if_neg h
    rw [hE, hN]
    clear hE hN
    have h3 : x < 1 ∨ 3 < x := by omega
    clear h
    rcases h3 with h3 | h3
    all_goals
      go_enter Try.func9, Try.ntmps9
      go_wp2
      refine bodyPost_ret (v := .tuple #[.agg #[.slice none 0 0, .slice none 0 0], .int .i64 3]) (by simp [results, Try.results9, go_sem, cell_set]) rfl ?_
      exact ⟨_, rfl, ⟨none, none, 0, 0, rfl, by simp, by simp, Row.zero _ _ _, Row.zero _ _ _⟩, (Below.refl _ _).alloc (Nat.le_refl _) _, ⟨none, none, 0, 0, 0, 0, rfl, by simp, by simp⟩⟩


set_option maxHeartbeats 2000000 in
theorem new10L (x : Int) (w : World) : Calls Try.prog 10 #[.int .i64 x] w (SRL (Fr w.heap.size) (newN x) (newN x) zz zz (newE x) w) := by
  by_cases h : 1 ≤ x ∧ x ≤ 3
  · have hE : newE x = 0 := if_pos h
    have hN : newN x = x.toNat := if_pos h
    rw [hE, hN]
    clear hE hN
    have h3 : x = 1 ∨ x = 2 ∨ x = 3 := by omega
    clear h
    have m1 := mk1
    have m2 := mk2
    have m3 := mk3
    rcases h3 with rfl | rfl | rfl
    · show Calls Try.prog 10 #[.int .i64 1] w (SRL (Fr w.heap.size) 1 1 zz zz 0 w)
      go_enter Try.func10, Try.ntmps10
      go_wp2_with fail
      go_region
      · go_wp2
        refine bodyPost_ret (v := .tuple #[sv (some ⟨w.heap.size + 1, 0, none⟩) (some ⟨w.heap.size + 1 + 1, 0, none⟩) 1 1 1 1, .int .i64 0]) (by simp [results, Try.results10, go_sem, cell_set, sv]) rfl ?_
        exact new_end w 1 (w.heap.size + 1) (w.heap.size + 1 + 1) #[.int .i64 0] _ (fun k hk => by match k, hk with | 0, _ => rfl) (by simp) (by simp)
      · go_wp2
        refine bodyPost_ret (v := .tuple #[sv (some ⟨w.heap.size + 1 + 1, 0, none⟩) (some ⟨w.heap.size + 1, 0, none⟩) 1 1 1 1, .int .i64 0]) (by simp [results, Try.results10, go_sem, cell_set, sv]) rfl ?_
        exact new_end w 1 (w.heap.size + 1 + 1) (w.heap.size + 1) #[.int .i64 0] _ (fun k hk => by match k, hk with | 0, _ => rfl) (by simp) (by simp)
    · show Calls Try.prog 10 #[.int .i64 2] w (SRL (Fr w.heap.size) 2 2 zz zz 0 w)
      go_enter Try.func10, Try.ntmps10
      go_wp2_with fail
      go_region
      · go_wp2
        refine bodyPost_ret (v := .tuple #[sv (some ⟨w.heap.size + 1, 0, none⟩) (some ⟨w.heap.size + 1 + 1, 0, none⟩) 2 2 2 2, .int .i64 0]) (by simp [results, Try.results10, go_sem, cell_set, sv]) rfl ?_
        exact new_end w 2 (w.heap.size + 1) (w.heap.size + 1 + 1) #[.int .i64 0, .int .i64 0] _ (fun k hk => by match k, hk with | 0, _ => rfl | 1, _ => rfl) (by simp) (by simp)
      · go_wp2
        refine bodyPost_ret (v := .tuple #[sv (some ⟨w.heap.size + 1 + 1, 0, none⟩) (some ⟨w.heap.size + 1, 0, none⟩) 2 2 2 2, .int .i64 0]) (by simp [results, Try.results10, go_sem, cell_set, sv]) rfl ?_
        exact new_end w 2 (w.heap.size + 1 + 1) (w.heap.size + 1) #[.int .i64 0, .int .i64 0] _ (fun k hk => by match k, hk with | 0, _ => rfl | 1, _ => rfl) (by simp) (by simp)
    · show Calls Try.prog 10 #[.int .i64 3] w (SRL (Fr w.heap.size) 3 3 zz zz 0 w)
      go_enter Try.func10, Try.ntmps10
      go_wp2_with fail
      go_region
      · go_wp2
        refine bodyPost_ret (v := .tuple #[sv (some ⟨w.heap.size + 1, 0, none⟩) (some ⟨w.heap.size + 1 + 1, 0, none⟩) 3 3 3 3, .int .i64 0]) (by simp [results, Try.results10, go_sem, cell_set, sv]) rfl ?_
        exact new_end w 3 (w.heap.size + 1) (w.heap.size + 1 + 1) #[.int .i64 0, .int .i64 0, .int .i64 0] _ (fun k hk => by match k, hk with | 0, _ => rfl | 1, _ => rfl | 2, _ => rfl) (by simp) (by simp)
      · go_wp2
        refine bodyPost_ret (v := .tuple #[sv (some ⟨w.heap.size + 1 + 1, 0, none⟩) (some ⟨w.heap.size + 1, 0, none⟩) 3 3 3 3, .int .i64 0]) (by simp [results, Try.results10, go_sem, cell_set, sv]) rfl ?_
        exact new_end w 3 (w.heap.size + 1 + 1) (w.heap.size + 1) #[.int .i64 0, .int .i64 0, .int .i64 0] _ (fun k hk => by match k, hk with | 0, _ => rfl | 1, _ => rfl | 2, _ => rfl) (by simp) (by simp)
  · have hE : newE x = 3 := if_neg h
    have hN : newN x = 0 := if_neg h
    rw [hE, hN]
    clear hE hN
    have h3 : x < 1 ∨ 3 < x := by omega
    clear h
    rcases h3 with h3 | h3
    all_goals
      go_enter Try.func10, Try.ntmps10
      go_wp2
      refine bodyPost_ret (v := .tuple #[.agg #[.slice none 0 0, .slice none 0 0], .int .i64 3]) (by simp [results, Try.results10, go_sem, cell_set]) rfl ?_
      exact ⟨_, rfl, ⟨none, none, 0, 0, rfl, by simp, by simp, Row.zero _ _ _, Row.zero _ _ _⟩, (Below.refl _ _).alloc (Nat.le_refl _) _, ⟨none, none, 0, 0, 0, 0, rfl, by simp, by simp⟩⟩

theorem new9 (x : Int) (w : World) : Calls Try.prog 9 #[.int .i64 x] w (SR (newN x) (newN x) zz zz (newE x) w) := (new9L x w).mono fun _ _ h => h.sr
theorem new10 (x : Int) (w : World) : Calls Try.prog 10 #[.int .i64 x] w (SR (newN x) (newN x) zz zz (newE x) w) := (new10L x w).mono fun _ _ h => h.sr
end Go.Proofs.Ytbhldnfldkjoiaa
