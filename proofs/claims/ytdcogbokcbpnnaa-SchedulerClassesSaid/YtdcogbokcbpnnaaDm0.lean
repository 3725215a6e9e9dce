/- Layer 34: demands that are made of numbers, in memory. -/
import Derived.Test.YtdcogbokcbpnnaaE0
import Derived.Test.YtdcogbokcbpnnaaDice
import Derived.Test.YtdcogbokcbpnnaaRowK
namespace Go.Proofs.Ytdcogbokcbpnnaa
set_option linter.unusedVariables false
set_option linter.unusedSimpArgs false
open Go.RowKit Go.Sort
attribute [local go_sem] gcell
def dz : Value := .agg #[.int .i64 0, .int .i64 0, .int .i64 0, .int .i64 0, .int .i64 0, .int .i64 0, .int .i64 0]
theorem dInfo : (Try.prog.info? 41).map (fun i => (i.zero, i.size, i.bytes)) = some (some dz, 7, 56) := by kernel_rfl
/-- Demands cell by cell. -/
def dcell (X : Nat → Dm) (j : Nat) : Value := .int .i64 (if j % 7 = 0 then (X (j / 7)).q else if j % 7 = 1 then (X (j / 7)).ag else if j % 7 = 2 then (X (j / 7)).by' else if j % 7 = 3 then (X (j / 7)).mn else if j % 7 = 4 then (X (j / 7)).ow else if j % 7 = 5 then (X (j / 7)).dl else (X (j / 7)).cl)
theorem dcell_one (X : Nat → Dm) (j : Nat) : (dcell X j).oneCell' = true := rfl
theorem dcell0 (X : Nat → Dm) (k : Nat) : dcell X (k * 7) = .int .i64 (X k).q := by unfold dcell; rw [if_pos (by omega), show (k * 7) / 7 = k by omega]
theorem dcell1 (X : Nat → Dm) (k : Nat) : dcell X (k * 7 + 1) = .int .i64 (X k).ag := by unfold dcell; rw [if_neg (by omega), if_pos (by omega), show (k * 7 + 1) / 7 = k by omega]
theorem dcell2 (X : Nat → Dm) (k : Nat) : dcell X (k * 7 + 2) = .int .i64 (X k).by' := by unfold dcell; rw [if_neg (by omega), if_neg (by omega), if_pos (by omega), show (k * 7 + 2) / 7 = k by omega]
theorem dcell3 (X : Nat → Dm) (k : Nat) : dcell X (k * 7 + 3) = .int .i64 (X k).mn := by unfold dcell; rw [if_neg (by omega), if_neg (by omega), if_neg (by omega), if_pos (by omega), show (k * 7 + 3) / 7 = k by omega]
theorem dcell4 (X : Nat → Dm) (k : Nat) : dcell X (k * 7 + 4) = .int .i64 (X k).ow := by unfold dcell; rw [if_neg (by omega), if_neg (by omega), if_neg (by omega), if_neg (by omega), if_pos (by omega), show (k * 7 + 4) / 7 = k by omega]
theorem dcell5 (X : Nat → Dm) (k : Nat) : dcell X (k * 7 + 5) = .int .i64 (X k).dl := by unfold dcell; rw [if_neg (by omega), if_neg (by omega), if_neg (by omega), if_neg (by omega), if_neg (by omega), if_pos (by omega), show (k * 7 + 5) / 7 = k by omega]
theorem dcell6 (X : Nat → Dm) (k : Nat) : dcell X (k * 7 + 6) = .int .i64 (X k).cl := by unfold dcell; rw [if_neg (by omega), if_neg (by omega), if_neg (by omega), if_neg (by omega), if_neg (by omega), if_neg (by omega), show (k * 7 + 6) / 7 = k by omega]
def putD (X : Nat → Dm) (k : Nat) (x : Dm) (i : Nat) : Dm := if i = k then x else X i
theorem dcell_upd {X : Nat → Dm} {k : Nat} {x : Dm} (j : Nat) (hj : j < k * 7) : dcell (putD X k x) j = dcell X j := by
  have : j / 7 ≠ k := by omega
  unfold dcell putD
  rw [if_neg this]
theorem dcell_new {X : Nat → Dm} {k : Nat} {x0 x1 x2 x3 x4 x5 x6 : Int} (j : Nat) (h : j < 7) : (#[.int .i64 x0, .int .i64 x1, .int .i64 x2, .int .i64 x3, .int .i64 x4, .int .i64 x5, .int .i64 x6] : Array Value)[j]? = some (dcell (putD X k ⟨x0, x1, x2, x3, x4, x5, x6⟩) (k * 7 + j)) := by
  match j, h with
  | 0, _ => rw [Nat.add_zero, dcell0]; simp [putD]
  | 1, _ => rw [dcell1]; simp [putD]
  | 2, _ => rw [dcell2]; simp [putD]
  | 3, _ => rw [dcell3]; simp [putD]
  | 4, _ => rw [dcell4]; simp [putD]
  | 5, _ => rw [dcell5]; simp [putD]
  | 6, _ => rw [dcell6]; simp [putD]
theorem one7 (a b c d e f g : Int) : ∀ y ∈ (#[.int .i64 a, .int .i64 b, .int .i64 c, .int .i64 d, .int .i64 e, .int .i64 f, .int .i64 g] : Array Value).toList, y.oneCell' = true := fun y hy => by
  simp at hy
  rcases hy with rfl | rfl | rfl | rfl | rfl | rfl | rfl <;> rfl
theorem RowK.rd {w : World} {a : Option Addr} {n : Nat} {X : Nat → Dm} (R : RowK w a n 7 (dcell X)) : RD w a n X := by
  obtain ⟨b, m, h1, h2⟩ := R
  refine ⟨b, m, h1, fun k hk => ⟨?_, ?_, ?_, ?_, ?_, ?_, ?_⟩⟩
  · rw [← dcell0]; exact h2 _ (by omega)
  · rw [← dcell1, Nat.add_assoc]; exact h2 _ (by omega)
  · rw [← dcell2, Nat.add_assoc]; exact h2 _ (by omega)
  · rw [← dcell3, Nat.add_assoc]; exact h2 _ (by omega)
  · rw [← dcell4, Nat.add_assoc]; exact h2 _ (by omega)
  · rw [← dcell5, Nat.add_assoc]; exact h2 _ (by omega)
  · rw [← dcell6, Nat.add_assoc]; exact h2 _ (by omega)
theorem own_rowK {w : World} {base e s n : Nat} {v : Value} {f : Nat → Value} (h : w.ownsRow base e s v n ((List.range (n * s)).map f)) : ∃ a c, v = .slice a n c ∧ n ≤ c ∧ (a = none → n = 0) ∧ RowK w a n s f := by
  obtain ⟨a, c, b, rfl, h1, h2, h3⟩ := own_cellsK h
  refine ⟨a, c, rfl, h1, fun e => ?_, b, 0, fun h0 => (h2 h0).1, fun j hj => by rw [Nat.zero_add]; exact h3 j hj⟩
  rcases Nat.eq_zero_or_pos n with h | h
  · exact h
  · have := (h2 h).1
    rw [e] at this
    cases this
theorem only_then {a b c : World} {p B : Nat} (h : OnlyP a b p) (k : Below B b c) (hB : a.heap.size ≤ B) : OnlyP a c p :=
  ⟨k.os.trans h.os, k.tape.trans h.tape, k.output.trans h.output, Nat.le_trans h.size k.size, fun i hi hne => (k.block i (by omega)).trans (h.block i hi hne)⟩
theorem DiceAt.low {w w' : World} {p g : Nat} {a : Option Addr} {cap n : Nat} {xs : Nat → Int} {k B : Nat} (D : DiceAt w p g a cap n xs k) (hb : Below B w w') (hp : p < B) (hg : g < B) : DiceAt w' p g a cap n xs k :=
  ⟨(hb.cell (p := ⟨p, 0, none⟩) hp).trans D.c0, (hb.cell (p := ⟨p, 1, none⟩) hp).trans D.c1, fun o => (hb.frozen (p := ⟨p, o, none⟩) hp).trans (D.f o), D.ea, D.ne, Nat.lt_of_lt_of_le D.gl hb.size, fun i hi => (hb.cell (p := ⟨g, i, none⟩) hg).trans (D.xs i hi)⟩
theorem own_only {w w' : World} {base e s n p : Nat} {v : Value} {xs : List Value} (h : w.ownsRow base e s v n xs) (hO : OnlyP w w' p) (hp : p < base) : w'.ownsRow base e s v n xs :=
  h.kept hO (.inr fun hc => by have := (h.lt p hc).1; omega)
theorem own_keepK {wr w' : World} {base e s n : Nat} {v : Value} {xs : List Value} (h : wr.ownsRow base e s v n xs) (hb : Below wr.heap.size wr w') : w'.ownsRow base e s v n xs :=
  h.kept (row := none) ⟨hb.os, hb.tape, hb.output, hb.size, fun i hi _ => hb.block i hi⟩ (by cases h : v.ownBlock <;> simp)
theorem dnext_le {n k : Nat} (h : k ≤ n) : dnext n k ≤ n := by unfold dnext; split <;> omega
/-- k fades lie in a row of one's own beside dice. -/
structure FS (w1 wr : World) (p g : Nat) (aa : Option Addr) (cap n0 : Nat) (xs : Nat → Int) (v : Value) (k : Nat) (X : Nat → Dm) : Prop where
  hp : p < w1.heap.size
  hg : g < w1.heap.size
  own : wr.ownsRow w1.heap.size 41 7 v k ((List.range (k * 7)).map (dcell X))
  d : ∃ kd, kd ≤ n0 ∧ DiceAt wr p g aa cap n0 xs kd
  o : OnlyP w1 wr p
theorem FS.start {w1 : World} {p g : Nat} {aa : Option Addr} {cap n0 : Nat} {xs : Nat → Int} (D : DiceAt w1 p g aa cap n0 xs 0) : FS w1 w1 p g aa cap n0 xs (.slice none 0 0) 0 (fun _ => ⟨0, 0, 0, 0, 0, 0, 0⟩) :=
  ⟨lt_of_cell D.c0, D.gl, own_nilK _ _ _ _ _, ⟨0, Nat.zero_le _, D⟩, only_refl _ _⟩
theorem FS.next {w1 wr : World} {p g : Nat} {aa : Option Addr} {cap n0 : Nat} {xs : Nat → Int} {v : Value} {k : Nat} {X : Nat → Dm} (F : FS w1 wr p g aa cap n0 xs v k X) (h300 : n0 ≤ 300) (m : Int) (hm : 1 ≤ m ∧ m ≤ 1000000000) :
    Calls Try.prog 24 #[.pointer (some ⟨p, 0, none⟩), .int .i64 m] wr fun e w' => ∃ x, e = .returned (.int .i64 x) ∧ (0 ≤ x ∧ x < m) ∧ FS w1 w' p g aa cap n0 xs v k X ∧ OnlyP wr w' p := by
  obtain ⟨kd, hk, D⟩ := F.d
  refine (dice_next p g aa cap n0 xs kd m wr hm.2 h300 D).mono ?_
  rintro e w' ⟨rfl, hD, hO⟩
  exact ⟨_, rfl, dval_bd _ _ _ _ hm.1, ⟨F.hp, F.hg, own_only F.own hO F.hp, ⟨_, dnext_le hk, hD⟩, only_trans F.o hO⟩, hO⟩
theorem FS.push {w1 wr w' : World} {p g : Nat} {aa : Option Addr} {cap n0 : Nat} {xs : Nat → Int} {v v' : Value} {k : Nat} {X Y : Nat → Dm} (F : FS w1 wr p g aa cap n0 xs v k X) (hown : w'.ownsRow w1.heap.size 41 7 v' (k + 1) ((List.range ((k + 1) * 7)).map (dcell Y))) (hB : Below w1.heap.size wr w') : FS w1 w' p g aa cap n0 xs v' (k + 1) Y := by
  obtain ⟨kd, hk, D⟩ := F.d
  exact ⟨F.hp, F.hg, hown, ⟨kd, hk, D.low hB F.hp F.hg⟩, only_then F.o hB (Nat.le_refl _)⟩
theorem FS.mono {w1 wr w' : World} {p g : Nat} {aa : Option Addr} {cap n0 : Nat} {xs : Nat → Int} {v : Value} {k : Nat} {X : Nat → Dm} (F : FS w1 wr p g aa cap n0 xs v k X) (hB : Below wr.heap.size wr w') : FS w1 w' p g aa cap n0 xs v k X := by
  obtain ⟨kd, hk, D⟩ := F.d
  exact ⟨F.hp, F.hg, own_keepK F.own hB, ⟨kd, hk, D.mono hB⟩, only_then F.o hB F.o.size⟩
theorem FS.row {w1 wr : World} {p g : Nat} {aa : Option Addr} {cap n0 : Nat} {xs : Nat → Int} {v : Value} {k : Nat} {X : Nat → Dm} (F : FS w1 wr p g aa cap n0 xs v k X) : ∃ a c, v = .slice a k c ∧ k ≤ c ∧ (a = none → k = 0) ∧ RowK wr a k 7 (dcell X) := own_rowK F.own
theorem FS.below {w w1 wr : World} {p g : Nat} {aa : Option Addr} {cap n0 : Nat} {xs : Nat → Int} {v : Value} {k : Nat} {X : Nat → Dm} (F : FS w1 wr p g aa cap n0 xs v k X) (h : Below w.heap.size w w1) (hp : w.heap.size ≤ p) : Below w.heap.size w wr :=
  h.trans (only_below F.o hp h.size)

/-- The box of the demand that is being made is written. -/
theorem FS.box {w1 wr : World} {p g : Nat} {aa : Option Addr} {cap n0 : Nat} {xs : Nat → Int} {v : Value} {k : Nat} {X : Nat → Dm} (F : FS w1 wr p g aa cap n0 xs v k X) {z : Nat} (hz : w1.heap.size ≤ z) (hne : v.ownBlock ≠ some z) (o : Nat) (u : Value) : FS w1 (wr.setCell ⟨z, o, none⟩ u) p g aa cap n0 xs v k X := by
  obtain ⟨kd, hk, D⟩ := F.d
  have h1 := F.hp
  have h2 := F.hg
  refine ⟨F.hp, F.hg, F.own.kept (row := some z) ⟨rfl, rfl, rfl, by simp, fun i hi hn => ?_⟩ (.inr hne), ⟨kd, hk, D.setFar (by omega) (by omega) o u⟩, only_setNew F.o hz o u⟩
  have : z ≠ i := fun e => hn (by rw [e])
  simp [World.setCell, Array.getElem?_modify, this]
end Go.Proofs.Ytdcogbokcbpnnaa
