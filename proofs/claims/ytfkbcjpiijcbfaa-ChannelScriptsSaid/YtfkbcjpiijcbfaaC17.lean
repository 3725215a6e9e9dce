/- Layer 31: fades that are made of numbers, in memory. -/
import Derived.Test.YtfkbcjpiijcbfaaC5
import Derived.Test.YtfkbcjpiijcbfaaDice
import Derived.Test.YtfkbcjpiijcbfaaRowK
namespace Go.Proofs.Ytfkbcjpiijcbfaa
set_option linter.unusedVariables false
set_option linter.unusedSimpArgs false
open Go.RowKit Go.Sort
attribute [local go_sem] gcell
def fz : Value := .agg #[.int .i64 0, .int .i64 0, .int .i64 0, .int .i64 0, .int .i64 0]
theorem fInfo : (Try.prog.info? 35).map (fun i => (i.zero, i.size, i.bytes)) = some (some fz, 5, 40) := by kernel_rfl
/-- Fades cell by cell. -/
def fcell (X : Nat → Fd) (j : Nat) : Value := .int .i64 (if j % 5 = 0 then (X (j / 5)).t else if j % 5 = 1 then (X (j / 5)).c else if j % 5 = 2 then (X (j / 5)).f else if j % 5 = 3 then (X (j / 5)).g else (X (j / 5)).n)
theorem fcell_one (X : Nat → Fd) (j : Nat) : (fcell X j).oneCell' = true := rfl
theorem fcell0 (X : Nat → Fd) (k : Nat) : fcell X (k * 5) = .int .i64 (X k).t := by unfold fcell; rw [if_pos (by omega), show k * 5 / 5 = k by omega]
theorem fcell1 (X : Nat → Fd) (k : Nat) : fcell X (k * 5 + 1) = .int .i64 (X k).c := by unfold fcell; rw [if_neg (by omega), if_pos (by omega), show (k * 5 + 1) / 5 = k by omega]
theorem fcell2 (X : Nat → Fd) (k : Nat) : fcell X (k * 5 + 2) = .int .i64 (X k).f := by unfold fcell; rw [if_neg (by omega), if_neg (by omega), if_pos (by omega), show (k * 5 + 2) / 5 = k by omega]
theorem fcell3 (X : Nat → Fd) (k : Nat) : fcell X (k * 5 + 3) = .int .i64 (X k).g := by unfold fcell; rw [if_neg (by omega), if_neg (by omega), if_neg (by omega), if_pos (by omega), show (k * 5 + 3) / 5 = k by omega]
theorem fcell4 (X : Nat → Fd) (k : Nat) : fcell X (k * 5 + 4) = .int .i64 (X k).n := by unfold fcell; rw [if_neg (by omega), if_neg (by omega), if_neg (by omega), if_neg (by omega), show (k * 5 + 4) / 5 = k by omega]
def putF (X : Nat → Fd) (k : Nat) (x : Fd) (i : Nat) : Fd := if i = k then x else X i
theorem fcell_upd {X : Nat → Fd} {k : Nat} {x : Fd} (j : Nat) (hj : j < k * 5) : fcell (putF X k x) j = fcell X j := by
  have : j / 5 ≠ k := by omega
  unfold fcell putF
  rw [if_neg this]
theorem fcell_new {X : Nat → Fd} {k : Nat} {x y z u v : Int} (j : Nat) (h : j < 5) : (#[.int .i64 x, .int .i64 y, .int .i64 z, .int .i64 u, .int .i64 v] : Array Value)[j]? = some (fcell (putF X k ⟨x, y, z, u, v⟩) (k * 5 + j)) := by
  match j, h with
  | 0, _ => rw [Nat.add_zero, fcell0]; simp [putF]
  | 1, _ => rw [fcell1]; simp [putF]
  | 2, _ => rw [fcell2]; simp [putF]
  | 3, _ => rw [fcell3]; simp [putF]
  | 4, _ => rw [fcell4]; simp [putF]
theorem one5 (a b c d e : Int) : ∀ y ∈ (#[.int .i64 a, .int .i64 b, .int .i64 c, .int .i64 d, .int .i64 e] : Array Value).toList, y.oneCell' = true := fun y hy => by
  simp at hy
  rcases hy with rfl | rfl | rfl | rfl | rfl <;> rfl
theorem RowK.r5 {w : World} {a : Option Addr} {n : Nat} {X : Nat → Fd} (R : RowK w a n 5 (fcell X)) : R5 w a n X := by
  obtain ⟨b, m, h1, h2⟩ := R
  refine ⟨b, m, h1, fun k hk => ⟨?_, ?_, ?_, ?_, ?_⟩⟩
  · rw [← fcell0]; exact h2 _ (by omega)
  · rw [← fcell1, Nat.add_assoc]; exact h2 _ (by omega)
  · rw [← fcell2, Nat.add_assoc]; exact h2 _ (by omega)
  · rw [← fcell3, Nat.add_assoc]; exact h2 _ (by omega)
  · rw [← fcell4, Nat.add_assoc]; exact h2 _ (by omega)
theorem own_rowK {w : World} {base e s n : Nat} {v : Value} {f : Nat → Value} (h : w.ownsRow base e s v n ((List.range (n * s)).map f)) : ∃ a c, v = .slice a n c ∧ n ≤ c ∧ (a = none → n = 0) ∧ RowK w a n s f := by
  obtain ⟨a, c, b, rfl, h1, h2, h3⟩ := own_cellsK h
  refine ⟨a, c, rfl, h1, fun e => ?_, b, 0, fun h0 => (h2 h0).1, fun j hj => by rw [Nat.zero_add]; exact h3 j hj⟩
  rcases Nat.eq_zero_or_pos n with h | h
  · exact h
  · have := (h2 h).1
    rw [e] at this
    cases this
theorem only_then {a b c : World} {p B : Nat} (h : OnlyP a b p) (k : Below B b c) (hB : a.heap.size ≤ B) : OnlyP a c p :=
  ⟨k.os.trans h.os, k.tape.trans h.tape, k.output.trans h.output, Nat.le_trans h.size k.size, fun i hi hne => (k.block i (by omega)).trans (h.block i hi hne)⟩
theorem DiceAt.low {w w' : World} {p g : Nat} {a : Option Addr} {cap n : Nat} {xs : Nat → Int} {k B : Nat} (D : DiceAt w p g a cap n xs k) (hb : Below B w w') (hp : p < B) (hg : g < B) : DiceAt w' p g a cap n xs k :=
  ⟨(hb.cell (p := ⟨p, 0, none⟩) hp).trans D.c0, (hb.cell (p := ⟨p, 1, none⟩) hp).trans D.c1, fun o => (hb.frozen (p := ⟨p, o, none⟩) hp).trans (D.f o), D.ea, D.ne, Nat.lt_of_lt_of_le D.gl hb.size, fun i hi => (hb.cell (p := ⟨g, i, none⟩) hg).trans (D.xs i hi)⟩
theorem own_only {w w' : World} {base e s n p : Nat} {v : Value} {xs : List Value} (h : w.ownsRow base e s v n xs) (hO : OnlyP w w' p) (hp : p < base) : w'.ownsRow base e s v n xs :=
  h.kept hO (.inr fun hc => by have := (h.lt p hc).1; omega)
theorem own_keepK {wr w' : World} {base e s n : Nat} {v : Value} {xs : List Value} (h : wr.ownsRow base e s v n xs) (hb : Below wr.heap.size wr w') : w'.ownsRow base e s v n xs :=
  h.kept (row := none) ⟨hb.os, hb.tape, hb.output, hb.size, fun i hi _ => hb.block i hi⟩ (by cases h : v.ownBlock <;> simp)
theorem dnext_le {n k : Nat} (h : k ≤ n) : dnext n k ≤ n := by unfold dnext; split <;> omega
/-- k fades lie in a row of one's own beside dice. -/
structure FS (w1 wr : World) (p g : Nat) (aa : Option Addr) (cap n0 : Nat) (xs : Nat → Int) (v : Value) (k : Nat) (X : Nat → Fd) : Prop where
  hp : p < w1.heap.size
  hg : g < w1.heap.size
  own : wr.ownsRow w1.heap.size 35 5 v k ((List.range (k * 5)).map (fcell X))
  d : ∃ kd, kd ≤ n0 ∧ DiceAt wr p g aa cap n0 xs kd
  o : OnlyP w1 wr p
theorem FS.start {w1 : World} {p g : Nat} {aa : Option Addr} {cap n0 : Nat} {xs : Nat → Int} (D : DiceAt w1 p g aa cap n0 xs 0) : FS w1 w1 p g aa cap n0 xs (.slice none 0 0) 0 (fun _ => ⟨0, 0, 0, 0, 0⟩) :=
  ⟨lt_of_cell D.c0, D.gl, own_nilK _ _ _ _ _, ⟨0, Nat.zero_le _, D⟩, only_refl _ _⟩
theorem FS.next {w1 wr : World} {p g : Nat} {aa : Option Addr} {cap n0 : Nat} {xs : Nat → Int} {v : Value} {k : Nat} {X : Nat → Fd} (F : FS w1 wr p g aa cap n0 xs v k X) (h300 : n0 ≤ 300) (m : Int) (hm : 1 ≤ m ∧ m ≤ 1000000000) :
    Calls Try.prog 12 #[.pointer (some ⟨p, 0, none⟩), .int .i64 m] wr fun e w' => ∃ x, e = .returned (.int .i64 x) ∧ (0 ≤ x ∧ x < m) ∧ FS w1 w' p g aa cap n0 xs v k X ∧ OnlyP wr w' p := by
  obtain ⟨kd, hk, D⟩ := F.d
  refine (dice_next p g aa cap n0 xs kd m wr hm.2 h300 D).mono ?_
  rintro e w' ⟨rfl, hD, hO⟩
  exact ⟨_, rfl, dval_bd _ _ _ _ hm.1, ⟨F.hp, F.hg, own_only F.own hO F.hp, ⟨_, dnext_le hk, hD⟩, only_trans F.o hO⟩, hO⟩
theorem FS.push {w1 wr w' : World} {p g : Nat} {aa : Option Addr} {cap n0 : Nat} {xs : Nat → Int} {v v' : Value} {k : Nat} {X Y : Nat → Fd} (F : FS w1 wr p g aa cap n0 xs v k X) (hown : w'.ownsRow w1.heap.size 35 5 v' (k + 1) ((List.range ((k + 1) * 5)).map (fcell Y))) (hB : Below w1.heap.size wr w') : FS w1 w' p g aa cap n0 xs v' (k + 1) Y := by
  obtain ⟨kd, hk, D⟩ := F.d
  exact ⟨F.hp, F.hg, hown, ⟨kd, hk, D.low hB F.hp F.hg⟩, only_then F.o hB (Nat.le_refl _)⟩
theorem FS.mono {w1 wr w' : World} {p g : Nat} {aa : Option Addr} {cap n0 : Nat} {xs : Nat → Int} {v : Value} {k : Nat} {X : Nat → Fd} (F : FS w1 wr p g aa cap n0 xs v k X) (hB : Below wr.heap.size wr w') : FS w1 w' p g aa cap n0 xs v k X := by
  obtain ⟨kd, hk, D⟩ := F.d
  exact ⟨F.hp, F.hg, own_keepK F.own hB, ⟨kd, hk, D.mono hB⟩, only_then F.o hB F.o.size⟩
theorem FS.row {w1 wr : World} {p g : Nat} {aa : Option Addr} {cap n0 : Nat} {xs : Nat → Int} {v : Value} {k : Nat} {X : Nat → Fd} (F : FS w1 wr p g aa cap n0 xs v k X) : ∃ a c, v = .slice a k c ∧ k ≤ c ∧ (a = none → k = 0) ∧ RowK wr a k 5 (fcell X) := own_rowK F.own
theorem FS.below {w w1 wr : World} {p g : Nat} {aa : Option Addr} {cap n0 : Nat} {xs : Nat → Int} {v : Value} {k : Nat} {X : Nat → Fd} (F : FS w1 wr p g aa cap n0 xs v k X) (h : Below w.heap.size w w1) (hp : w.heap.size ≤ p) : Below w.heap.size w wr :=
  h.trans (only_below F.o hp h.size)
end Go.Proofs.Ytfkbcjpiijcbfaa
