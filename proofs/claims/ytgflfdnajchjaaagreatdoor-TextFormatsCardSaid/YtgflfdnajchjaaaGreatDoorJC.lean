import Derived.Test.YtgflfdnajchjaaaGreatDoorShelf
import Derived.Test.YtgflfdnajchjaaaGreatDoorJA
import Derived.Test.YtgflfdnajchjaaaGreatDoorJB
import Derived.Test.YtgflfdnajchjaaaGreatDoorChecked
/- Layer 45: the library's functions as lists of bytes; the package's variables in a world. -/
namespace Go.Proofs.YtgflfdnajchjaaaGreatDoor
set_option linter.unusedVariables false
set_option linter.unusedSimpArgs false
open Go.RowKit Go.Sort Go.Lib
theorem var_below {P : Program} {name : String} {cs : Array Value} {w w' : World} {B : Nat} (h : w.var? P name = some cs) (hb : Below B w w') (hB : ∀ g, P.globalNamed name = some g → g < B) : w'.var? P name = some cs := by
  unfold World.var? at h ⊢
  cases hg : P.globalNamed name with
  | none => simp [hg] at h
  | some g =>
    simp only [hg, Option.bind_some] at h ⊢
    rw [hb.block g (hB g hg)]
    exact h
/-- What the program's variables hold. -/
structure Gl (w : World) : Prop where
  m : ∃ m : Int, w.cell? ⟨0, 0, none⟩ = some (.int .i64 m)
  tab : Lib.TabIs Tryz.prog w "internal/strconv.uint64pow10" .u64 Lib.pow10Tab
  es : ∃ tp p, w.var? Tryz.prog "strconv.ErrSyntax" = some #[.iface tp p]
  er : ∃ tp p, w.var? Tryz.prog "strconv.ErrRange" = some #[.iface tp p]
  sz : 8 ≤ w.heap.size
theorem gl_tab : ∀ g, Tryz.prog.globalNamed "internal/strconv.uint64pow10" = some g → g < 8 := fun g h => by
  rw [show Tryz.prog.globalNamed "internal/strconv.uint64pow10" = some 1 by kernel_rfl] at h
  injection h with h
  omega
theorem gl_es : ∀ g, Tryz.prog.globalNamed "strconv.ErrSyntax" = some g → g < 8 := fun g h => by
  rw [show Tryz.prog.globalNamed "strconv.ErrSyntax" = some 4 by kernel_rfl] at h
  injection h with h
  omega
theorem gl_er : ∀ g, Tryz.prog.globalNamed "strconv.ErrRange" = some g → g < 8 := fun g h => by
  rw [show Tryz.prog.globalNamed "strconv.ErrRange" = some 5 by kernel_rfl] at h
  injection h with h
  omega
theorem Gl.on {w w' : World} {B : Nat} (G : Gl w) (hb : Below B w w') (hB : 8 ≤ B) : Gl w' := by
  obtain ⟨⟨m, h1⟩, h2, ⟨tp, p, h3⟩, ⟨tq, q, h4⟩, h5⟩ := G
  refine ⟨⟨m, ?_⟩, var_below h2 hb fun g hg => ?_, ⟨tp, p, var_below h3 hb fun g hg => ?_⟩, ⟨tq, q, var_below h4 hb fun g hg => ?_⟩, Nat.le_trans h5 hb.size⟩
  · rw [hb.cell (p := ⟨0, 0, none⟩) (show (0 : Nat) < B by omega)]; exact h1
  · have := gl_tab g hg; omega
  · have := gl_es g hg; omega
  · have := gl_er g hg; omega
theorem Gl.mono {w w' : World} (G : Gl w) (hb : Below w.heap.size w w') : Gl w' := G.on hb G.sz
theorem Gl.alloc {w : World} (G : Gl w) (o : Obj) : Gl (w.alloc o) := G.mono ((Below.refl _ _).alloc (Nat.le_refl _) o)
theorem Gl.drew {w : World} (G : Gl w) : Gl w.drew := G.mono ((Below.refl _ _).drew)
/-! ### Strings -/
def bs (l : List UInt8) : ByteArray := ⟨l.toArray⟩
theorem bs_toList (l : List UInt8) : (bs l).data.toList = l := by simp [bs]
theorem bs_of (s : ByteArray) : bs s.data.toList = s := by cases s; simp [bs]
theorem bs_size (l : List UInt8) : (bs l).size = l.length := by simp [bs, ByteArray.size]
theorem bs_add (a b : List UInt8) : bs a ++ bs b = bs (a ++ b) := by
  have : (bs a ++ bs b).data = (bs (a ++ b)).data := by simp [bs]
  exact ByteArray.ext this
theorem bs_inj {a b : List UInt8} : bs a = bs b ↔ a = b := ⟨fun h => by rw [← bs_toList a, h, bs_toList], fun h => by rw [h]⟩
/-- Strings in memory. -/
def StrAt (w : World) (b m : Nat) (L : List (List UInt8)) : Prop := ∀ k, k < L.length → w.cell? ⟨b, m + k, none⟩ = some (.string (bs (L.getD k [])))
theorem StrAt.mono {W w : World} {b m : Nat} {L : List (List UInt8)} (H : StrAt W b m L) (hb : Below W.heap.size W w) : StrAt w b m L := fun k hk => up hb (H k hk)
theorem below_drewgrow (w : World) (k : Nat) (os : Array Obj) : Below w.heap.size w (grow (w.drewN k) os) := below_regrown w _ os
theorem itoa52 (n : Int) (h0 : -9223372036854775808 ≤ n) (h1 : n ≤ 9223372036854775807) (w : World) (G : Gl w) :
    Calls Tryz.prog 52 #[.int .i64 n] w fun e w' => e = .returned (.string (bs (itoa n))) ∧ Below w.heap.size w w' :=
  (Tryz.strconv_Itoa n h0 h1 w G.tab).mono fun e w' ⟨he, k, os, hw⟩ => ⟨he, by rw [hw]; exact below_drewgrow w k os⟩
theorem atoi_ok88 (s : ByteArray) (hs : s.size ≤ 1000000) (v : Int) (h : atoiAll s.data.toList = .ok v) (w : World) :
    Calls Tryz.prog 88 #[.string s] w fun e w' => e = .returned (.tuple #[.int .i64 v, .nilIface]) ∧ Below w.heap.size w w' :=
  (Tryz.strconv_Atoi_ok s (by omega) v h w).mono fun e w' ⟨he, hw⟩ => ⟨he, by
    rcases hw with rfl | ⟨t, rfl⟩
    · exact Below.refl _ _
    · exact Lib.bytesWorld_below _ _ _⟩
theorem atoi_bad88 (s : ByteArray) (hs : s.size ≤ 1000000) (h : ∀ v, atoiAll s.data.toList ≠ .ok v) (w : World) (G : Gl w) :
    Calls Tryz.prog 88 #[.string s] w fun e w' => ∃ x t p, e = .returned (.tuple #[.int .i64 x, .iface t p]) ∧ Below w.heap.size w w' := by
  obtain ⟨tp, p, hv⟩ := G.es
  obtain ⟨tq, q, hu⟩ := G.er
  cases ha : atoiAll s.data.toList with
  | ok v => exact absurd ha (h v)
  | range => exact (Tryz.strconv_Atoi_range_var s (by omega) ha tq q w hu).mono fun e w' ⟨N, he, _, _, hb⟩ => ⟨_, _, _, he, hb⟩
  | _ => exact (Tryz.strconv_Atoi_syntax_var s (by omega) ha tp p w hv).mono fun e w' ⟨N, he, _, _, hb⟩ => ⟨_, _, _, he, hb⟩
theorem splitB_spl (s : ByteArray) (c : UInt8) : (splitB ⟨#[c]⟩ 0 (countB s ⟨#[c]⟩) s).map (·.data.toList) = spl c s.data.toList := by
  rw [splitB_data]
  exact splitK_spl c s.data.toList
theorem split35 (s : ByteArray) (hs : s.size ≤ 1000000) (c : UInt8) (w : World) (G : Gl w) :
    Calls Tryz.prog 35 #[.string s, .string ⟨#[c]⟩] w fun e w' => e = .returned (.slice (some ⟨w.heap.size, 0, none⟩) (spl c s.data.toList).length (spl c s.data.toList).length) ∧ StrAt w' w.heap.size 0 (spl c s.data.toList) ∧ Below w.heap.size w w' ∧ w'.heap.size = w.heap.size + 1 := by
  obtain ⟨m, hm⟩ := G.m
  refine (Tryz.strings_Split s ⟨#[c]⟩ m w (by omega) hm (Nat.le_refl 1)).mono fun e w' ⟨he, hw⟩ => ?_
  have hl : (splitB ⟨#[c]⟩ 0 (countB s ⟨#[c]⟩) s).length = (spl c s.data.toList).length := by rw [← splitB_spl, List.length_map]
  have hn := splitB_all ⟨#[c]⟩ (Nat.le_refl 1) 0 _ s rfl
  rw [← hn, hl] at he
  refine ⟨he, fun k hk => ?_, ?_, ?_⟩
  · rw [hw, Nat.zero_add, cell_of_row _ w.heap.size k _ 9 (0, 0) (MapKept.heap_alloc w _).1]
    have h2 := congrArg (fun l => l[k]?) (splitB_spl s c)
    simp only [List.getElem?_map] at h2
    have hk2 : k < (splitB ⟨#[c]⟩ 0 (countB s ⟨#[c]⟩) s).length := by omega
    rw [List.getElem?_eq_getElem hk2, List.getElem?_eq_getElem hk] at h2
    simp only [Option.map_some] at h2
    rw [List.getElem?_toArray, List.getElem?_map, List.getElem?_eq_getElem hk2, Option.map_some, List.getD_eq_getElem?_getD, List.getElem?_eq_getElem hk]
    simp only [Option.getD_some]
    rw [← Option.some.inj h2, bs_of]
  · rw [hw]; exact (Below.refl _ _).alloc (Nat.le_refl _) _
  · rw [hw]; simp
theorem cut57 (s : ByteArray) (hs : s.size ≤ 1000000) (c : UInt8) (w : World) (G : Gl w) :
    Calls Tryz.prog 57 #[.string s, .string ⟨#[c]⟩] w fun e w' => ∃ x y, e = .returned (.tuple #[.string (bs ((spl c s.data.toList).headD [])), .string x, .bool y]) ∧ Below w.heap.size w w' := by
  obtain ⟨m, hm⟩ := G.m
  refine (Tryz.strings_Cut s ⟨#[c]⟩ m w (by omega) hm).mono fun e w' ⟨he, n, hw⟩ => ?_
  refine ⟨⟨(cut s.data.toList [c]).2.1.toArray⟩, (cut s.data.toList [c]).2.2, ?_, ?_⟩
  · rw [← cut_head]; exact he
  · rw [hw]; exact ⟨rfl, rfl, rfl, Nat.le_refl _, fun _ _ => rfl⟩
theorem join_eq (c : UInt8) : ∀ L : List (List UInt8), Lib.join L [c] = joinC c L
  | [] => rfl
  | [a] => by simp [Lib.join, joinC, List.intercalate, List.intersperse]
  | a :: b :: l => by
    have ih := join_eq c (b :: l)
    rw [joinC_cons (by simp), ← ih]
    simp [Lib.join, List.intercalate, List.intersperse]
theorem join34 (b m cap : Nat) (L : List (List UInt8)) (c : UInt8) (w : World) (H : StrAt w b m L) (hb : b < w.heap.size) (hn : L.length ≤ 1000000) (hc : L.length ≤ cap) (hl : (joinC c L).length ≤ 100000000) :
    Calls Tryz.prog 34 #[.slice (some ⟨b, m, none⟩) L.length cap, .string ⟨#[c]⟩] w fun e w' => e = .returned (.string (bs (joinC c L))) ∧ Below w.heap.size w w' := by
  have e : ((L.map bs).map (·.data.toList)) = L := by
    rw [List.map_map]
    exact (List.map_congr_left fun l _ => bs_toList l).trans (List.map_id _)
  have K := Tryz.strings_Join b m cap (L.map bs) ⟨#[c]⟩ w (fun j x hx => ?_) hb (by simp; omega) (by simpa using hc) ?_
  · rw [e] at K
    have ej : Lib.join L (ByteArray.mk #[c]).data.toList = joinC c L := join_eq c L
    rw [ej, List.length_map] at K
    exact K
  · rw [List.getElem?_map] at hx
    have hj : j < L.length := by
      rcases Nat.lt_or_ge j L.length with h | h
      · exact h
      · rw [List.getElem?_eq_none h] at hx; cases hx
    rw [H j hj, List.getD_eq_getElem?_getD, List.getElem?_eq_getElem hj]
    rw [List.getElem?_eq_getElem hj] at hx
    simp only [Option.map_some, Option.some.injEq] at hx
    rw [Option.getD_some, hx]
  · rw [e]
    have ej : Lib.join L (ByteArray.mk #[c]).data.toList = joinC c L := join_eq c L
    rw [ej]
    omega
end Go.Proofs.YtgflfdnajchjaaaGreatDoor
