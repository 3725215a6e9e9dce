/- The library's contracts at this program's numbers: each is one application of a contract of the library's shelf. -/
import Derived.Shelf.Strings.Builder1
import Derived.Shelf.Strings.Builder2
import Derived.Shelf.Strings.OnBuilder
import Derived.Shelf.Small.Strs
import Derived.Shelf.Strings.BuilderF
import Derived.Shelf.Strings.BuilderK
import Derived.Shelf.Strconv.Atoi
import Derived.Shelf.Strconv.Itoa0
import Derived.Shelf.Strconv.Itoa1
import Derived.Shelf.LaysM
import Derived.Shelf.Strconv.Itoa2
import Derived.Shelf.Strconv.Itoa3
import Derived.Shelf.Strconv.AtoiErrFast
import Derived.Shelf.Strconv.ParseIntEmpty
import Derived.Shelf.Strconv.AtoiFail
import Derived.Shelf.Strconv.Clone
import Derived.Shelf.Strconv.SyntaxError
import Derived.Shelf.LaysC
import Derived.Shelf.Strconv.ToError
import Derived.Shelf.Strconv.Lower
import Derived.Shelf.Strconv.ParseUint10
import Derived.Shelf.Strconv.ParseUint10Empty
import Derived.Shelf.Strconv.ParseUint10Any
import Derived.Shelf.Strconv.ParseInt10
import Derived.Shelf.Strconv.AtoiLong
import Derived.Shelf.Strconv.AtoiInnerAll
import Derived.Shelf.Strconv.RangeError
import Derived.Shelf.Strconv.ToErrorRange
import Derived.Shelf.Strconv.AtoiAll
import Derived.Shelf.Strconv.ErrVarAll
import Derived.Shelf.Strings.Search1
import Derived.Shelf.Strings.Search2
import Derived.Shelf.Strings.Search3
import Derived.Shelf.Strings.Cut
import Derived.Shelf.Strings.Count
import Derived.Shelf.Strings.Shaped
import Derived.Shelf.Strings.Split
import Derived.Shelf.Strings.SplitShaped
import Derived.Shelf.Unicode.DecodeSlow
import Derived.Test.YtgflfdnajchjaaaGreatDoorProg
namespace Go.Proofs
open Go.Shelf
def Tryz.lays169_ren : Go.Shelf.Ren := ⟨fun | 169 => 43 | n => n, fun | 70 => 106 | 9 => 9 | 0 => 0 | 72 => 108 | 37 => 46 | 127 => 144 | 3 => 3 | 5 => 5 | n => n, fun | n => n⟩
theorem Tryz.lays169 : Go.Proofs.Lays.n169 Tryz.prog Tryz.lays169_ren := {
  mixed := by kernel_rfl
  f169 := Tryz.func43.trans (congrArg some (by kernel_rfl))
  t0 := Tryz.underlying0
  a0 := Tryz.isAgg0
  z0 := Tryz.sizeOf0
  v0 := Tryz.zeroValue0
  t3 := Tryz.underlying3
  a3 := Tryz.isAgg3
  z3 := Tryz.sizeOf3
  v3 := Tryz.zeroValue3
  t9 := Tryz.underlying9
  a9 := Tryz.isAgg9
  z9 := Tryz.sizeOf9
  v9 := Tryz.zeroValue9
  t37 := Tryz.underlying46
  a37 := Tryz.isAgg46
  z37 := Tryz.sizeOf46
  v37 := Tryz.zeroValue46
  t70 := Tryz.underlying106
  a70 := Tryz.isAgg106
  z70 := Tryz.sizeOf106
  v70 := Tryz.zeroValue106
  t72 := Tryz.underlying108
  a72 := Tryz.isAgg108
  z72 := Tryz.sizeOf108
  v72 := Tryz.zeroValue108
  t127 := Tryz.underlying144
  a127 := Tryz.isAgg144
  z127 := Tryz.sizeOf144
  v127 := Tryz.zeroValue144 }
theorem Tryz.Builder_Extra_169 : Builder.Extra Tryz.prog Tryz.lays169_ren := {
  sizeBuilder := by kernel_rfl
  liesBuilder := by kernel_rfl
  t5 := Tryz.underlying5
  a5 := Tryz.isAgg5
  z5 := Tryz.sizeOf5
  v5 := Tryz.zeroValue5
  infoByte := by kernel_rfl
  cellsByte := by kernel_rfl
  sizeByte := by kernel_rfl
  neB5 := by decide }
def Tryz.lays156_ren : Go.Shelf.Ren := ⟨fun | 156 => 34 | 165 => 54 | 166 => 41 | 169 => 43 | 240 => 62 | 241 => 84 | 276 => 93 | 277 => 116 | n => n, fun | 31 => 77 | 9 => 9 | 3 => 3 | 4 => 4 | 0 => 0 | 20 => 20 | 72 => 108 | 76 => 113 | 70 => 106 | 37 => 46 | 75 => 112 | 127 => 144 | 164 => 167 | 5 => 5 | 80 => 116 | n => n, fun | n => n⟩
theorem Tryz.lays156 : Go.Proofs.Lays.n156 Tryz.prog Tryz.lays156_ren := {
  mixed := by kernel_rfl
  f156 := Tryz.func34.trans (congrArg some (by kernel_rfl))
  f165 := Tryz.func54.trans (congrArg some (by kernel_rfl))
  f166 := Tryz.func41.trans (congrArg some (by kernel_rfl))
  f169 := Tryz.func43.trans (congrArg some (by kernel_rfl))
  f240 := Tryz.func62.trans (congrArg some (by kernel_rfl))
  f241 := Tryz.func84.trans (congrArg some (by kernel_rfl))
  f276 := Tryz.func93.trans (congrArg some (by kernel_rfl))
  f277 := Tryz.func116.trans (congrArg some (by kernel_rfl))
  t0 := Tryz.underlying0
  a0 := Tryz.isAgg0
  z0 := Tryz.sizeOf0
  v0 := Tryz.zeroValue0
  t3 := Tryz.underlying3
  a3 := Tryz.isAgg3
  z3 := Tryz.sizeOf3
  v3 := Tryz.zeroValue3
  t4 := Tryz.underlying4
  a4 := Tryz.isAgg4
  z4 := Tryz.sizeOf4
  v4 := Tryz.zeroValue4
  t9 := Tryz.underlying9
  a9 := Tryz.isAgg9
  z9 := Tryz.sizeOf9
  v9 := Tryz.zeroValue9
  t20 := Tryz.underlying20
  a20 := Tryz.isAgg20
  z20 := Tryz.sizeOf20
  v20 := Tryz.zeroValue20
  t31 := Tryz.underlying77
  a31 := Tryz.isAgg77
  z31 := Tryz.sizeOf77
  v31 := Tryz.zeroValue77
  t37 := Tryz.underlying46
  a37 := Tryz.isAgg46
  z37 := Tryz.sizeOf46
  v37 := Tryz.zeroValue46
  t70 := Tryz.underlying106
  a70 := Tryz.isAgg106
  z70 := Tryz.sizeOf106
  v70 := Tryz.zeroValue106
  t72 := Tryz.underlying108
  a72 := Tryz.isAgg108
  z72 := Tryz.sizeOf108
  v72 := Tryz.zeroValue108
  t75 := Tryz.underlying112
  a75 := Tryz.isAgg112
  z75 := Tryz.sizeOf112
  v75 := Tryz.zeroValue112
  t76 := Tryz.underlying113
  a76 := Tryz.isAgg113
  z76 := Tryz.sizeOf113
  v76 := Tryz.zeroValue113
  t127 := Tryz.underlying144
  a127 := Tryz.isAgg144
  z127 := Tryz.sizeOf144
  v127 := Tryz.zeroValue144
  t164 := Tryz.underlying167
  a164 := Tryz.isAgg167
  z164 := Tryz.sizeOf167
  v164 := Tryz.zeroValue167 }
theorem Tryz.Builder_Extra_156 : Builder.Extra Tryz.prog Tryz.lays156_ren := {
  sizeBuilder := by kernel_rfl
  liesBuilder := by kernel_rfl
  t5 := Tryz.underlying5
  a5 := Tryz.isAgg5
  z5 := Tryz.sizeOf5
  v5 := Tryz.zeroValue5
  infoByte := by kernel_rfl
  cellsByte := by kernel_rfl
  sizeByte := by kernel_rfl
  neB5 := by decide }
open Go.RowKit in
/-- No element: the empty string; the world is as it was. (Whatever the slice's address and capacity: a nil slice too.) (LAID: no walk: one application.) -/
theorem Tryz.strings_Join_none (a : Option Addr) (c : Nat) (sep : ByteArray) (w : World) :
    Calls Tryz.prog 34 #[.slice a 0 c, .string sep] w fun e w' => e = .returned (.string ⟨#[]⟩) ∧ w' = w := Any.strings_Join_none Tryz.lays156 Tryz.Builder_Extra_156 a c sep w
open Go.RowKit in
/-- strings.Join: "Join concatenates the elements of its first argument to create a single string. The separator string sep is placed between elements in the resulting string.": HOWEVER MANY ELEMENTS. Below the heap's end the world is as it was. (LAID: no walk: one application.) -/
theorem Tryz.strings_Join (bk o c : Nat) (xs : List ByteArray) (sep : ByteArray) (w : World) (hcells : ∀ (j : Nat) x, xs[j]? = some x → w.cell? ⟨bk, o + j, none⟩ = some (.string x)) (hbk : bk < w.heap.size) (hN : xs.length ≤ 140737488355328) (hcap : xs.length ≤ c) (hlen : (Lib.join (xs.map (·.data.toList)) sep.data.toList).length ≤ 140737488355328) :
    Calls Tryz.prog 34 #[.slice (some ⟨bk, o, none⟩) xs.length c, .string sep] w fun e w' => e = .returned (.string ⟨(Lib.join (xs.map (·.data.toList)) sep.data.toList).toArray⟩) ∧ Below w.heap.size w w' := Any.strings_Join Tryz.lays156 Tryz.Builder_Extra_156 bk o c xs sep w hcells hbk hN hcap hlen
def Tryz.lays137_ren : Go.Shelf.Ren := ⟨fun | 137 => 90 | 217 => 123 | 266 => 151 | n => n, fun | 9 => 9 | 5 => 5 | 3 => 3 | n => n, fun | n => n⟩
theorem Tryz.lays137 : Go.Proofs.Lays.n137 Tryz.prog Tryz.lays137_ren := {
  mixed := by kernel_rfl
  f137 := Tryz.func90.trans (congrArg some (by kernel_rfl))
  f217 := Tryz.func123.trans (congrArg some (by kernel_rfl))
  f266 := Tryz.func151.trans (congrArg some (by kernel_rfl))
  t3 := Tryz.underlying3
  a3 := Tryz.isAgg3
  z3 := Tryz.sizeOf3
  v3 := Tryz.zeroValue3
  t5 := Tryz.underlying5
  a5 := Tryz.isAgg5
  z5 := Tryz.sizeOf5
  v5 := Tryz.zeroValue5
  t9 := Tryz.underlying9
  a9 := Tryz.isAgg9
  z9 := Tryz.sizeOf9
  v9 := Tryz.zeroValue9 }
open Go.RowKit in
/-- strings.IndexByte: "IndexByte returns the index of the first instance of c in s, or -1 if c is not present in s.": IT RETURNS 'Lib.indexByte s c'; the world is as it was. (LAID: no walk: one application.) -/
theorem Tryz.strings_IndexByte (s : ByteArray) (c : Int) (w : World) :
    Calls Tryz.prog 90 #[.string s, .int .u8 c] w fun e w' => e = .returned (.int .i64 (Lib.indexByte s.data.toList c.toNat.toUInt8)) ∧ w' = w := Any.strings_IndexByte Tryz.lays137 s c w
open Go.RowKit in
/-- (*strings.Builder).String: "String returns the accumulated string.": WHATEVER THE BUILDER HOLDS; THE FORM '_k': OVER 'Lib.IsBuilderF' (a builder that 'String()' may have read), AND WITH THE FRAME THAT REACHES ABOVE THE BUILDER: 'Lib.OthersKept': every block that is not b and is no row of uint8's stands as it stood: the iterator of a range among them. (LAID: no walk: one application.) -/
theorem Tryz.Builder_String_any_k (B b : Nat) (l : List UInt8) (w : World) (h : Lib.IsBuilderF 108 5 B b (Lib.byteCells l) w) (hBw : B ≤ w.heap.size) :
    Calls Tryz.prog 43 #[.pointer (some ⟨b, 0, none⟩)] w fun e w' => e = .returned (.string ⟨l.toArray⟩) ∧ (Lib.IsBuilderF 108 5 B b (Lib.byteCells l) w' ∧ Below B w w' ∧ Lib.OthersKept 5 (some b) w w') := Any.Builder_String_any_k Tryz.lays169 Tryz.Builder_Extra_169 B b l w h hBw
def Tryz.laysM171_ren : Go.Shelf.Ren := ⟨fun | 171 => 52 | 243 => 83 | 246 => 115 | 283 => 138 | 284 => 139 | 285 => 140 | 286 => 141 | 129 => 158 | 317 => 157 | 318 => 159 | 319 => 160 | 320 => 161 | 337 => 168 | 338 => 169 | n => n, fun | 3 => 3 | 9 => 9 | 2 => 2 | 4 => 4 | 171 => 198 | 0 => 0 | 53 => 199 | 37 => 46 | 5 => 5 | 173 => 202 | 212 => 213 | 51 => 214 | 20 => 20 | 213 => 215 | 46 => 134 | 232 => 233 | 233 => 234 | n => n, fun | 17 => 1 | 18 => 6 | 19 => 7 | n => n⟩
theorem Tryz.laysM171 : Go.Proofs.LaysM.n171 Tryz.prog Tryz.laysM171_ren := {
  mixed := by kernel_rfl
  f129 := Tryz.func158.trans (congrArg some (by kernel_rfl))
  f171 := Tryz.func52.trans (congrArg some (by kernel_rfl))
  f243 := Tryz.func83.trans (congrArg some (by kernel_rfl))
  f246 := Tryz.func115.trans (congrArg some (by kernel_rfl))
  f283 := Tryz.func138.trans (congrArg some (by kernel_rfl))
  f284 := Tryz.func139.trans (congrArg some (by kernel_rfl))
  f285 := Tryz.func140.trans (congrArg some (by kernel_rfl))
  f286 := Tryz.func141.trans (congrArg some (by kernel_rfl))
  f317 := Tryz.func157.trans (congrArg some (by kernel_rfl))
  f318 := Tryz.func159.trans (congrArg some (by kernel_rfl))
  f319 := Tryz.func160.trans (congrArg some (by kernel_rfl))
  f320 := Tryz.func161.trans (congrArg some (by kernel_rfl))
  f337 := Tryz.func168.trans (congrArg some (by kernel_rfl))
  f338 := Tryz.func169.trans (congrArg some (by kernel_rfl))
  t0 := Tryz.underlying0
  a0 := Tryz.isAgg0
  z0 := Tryz.sizeOf0
  v0 := Tryz.zeroValue0
  t2 := Tryz.underlying2
  a2 := Tryz.isAgg2
  z2 := Tryz.sizeOf2
  v2 := Tryz.zeroValue2
  t3 := Tryz.underlying3
  a3 := Tryz.isAgg3
  z3 := Tryz.sizeOf3
  v3 := Tryz.zeroValue3
  t4 := Tryz.underlying4
  a4 := Tryz.isAgg4
  z4 := Tryz.sizeOf4
  v4 := Tryz.zeroValue4
  t5 := Tryz.underlying5
  a5 := Tryz.isAgg5
  z5 := Tryz.sizeOf5
  v5 := Tryz.zeroValue5
  t9 := Tryz.underlying9
  a9 := Tryz.isAgg9
  z9 := Tryz.sizeOf9
  v9 := Tryz.zeroValue9
  t20 := Tryz.underlying20
  a20 := Tryz.isAgg20
  z20 := Tryz.sizeOf20
  v20 := Tryz.zeroValue20
  t37 := Tryz.underlying46
  a37 := Tryz.isAgg46
  z37 := Tryz.sizeOf46
  v37 := Tryz.zeroValue46
  t46 := Tryz.underlying134
  a46 := Tryz.isAgg134
  z46 := Tryz.sizeOf134
  v46 := Tryz.zeroValue134
  t51 := Tryz.underlying214
  a51 := Tryz.isAgg214
  z51 := Tryz.sizeOf214
  v51 := Tryz.zeroValue214
  t53 := Tryz.underlying199
  a53 := Tryz.isAgg199
  z53 := Tryz.sizeOf199
  v53 := Tryz.zeroValue199
  t171 := Tryz.underlying198
  a171 := Tryz.isAgg198
  z171 := Tryz.sizeOf198
  v171 := Tryz.zeroValue198
  t173 := Tryz.underlying202
  a173 := Tryz.isAgg202
  z173 := Tryz.sizeOf202
  v173 := Tryz.zeroValue202
  t212 := Tryz.underlying213
  a212 := Tryz.isAgg213
  z212 := Tryz.sizeOf213
  v212 := Tryz.zeroValue213
  t213 := Tryz.underlying215
  a213 := Tryz.isAgg215
  z213 := Tryz.sizeOf215
  t232 := Tryz.underlying233
  a232 := Tryz.isAgg233
  z232 := Tryz.sizeOf233
  v232 := Tryz.zeroValue233
  t233 := Tryz.underlying234
  a233 := Tryz.isAgg234
  z233 := Tryz.sizeOf234
  v233 := Tryz.zeroValue234
  g17 := by kernel_rfl
  g18 := by kernel_rfl
  g19 := by kernel_rfl
  i0 := by kernel_rfl
  i2 := by kernel_rfl
  i3 := by kernel_rfl
  i4 := by kernel_rfl
  i5 := by kernel_rfl
  i9 := by kernel_rfl
  i20 := by kernel_rfl
  i37 := by kernel_rfl
  i46 := by kernel_rfl
  i51 := by kernel_rfl
  i53 := by kernel_rfl
  i171 := by kernel_rfl
  i173 := by kernel_rfl
  i212 := by kernel_rfl
  i232 := by kernel_rfl
  i233 := by kernel_rfl
  m17 := by kernel_rfl
  m18 := by kernel_rfl
  m19 := by kernel_rfl }
open Go.RowKit Go.Sort Go.Lib in
/-- strconv.Itoa: "Itoa is equivalent to FormatInt(int64(i), 10).": i's DECIMAL NUMERAL ('Lib.itoa': a '-' where i is negative, then the digits), FOR EVERY int. The world behind the call: the world before it, new blocks behind the heap (the library's 'var a [24]byte'), draws. (LAID: no walk: one application.) -/
theorem Tryz.strconv_Itoa (n : Int) (h0 : -9223372036854775808 ≤ n) (h1 : n ≤ 9223372036854775807) (w : World) (htab : Lib.TabIs Tryz.prog w "internal/strconv.uint64pow10" .u64 Lib.pow10Tab) :
    Calls Tryz.prog 52 #[.int .i64 n] w fun e w' => e = .returned (.string ⟨(Lib.itoa n).toArray⟩) ∧ ∃ k os, w' = grow (w.drewN k) os := Any.strconv_Itoa Tryz.laysM171 n h0 h1 w htab
def Tryz.lays171_ren : Go.Shelf.Ren := ⟨fun | 171 => 52 | 243 => 83 | 246 => 115 | 283 => 138 | 284 => 139 | 285 => 140 | 286 => 141 | 129 => 158 | 317 => 157 | 318 => 159 | 319 => 160 | 320 => 161 | 337 => 168 | 338 => 169 | n => n, fun | 3 => 3 | 9 => 9 | 2 => 2 | 4 => 4 | 171 => 198 | 0 => 0 | 53 => 199 | 37 => 46 | 5 => 5 | 173 => 202 | 212 => 213 | 51 => 214 | 20 => 20 | 213 => 215 | 46 => 134 | 232 => 233 | 233 => 234 | n => n, fun | 17 => 1 | 18 => 6 | 19 => 7 | n => n⟩
theorem Tryz.lays171 : Go.Proofs.Lays.n171 Tryz.prog Tryz.lays171_ren := {
  mixed := by kernel_rfl
  f129 := Tryz.func158.trans (congrArg some (by kernel_rfl))
  f171 := Tryz.func52.trans (congrArg some (by kernel_rfl))
  f243 := Tryz.func83.trans (congrArg some (by kernel_rfl))
  f246 := Tryz.func115.trans (congrArg some (by kernel_rfl))
  f283 := Tryz.func138.trans (congrArg some (by kernel_rfl))
  f284 := Tryz.func139.trans (congrArg some (by kernel_rfl))
  f285 := Tryz.func140.trans (congrArg some (by kernel_rfl))
  f286 := Tryz.func141.trans (congrArg some (by kernel_rfl))
  f317 := Tryz.func157.trans (congrArg some (by kernel_rfl))
  f318 := Tryz.func159.trans (congrArg some (by kernel_rfl))
  f319 := Tryz.func160.trans (congrArg some (by kernel_rfl))
  f320 := Tryz.func161.trans (congrArg some (by kernel_rfl))
  f337 := Tryz.func168.trans (congrArg some (by kernel_rfl))
  f338 := Tryz.func169.trans (congrArg some (by kernel_rfl))
  t0 := Tryz.underlying0
  a0 := Tryz.isAgg0
  z0 := Tryz.sizeOf0
  v0 := Tryz.zeroValue0
  t2 := Tryz.underlying2
  a2 := Tryz.isAgg2
  z2 := Tryz.sizeOf2
  v2 := Tryz.zeroValue2
  t3 := Tryz.underlying3
  a3 := Tryz.isAgg3
  z3 := Tryz.sizeOf3
  v3 := Tryz.zeroValue3
  t4 := Tryz.underlying4
  a4 := Tryz.isAgg4
  z4 := Tryz.sizeOf4
  v4 := Tryz.zeroValue4
  t5 := Tryz.underlying5
  a5 := Tryz.isAgg5
  z5 := Tryz.sizeOf5
  v5 := Tryz.zeroValue5
  t9 := Tryz.underlying9
  a9 := Tryz.isAgg9
  z9 := Tryz.sizeOf9
  v9 := Tryz.zeroValue9
  t20 := Tryz.underlying20
  a20 := Tryz.isAgg20
  z20 := Tryz.sizeOf20
  v20 := Tryz.zeroValue20
  t37 := Tryz.underlying46
  a37 := Tryz.isAgg46
  z37 := Tryz.sizeOf46
  v37 := Tryz.zeroValue46
  t46 := Tryz.underlying134
  a46 := Tryz.isAgg134
  z46 := Tryz.sizeOf134
  v46 := Tryz.zeroValue134
  t51 := Tryz.underlying214
  a51 := Tryz.isAgg214
  z51 := Tryz.sizeOf214
  v51 := Tryz.zeroValue214
  t53 := Tryz.underlying199
  a53 := Tryz.isAgg199
  z53 := Tryz.sizeOf199
  v53 := Tryz.zeroValue199
  t171 := Tryz.underlying198
  a171 := Tryz.isAgg198
  z171 := Tryz.sizeOf198
  v171 := Tryz.zeroValue198
  t173 := Tryz.underlying202
  a173 := Tryz.isAgg202
  z173 := Tryz.sizeOf202
  v173 := Tryz.zeroValue202
  t212 := Tryz.underlying213
  a212 := Tryz.isAgg213
  z212 := Tryz.sizeOf213
  v212 := Tryz.zeroValue213
  t213 := Tryz.underlying215
  a213 := Tryz.isAgg215
  z213 := Tryz.sizeOf215
  t232 := Tryz.underlying233
  a232 := Tryz.isAgg233
  z232 := Tryz.sizeOf233
  v232 := Tryz.zeroValue233
  t233 := Tryz.underlying234
  a233 := Tryz.isAgg234
  z233 := Tryz.sizeOf234
  v233 := Tryz.zeroValue234
  g17 := by kernel_rfl
  g18 := by kernel_rfl
  g19 := by kernel_rfl }
open Go.RowKit Go.Sort Go.Lib in
/-- THE ROAD WITHOUT THE TABLE: 0 <= i < 100: NO PREMISE ON THE WORLD, AND THE WORLD IS AS IT WAS: a row that keeps its argument in that range need list no table ('laid = []'). (LAID: no walk: one application.) -/
theorem Tryz.strconv_Itoa_small (i : Nat) (hi : i < 100) (w : World) :
    Calls Tryz.prog 52 #[.int .i64 i] w fun e w' => e = .returned (.string ⟨(Lib.decDigits i).toArray⟩) ∧ w' = w := Any.strconv_Itoa_small Tryz.lays171 i hi w
def Tryz.laysC172_ren : Go.Shelf.Ren := ⟨fun | 172 => 88 | 244 => 121 | 245 => 122 | 247 => 146 | 279 => 147 | 280 => 148 | 281 => 149 | 282 => 150 | 287 => 163 | 316 => 164 | 171 => 52 | 205 => 165 | 321 => 170 | 322 => 171 | 243 => 83 | 246 => 115 | 283 => 138 | 284 => 139 | 285 => 140 | 286 => 141 | 129 => 158 | 317 => 157 | 318 => 159 | 319 => 160 | 320 => 161 | 337 => 168 | 338 => 169 | n => n, fun | 9 => 9 | 3 => 3 | 75 => 112 | 76 => 113 | 4 => 4 | 5 => 5 | 167 => 204 | 37 => 46 | 0 => 0 | 85 => 205 | 2 => 2 | 168 => 207 | 53 => 199 | 175 => 223 | 46 => 134 | 210 => 227 | 127 => 144 | 145 => 232 | 143 => 230 | 21 => 21 | 171 => 198 | 173 => 202 | 212 => 213 | 51 => 214 | 20 => 20 | 213 => 215 | 232 => 233 | 233 => 234 | 80 => 116 | n => n, fun | 15 => 4 | 16 => 5 | 17 => 1 | 18 => 6 | 19 => 7 | n => n⟩
theorem Tryz.laysC172 : Go.Proofs.LaysC.n172 Tryz.prog Tryz.laysC172_ren := {
  mixed := by kernel_rfl
  f129 := Tryz.func158.trans (congrArg some (by kernel_rfl))
  f171 := Tryz.func52.trans (congrArg some (by kernel_rfl))
  f172 := Tryz.func88.trans (congrArg some (by kernel_rfl))
  f205 := Tryz.func165.trans (congrArg some (by kernel_rfl))
  f243 := Tryz.func83.trans (congrArg some (by kernel_rfl))
  f244 := Tryz.func121.trans (congrArg some (by kernel_rfl))
  f245 := Tryz.func122.trans (congrArg some (by kernel_rfl))
  f246 := Tryz.func115.trans (congrArg some (by kernel_rfl))
  f247 := Tryz.func146.trans (congrArg some (by kernel_rfl))
  f279 := Tryz.func147.trans (congrArg some (by kernel_rfl))
  f280 := Tryz.func148.trans (congrArg some (by kernel_rfl))
  f281 := Tryz.func149.trans (congrArg some (by kernel_rfl))
  f282 := Tryz.func150.trans (congrArg some (by kernel_rfl))
  f283 := Tryz.func138.trans (congrArg some (by kernel_rfl))
  f284 := Tryz.func139.trans (congrArg some (by kernel_rfl))
  f285 := Tryz.func140.trans (congrArg some (by kernel_rfl))
  f286 := Tryz.func141.trans (congrArg some (by kernel_rfl))
  f287 := Tryz.func163.trans (congrArg some (by kernel_rfl))
  f316 := Tryz.func164.trans (congrArg some (by kernel_rfl))
  f317 := Tryz.func157.trans (congrArg some (by kernel_rfl))
  f318 := Tryz.func159.trans (congrArg some (by kernel_rfl))
  f319 := Tryz.func160.trans (congrArg some (by kernel_rfl))
  f320 := Tryz.func161.trans (congrArg some (by kernel_rfl))
  f321 := Tryz.func170.trans (congrArg some (by kernel_rfl))
  f322 := Tryz.func171.trans (congrArg some (by kernel_rfl))
  f337 := Tryz.func168.trans (congrArg some (by kernel_rfl))
  f338 := Tryz.func169.trans (congrArg some (by kernel_rfl))
  t0 := Tryz.underlying0
  a0 := Tryz.isAgg0
  z0 := Tryz.sizeOf0
  v0 := Tryz.zeroValue0
  t2 := Tryz.underlying2
  a2 := Tryz.isAgg2
  z2 := Tryz.sizeOf2
  v2 := Tryz.zeroValue2
  t3 := Tryz.underlying3
  a3 := Tryz.isAgg3
  z3 := Tryz.sizeOf3
  v3 := Tryz.zeroValue3
  t4 := Tryz.underlying4
  a4 := Tryz.isAgg4
  z4 := Tryz.sizeOf4
  v4 := Tryz.zeroValue4
  t5 := Tryz.underlying5
  a5 := Tryz.isAgg5
  z5 := Tryz.sizeOf5
  v5 := Tryz.zeroValue5
  t9 := Tryz.underlying9
  a9 := Tryz.isAgg9
  z9 := Tryz.sizeOf9
  v9 := Tryz.zeroValue9
  t20 := Tryz.underlying20
  a20 := Tryz.isAgg20
  z20 := Tryz.sizeOf20
  v20 := Tryz.zeroValue20
  t21 := Tryz.underlying21
  a21 := Tryz.isAgg21
  z21 := Tryz.sizeOf21
  v21 := Tryz.zeroValue21
  t37 := Tryz.underlying46
  a37 := Tryz.isAgg46
  z37 := Tryz.sizeOf46
  v37 := Tryz.zeroValue46
  t46 := Tryz.underlying134
  a46 := Tryz.isAgg134
  z46 := Tryz.sizeOf134
  v46 := Tryz.zeroValue134
  t51 := Tryz.underlying214
  a51 := Tryz.isAgg214
  z51 := Tryz.sizeOf214
  v51 := Tryz.zeroValue214
  t53 := Tryz.underlying199
  a53 := Tryz.isAgg199
  z53 := Tryz.sizeOf199
  v53 := Tryz.zeroValue199
  t75 := Tryz.underlying112
  a75 := Tryz.isAgg112
  z75 := Tryz.sizeOf112
  v75 := Tryz.zeroValue112
  t76 := Tryz.underlying113
  a76 := Tryz.isAgg113
  z76 := Tryz.sizeOf113
  v76 := Tryz.zeroValue113
  t85 := Tryz.underlying205
  a85 := Tryz.isAgg205
  z85 := Tryz.sizeOf205
  v85 := Tryz.zeroValue205
  t127 := Tryz.underlying144
  a127 := Tryz.isAgg144
  z127 := Tryz.sizeOf144
  v127 := Tryz.zeroValue144
  t143 := Tryz.underlying230
  a143 := Tryz.isAgg230
  z143 := Tryz.sizeOf230
  v143 := Tryz.zeroValue230
  t145 := Tryz.underlying232
  a145 := Tryz.isAgg232
  z145 := Tryz.sizeOf232
  v145 := Tryz.zeroValue232
  t167 := Tryz.underlying204
  a167 := Tryz.isAgg204
  z167 := Tryz.sizeOf204
  v167 := Tryz.zeroValue204
  t168 := Tryz.underlying207
  a168 := Tryz.isAgg207
  z168 := Tryz.sizeOf207
  v168 := Tryz.zeroValue207
  t171 := Tryz.underlying198
  a171 := Tryz.isAgg198
  z171 := Tryz.sizeOf198
  v171 := Tryz.zeroValue198
  t173 := Tryz.underlying202
  a173 := Tryz.isAgg202
  z173 := Tryz.sizeOf202
  v173 := Tryz.zeroValue202
  t175 := Tryz.underlying223
  a175 := Tryz.isAgg223
  z175 := Tryz.sizeOf223
  v175 := Tryz.zeroValue223
  t210 := Tryz.underlying227
  a210 := Tryz.isAgg227
  z210 := Tryz.sizeOf227
  v210 := Tryz.zeroValue227
  t212 := Tryz.underlying213
  a212 := Tryz.isAgg213
  z212 := Tryz.sizeOf213
  v212 := Tryz.zeroValue213
  t213 := Tryz.underlying215
  a213 := Tryz.isAgg215
  z213 := Tryz.sizeOf215
  t232 := Tryz.underlying233
  a232 := Tryz.isAgg233
  z232 := Tryz.sizeOf233
  v232 := Tryz.zeroValue233
  t233 := Tryz.underlying234
  a233 := Tryz.isAgg234
  z233 := Tryz.sizeOf234
  v233 := Tryz.zeroValue234
  g15 := by kernel_rfl
  g16 := by kernel_rfl
  g17 := by kernel_rfl
  g18 := by kernel_rfl
  g19 := by kernel_rfl
  t80 := Tryz.underlying116
  a80 := Tryz.isAgg116
  z80 := Tryz.sizeOf116
  v80 := Tryz.zeroValue116
  i0 := by kernel_rfl
  i2 := by kernel_rfl
  i3 := by kernel_rfl
  i4 := by kernel_rfl
  i5 := by kernel_rfl
  i9 := by kernel_rfl
  i20 := by kernel_rfl
  i21 := by kernel_rfl
  i37 := by kernel_rfl
  i46 := by kernel_rfl
  i51 := by kernel_rfl
  i53 := by kernel_rfl
  i75 := by kernel_rfl
  i76 := by kernel_rfl
  i80 := by kernel_rfl
  i85 := by kernel_rfl
  i127 := by kernel_rfl
  i143 := by kernel_rfl
  i145 := by kernel_rfl
  i167 := by kernel_rfl
  i168 := by kernel_rfl
  i171 := by kernel_rfl
  i173 := by kernel_rfl
  i175 := by kernel_rfl
  i210 := by kernel_rfl
  i212 := by kernel_rfl
  i232 := by kernel_rfl
  i233 := by kernel_rfl
  m15 := by kernel_rfl
  m16 := by kernel_rfl
  m17 := by kernel_rfl
  m18 := by kernel_rfl
  m19 := by kernel_rfl
  c0 := by kernel_rfl
  c2 := by kernel_rfl
  c3 := by kernel_rfl
  c4 := by kernel_rfl
  c5 := by kernel_rfl
  c9 := by kernel_rfl
  c20 := by kernel_rfl
  c21 := by kernel_rfl
  c37 := by kernel_rfl
  c46 := by kernel_rfl
  c51 := by kernel_rfl
  c53 := by kernel_rfl
  c75 := by kernel_rfl
  c76 := by kernel_rfl
  c80 := by kernel_rfl
  c85 := by kernel_rfl
  c127 := by kernel_rfl
  c143 := by kernel_rfl
  c145 := by kernel_rfl
  c167 := by kernel_rfl
  c168 := by kernel_rfl
  c171 := by kernel_rfl
  c173 := by kernel_rfl
  c175 := by kernel_rfl
  c210 := by kernel_rfl
  c212 := by kernel_rfl
  c213 := by kernel_rfl
  c232 := by kernel_rfl
  c233 := by kernel_rfl }
open Go.RowKit in
/-- strconv.Atoi, AT EVERY STRING THAT SPELLS AN int ('Lib.atoiAll .. = .ok v'; of whatever length: leading zeros count): v, AND NO ERROR. The world: as it was, or with the one new row that '[]byte(..)' lays. (LAID: no walk: one application.) -/
theorem Tryz.strconv_Atoi_ok (s : ByteArray) (hmax : s.size ≤ 9223372036854775806) (v : Int) (h : Lib.atoiAll s.data.toList = .ok v) (w : World) :
    Calls Tryz.prog 88 #[.string s] w fun e w' => e = .returned (.tuple #[.int .i64 v, .nilIface]) ∧ (w' = w ∨ ∃ t, w' = Lib.bytesWorld w 5 t) := Any.strconv_Atoi_ok Tryz.laysC172 s hmax v h w
open Go.RowKit in
theorem Tryz.strconv_Atoi_syntax_var (s : ByteArray) (hlim : s.size ≤ 281474976710656) (h : Lib.atoiAll s.data.toList = Lib.atoiAll []) (tp : TypeId) (p : Value) (w : World) (hvar : w.var? Tryz.prog "strconv.ErrSyntax" = some #[.iface tp p]) :
    Calls Tryz.prog 88 #[.string s] w fun e w' => ∃ N, e = .returned (.tuple #[.int .i64 0, .iface 207 (.pointer (some ⟨N, 0, none⟩))]) ∧ w.heap.size ≤ N ∧ w'.heap[N]? = some (.cells #[.string ⟨#[65, 116, 111, 105]⟩, .string s, .iface tp p] 227 (0, 0)) ∧ Below w.heap.size w w' := Any.strconv_Atoi_syntax_var Tryz.laysC172 s hlim h tp p w hvar
open Go.RowKit in
theorem Tryz.strconv_Atoi_range_var (s : ByteArray) (hlim : s.size ≤ 281474976710656) (h : Lib.atoiAll s.data.toList = .range) (tp : TypeId) (p : Value) (w : World) (hvar : w.var? Tryz.prog "strconv.ErrRange" = some #[.iface tp p]) :
    Calls Tryz.prog 88 #[.string s] w fun e w' => ∃ N, e = .returned (.tuple #[.int .i64 (Lib.atoiSat s.data.toList), .iface 207 (.pointer (some ⟨N, 0, none⟩))]) ∧ w.heap.size ≤ N ∧ w'.heap[N]? = some (.cells #[.string ⟨#[65, 116, 111, 105]⟩, .string s, .iface tp p] 227 (0, 0)) ∧ Below w.heap.size w w' := Any.strconv_Atoi_range_var Tryz.laysC172 s hlim h tp p w hvar
def Tryz.lays145_ren : Go.Shelf.Ren := ⟨fun | 145 => 57 | 220 => 89 | 219 => 120 | 217 => 123 | 225 => 143 | 224 => 144 | 267 => 145 | 266 => 151 | 314 => 162 | n => n, fun | 9 => 9 | 4 => 4 | 59 => 139 | 3 => 3 | 5 => 5 | 46 => 134 | 146 => 221 | 51 => 214 | n => n, fun | 1 => 0 | n => n⟩
theorem Tryz.lays145 : Go.Proofs.Lays.n145 Tryz.prog Tryz.lays145_ren := {
  mixed := by kernel_rfl
  f145 := Tryz.func57.trans (congrArg some (by kernel_rfl))
  f217 := Tryz.func123.trans (congrArg some (by kernel_rfl))
  f219 := Tryz.func120.trans (congrArg some (by kernel_rfl))
  f220 := Tryz.func89.trans (congrArg some (by kernel_rfl))
  f224 := Tryz.func144.trans (congrArg some (by kernel_rfl))
  f225 := Tryz.func143.trans (congrArg some (by kernel_rfl))
  f266 := Tryz.func151.trans (congrArg some (by kernel_rfl))
  f267 := Tryz.func145.trans (congrArg some (by kernel_rfl))
  f314 := Tryz.func162.trans (congrArg some (by kernel_rfl))
  t3 := Tryz.underlying3
  a3 := Tryz.isAgg3
  z3 := Tryz.sizeOf3
  v3 := Tryz.zeroValue3
  t4 := Tryz.underlying4
  a4 := Tryz.isAgg4
  z4 := Tryz.sizeOf4
  v4 := Tryz.zeroValue4
  t5 := Tryz.underlying5
  a5 := Tryz.isAgg5
  z5 := Tryz.sizeOf5
  v5 := Tryz.zeroValue5
  t9 := Tryz.underlying9
  a9 := Tryz.isAgg9
  z9 := Tryz.sizeOf9
  v9 := Tryz.zeroValue9
  t46 := Tryz.underlying134
  a46 := Tryz.isAgg134
  z46 := Tryz.sizeOf134
  v46 := Tryz.zeroValue134
  t51 := Tryz.underlying214
  a51 := Tryz.isAgg214
  z51 := Tryz.sizeOf214
  v51 := Tryz.zeroValue214
  t59 := Tryz.underlying139
  a59 := Tryz.isAgg139
  z59 := Tryz.sizeOf139
  v59 := Tryz.zeroValue139
  t146 := Tryz.underlying221
  a146 := Tryz.isAgg221
  z146 := Tryz.sizeOf221
  v146 := Tryz.zeroValue221
  g1 := by kernel_rfl }
open Go.RowKit Go.Lib in
/-- strings.Cut: "Cut slices s around the first instance of sep, returning the text before and after sep. The found result reports whether sep appears in s. If sep does not appear in s, cut returns s, "", false.": IT RETURNS 'Lib.cut s sep'; the world is as it was but for the count of draws. (LAID: no walk: one application.) -/
theorem Tryz.strings_Cut (s sep : ByteArray) (m : Int) (w : World) (hs : s.size < 4294967281) (hm : w.cell? ⟨0, 0, none⟩ = some (.int .i64 m)) :
    Calls Tryz.prog 57 #[.string s, .string sep] w fun e w' => e = .returned (.tuple #[.string ⟨(Lib.cut s.data.toList sep.data.toList).1.toArray⟩, .string ⟨(Lib.cut s.data.toList sep.data.toList).2.1.toArray⟩, .bool (Lib.cut s.data.toList sep.data.toList).2.2]) ∧ ∃ n, w' = w.drewN n := Any.strings_Cut Tryz.lays145 s sep m w hs hm
def Tryz.lays146_ren : Go.Shelf.Ren := ⟨fun | 146 => 35 | 221 => 55 | 268 => 85 | 138 => 86 | 143 => 87 | 195 => 117 | 197 => 118 | 218 => 119 | 219 => 120 | 260 => 142 | 217 => 123 | 225 => 143 | 224 => 144 | 267 => 145 | 266 => 151 | 314 => 162 | n => n, fun | 9 => 9 | 31 => 77 | 3 => 3 | 4 => 4 | 0 => 0 | 105 => 187 | 21 => 21 | 5 => 5 | 46 => 134 | 119 => 217 | 139 => 220 | 138 => 219 | 146 => 221 | 51 => 214 | n => n, fun | 1 => 0 | 3 => 2 | 4 => 3 | n => n⟩
theorem Tryz.lays146 : Go.Proofs.Lays.n146 Tryz.prog Tryz.lays146_ren := {
  mixed := by kernel_rfl
  f138 := Tryz.func86.trans (congrArg some (by kernel_rfl))
  f143 := Tryz.func87.trans (congrArg some (by kernel_rfl))
  f146 := Tryz.func35.trans (congrArg some (by kernel_rfl))
  f195 := Tryz.func117.trans (congrArg some (by kernel_rfl))
  f197 := Tryz.func118.trans (congrArg some (by kernel_rfl))
  f217 := Tryz.func123.trans (congrArg some (by kernel_rfl))
  f218 := Tryz.func119.trans (congrArg some (by kernel_rfl))
  f219 := Tryz.func120.trans (congrArg some (by kernel_rfl))
  f221 := Tryz.func55.trans (congrArg some (by kernel_rfl))
  f224 := Tryz.func144.trans (congrArg some (by kernel_rfl))
  f225 := Tryz.func143.trans (congrArg some (by kernel_rfl))
  f260 := Tryz.func142.trans (congrArg some (by kernel_rfl))
  f266 := Tryz.func151.trans (congrArg some (by kernel_rfl))
  f267 := Tryz.func145.trans (congrArg some (by kernel_rfl))
  f268 := Tryz.func85.trans (congrArg some (by kernel_rfl))
  f314 := Tryz.func162.trans (congrArg some (by kernel_rfl))
  t0 := Tryz.underlying0
  a0 := Tryz.isAgg0
  z0 := Tryz.sizeOf0
  v0 := Tryz.zeroValue0
  t3 := Tryz.underlying3
  a3 := Tryz.isAgg3
  z3 := Tryz.sizeOf3
  v3 := Tryz.zeroValue3
  t4 := Tryz.underlying4
  a4 := Tryz.isAgg4
  z4 := Tryz.sizeOf4
  v4 := Tryz.zeroValue4
  t5 := Tryz.underlying5
  a5 := Tryz.isAgg5
  z5 := Tryz.sizeOf5
  v5 := Tryz.zeroValue5
  t9 := Tryz.underlying9
  a9 := Tryz.isAgg9
  z9 := Tryz.sizeOf9
  v9 := Tryz.zeroValue9
  t21 := Tryz.underlying21
  a21 := Tryz.isAgg21
  z21 := Tryz.sizeOf21
  v21 := Tryz.zeroValue21
  t31 := Tryz.underlying77
  a31 := Tryz.isAgg77
  z31 := Tryz.sizeOf77
  v31 := Tryz.zeroValue77
  t46 := Tryz.underlying134
  a46 := Tryz.isAgg134
  z46 := Tryz.sizeOf134
  v46 := Tryz.zeroValue134
  t51 := Tryz.underlying214
  a51 := Tryz.isAgg214
  z51 := Tryz.sizeOf214
  v51 := Tryz.zeroValue214
  t105 := Tryz.underlying187
  a105 := Tryz.isAgg187
  z105 := Tryz.sizeOf187
  v105 := Tryz.zeroValue187
  t119 := Tryz.underlying217
  a119 := Tryz.isAgg217
  z119 := Tryz.sizeOf217
  t138 := Tryz.underlying219
  a138 := Tryz.isAgg219
  z138 := Tryz.sizeOf219
  v138 := Tryz.zeroValue219
  t139 := Tryz.underlying220
  a139 := Tryz.isAgg220
  z139 := Tryz.sizeOf220
  v139 := Tryz.zeroValue220
  t146 := Tryz.underlying221
  a146 := Tryz.isAgg221
  z146 := Tryz.sizeOf221
  v146 := Tryz.zeroValue221
  g1 := by kernel_rfl
  g3 := by kernel_rfl
  g4 := by kernel_rfl }
open Go.RowKit Go.Lib in
/-- strings.Split. (LAID: no walk: one application.) -/
theorem Tryz.strings_Split (s sep : ByteArray) (m : Int) (w : World) (hs : s.size < 4294967281) (hm : w.cell? ⟨0, 0, none⟩ = some (.int .i64 m)) (h1 : 1 ≤ sep.size) :
    Calls Tryz.prog 35 #[.string s, .string sep] w fun e w' =>
      e = .returned (.slice (some ⟨w.heap.size, 0, none⟩) (Lib.countB s sep + 1) (Lib.countB s sep + 1)) ∧ w' = w.alloc (.cells ((Lib.splitB sep 0 (Lib.countB s sep) s).map Value.string).toArray 9) := Any.strings_Split Tryz.lays146 (by kernel_rfl) s sep m w hs hm h1
def Tryz.lays167_ren : Go.Shelf.Ren := ⟨fun | 167 => 53 | 240 => 62 | 276 => 93 | n => n, fun | 70 => 106 | 9 => 9 | 0 => 0 | 72 => 108 | 37 => 46 | 127 => 144 | 3 => 3 | 5 => 5 | 4 => 4 | 20 => 20 | 75 => 112 | 80 => 116 | 164 => 167 | n => n, fun | n => n⟩
theorem Tryz.lays167 : Go.Proofs.Lays.n167 Tryz.prog Tryz.lays167_ren := {
  mixed := by kernel_rfl
  f167 := Tryz.func53.trans (congrArg some (by kernel_rfl))
  f240 := Tryz.func62.trans (congrArg some (by kernel_rfl))
  f276 := Tryz.func93.trans (congrArg some (by kernel_rfl))
  t0 := Tryz.underlying0
  a0 := Tryz.isAgg0
  z0 := Tryz.sizeOf0
  v0 := Tryz.zeroValue0
  t4 := Tryz.underlying4
  a4 := Tryz.isAgg4
  z4 := Tryz.sizeOf4
  v4 := Tryz.zeroValue4
  t5 := Tryz.underlying5
  a5 := Tryz.isAgg5
  z5 := Tryz.sizeOf5
  v5 := Tryz.zeroValue5
  t9 := Tryz.underlying9
  a9 := Tryz.isAgg9
  z9 := Tryz.sizeOf9
  v9 := Tryz.zeroValue9
  t20 := Tryz.underlying20
  a20 := Tryz.isAgg20
  z20 := Tryz.sizeOf20
  v20 := Tryz.zeroValue20
  t37 := Tryz.underlying46
  a37 := Tryz.isAgg46
  z37 := Tryz.sizeOf46
  v37 := Tryz.zeroValue46
  t70 := Tryz.underlying106
  a70 := Tryz.isAgg106
  z70 := Tryz.sizeOf106
  v70 := Tryz.zeroValue106
  t72 := Tryz.underlying108
  a72 := Tryz.isAgg108
  z72 := Tryz.sizeOf108
  v72 := Tryz.zeroValue108
  t75 := Tryz.underlying112
  a75 := Tryz.isAgg112
  z75 := Tryz.sizeOf112
  v75 := Tryz.zeroValue112
  t164 := Tryz.underlying167
  a164 := Tryz.isAgg167
  z164 := Tryz.sizeOf167
  v164 := Tryz.zeroValue167 }
theorem Tryz.Builder_Extra_167 : Builder.Extra Tryz.prog Tryz.lays167_ren := {
  sizeBuilder := by kernel_rfl
  liesBuilder := by kernel_rfl
  t5 := Tryz.underlying5
  a5 := Tryz.isAgg5
  z5 := Tryz.sizeOf5
  v5 := Tryz.zeroValue5
  infoByte := by kernel_rfl
  cellsByte := by kernel_rfl
  sizeByte := by kernel_rfl
  neB5 := by decide }
def Tryz.lays166_ren : Go.Shelf.Ren := ⟨fun | 166 => 41 | 240 => 62 | 276 => 93 | n => n, fun | 70 => 106 | 9 => 9 | 0 => 0 | 72 => 108 | 37 => 46 | 127 => 144 | 3 => 3 | 5 => 5 | 4 => 4 | 20 => 20 | 75 => 112 | 80 => 116 | 164 => 167 | n => n, fun | n => n⟩
theorem Tryz.lays166 : Go.Proofs.Lays.n166 Tryz.prog Tryz.lays166_ren := {
  mixed := by kernel_rfl
  f166 := Tryz.func41.trans (congrArg some (by kernel_rfl))
  f240 := Tryz.func62.trans (congrArg some (by kernel_rfl))
  f276 := Tryz.func93.trans (congrArg some (by kernel_rfl))
  t0 := Tryz.underlying0
  a0 := Tryz.isAgg0
  z0 := Tryz.sizeOf0
  v0 := Tryz.zeroValue0
  t3 := Tryz.underlying3
  a3 := Tryz.isAgg3
  z3 := Tryz.sizeOf3
  v3 := Tryz.zeroValue3
  t4 := Tryz.underlying4
  a4 := Tryz.isAgg4
  z4 := Tryz.sizeOf4
  v4 := Tryz.zeroValue4
  t9 := Tryz.underlying9
  a9 := Tryz.isAgg9
  z9 := Tryz.sizeOf9
  v9 := Tryz.zeroValue9
  t20 := Tryz.underlying20
  a20 := Tryz.isAgg20
  z20 := Tryz.sizeOf20
  v20 := Tryz.zeroValue20
  t37 := Tryz.underlying46
  a37 := Tryz.isAgg46
  z37 := Tryz.sizeOf46
  v37 := Tryz.zeroValue46
  t70 := Tryz.underlying106
  a70 := Tryz.isAgg106
  z70 := Tryz.sizeOf106
  v70 := Tryz.zeroValue106
  t72 := Tryz.underlying108
  a72 := Tryz.isAgg108
  z72 := Tryz.sizeOf108
  v72 := Tryz.zeroValue108
  t75 := Tryz.underlying112
  a75 := Tryz.isAgg112
  z75 := Tryz.sizeOf112
  v75 := Tryz.zeroValue112
  t164 := Tryz.underlying167
  a164 := Tryz.isAgg167
  z164 := Tryz.sizeOf167
  v164 := Tryz.zeroValue167 }
theorem Tryz.Builder_Extra_166 : Builder.Extra Tryz.prog Tryz.lays166_ren := {
  sizeBuilder := by kernel_rfl
  liesBuilder := by kernel_rfl
  t5 := Tryz.underlying5
  a5 := Tryz.isAgg5
  z5 := Tryz.sizeOf5
  v5 := Tryz.zeroValue5
  infoByte := by kernel_rfl
  cellsByte := by kernel_rfl
  sizeByte := by kernel_rfl
  neB5 := by decide }
open Go.RowKit
theorem Tryz.Builder_WriteByte_k (B b : Nat) (bs : List Value) (c : Int) (w : World) (h : Lib.IsBuilderF 108 5 B b bs w) (hlen : bs.length + 1 ≤ 140737488355328) (hBw : B ≤ w.heap.size) :
    Calls Tryz.prog 53 #[.pointer (some ⟨b, 0, none⟩), .int .u8 c] w fun e w' => e = .returned .nilIface ∧ (Lib.BuilderAtF 108 5 B b (.pointer (some ⟨b, 0, none⟩)) (bs ++ [.int .u8 c]) w' ∧ Below B w w' ∧ Lib.OthersKept 5 (some b) w w') := Any.Builder_WriteByte_k Tryz.lays167 Tryz.Builder_Extra_167 B b bs c w h hlen hBw
theorem Tryz.Builder_WriteString_k (B b : Nat) (bs : List Value) (s : ByteArray) (w : World) (h : Lib.IsBuilderF 108 5 B b bs w) (hlen : bs.length + s.size ≤ 140737488355328) (hBw : B ≤ w.heap.size) :
    Calls Tryz.prog 41 #[.pointer (some ⟨b, 0, none⟩), .string s] w fun e w' => e = .returned (.tuple #[.int .i64 s.size, .nilIface]) ∧ (Lib.BuilderAtF 108 5 B b (.pointer (some ⟨b, 0, none⟩)) (bs ++ Lib.strCells s) w' ∧ Below B w w' ∧ Lib.OthersKept 5 (some b) w w') := Any.Builder_WriteString_k Tryz.lays166 Tryz.Builder_Extra_166 B b bs s w h hlen hBw
end Go.Proofs
