/-
  Contracts of the library's functions that the program calls, laid at this translation by the kit's own shelf command in its plain mode; picked by a program of mine.
-/
import Derived.Shelf.Small.Strs
import Derived.Shelf.Pu.ParseUintPublic10
import Derived.Shelf.Strings.Search1
import Derived.Shelf.Strings.Search2
import Derived.Shelf.Strings.Search3
import Derived.Shelf.Strings.Shaped
import Derived.Shelf.Strings.Prefix
import Derived.Test.YtbiobefcagboeaaDoorProg
namespace Go.Proofs.YtbiobefcagboeaaDoor
open Go.Shelf
def Tryd.lays137_ren : Go.Shelf.Ren := ⟨fun | 137 => 23 | 217 => 42 | 266 => 49 | n => n, fun | 9 => 9 | 5 => 5 | 3 => 3 | n => n, fun | n => n⟩
theorem Tryd.lays137 : Go.Proofs.Lays.n137 Tryd.prog Tryd.lays137_ren := {
  mixed := by kernel_rfl
  f137 := Tryd.func23.trans (congrArg some (by kernel_rfl))
  f217 := Tryd.func42.trans (congrArg some (by kernel_rfl))
  f266 := Tryd.func49.trans (congrArg some (by kernel_rfl))
  t3 := Tryd.underlying3
  a3 := Tryd.isAgg3
  z3 := Tryd.sizeOf3
  v3 := Tryd.zeroValue3
  t5 := Tryd.underlying5
  a5 := Tryd.isAgg5
  z5 := Tryd.sizeOf5
  v5 := Tryd.zeroValue5
  t9 := Tryd.underlying9
  a9 := Tryd.isAgg9
  z9 := Tryd.sizeOf9
  v9 := Tryd.zeroValue9 }
open Go.RowKit in
/-- strings.IndexByte: "IndexByte returns the index of the first instance of c in s, or -1 if c is not present in s.": IT RETURNS 'Lib.indexByte s c'; the world is as it was. (LAID: no walk: one application.) -/
theorem Tryd.strings_IndexByte (s : ByteArray) (c : Int) (w : World) :
    Calls Tryd.prog 23 #[.string s, .int .u8 c] w fun e w' => e = .returned (.int .i64 (Lib.indexByte s.data.toList c.toNat.toUInt8)) ∧ w' = w := Any.strings_IndexByte Tryd.lays137 s c w
def Tryd.laysPu14_ren : Go.Shelf.Ren := ⟨fun | 14 => 26 | 16 => 43 | 17 => 44 | 19 => 50 | 20 => 51 | 21 => 52 | 22 => 53 | 23 => 54 | 24 => 55 | 25 => 57 | 27 => 59 | 26 => 58 | 28 => 63 | 29 => 65 | 30 => 66 | 31 => 67 | 32 => 68 | 33 => 69 | 35 => 71 | 34 => 70 | 36 => 72 | 37 => 73 | 38 => 74 | 39 => 75 | 40 => 76 | n => n, fun | 9 => 9 | 3 => 3 | 22 => 29 | 24 => 25 | 25 => 64 | 4 => 4 | 34 => 102 | 5 => 5 | 36 => 34 | 37 => 43 | 0 => 0 | 39 => 104 | 21 => 21 | 44 => 109 | 47 => 113 | 50 => 116 | 48 => 114 | 2 => 2 | 52 => 121 | 55 => 124 | 59 => 127 | 60 => 117 | 20 => 20 | 61 => 128 | 65 => 131 | 66 => 132 | 67 => 133 | n => n, fun | 0 => 2 | 1 => 3 | 2 => 4 | 3 => 5 | 4 => 6 | n => n⟩
theorem Tryd.laysPu14 : Go.Proofs.LaysPu.n14 Tryd.prog Tryd.laysPu14_ren := {
  mixed := by kernel_rfl
  f14 := Tryd.func26.trans (congrArg some (by kernel_rfl))
  f16 := Tryd.func43.trans (congrArg some (by kernel_rfl))
  f17 := Tryd.func44.trans (congrArg some (by kernel_rfl))
  f19 := Tryd.func50.trans (congrArg some (by kernel_rfl))
  f20 := Tryd.func51.trans (congrArg some (by kernel_rfl))
  f21 := Tryd.func52.trans (congrArg some (by kernel_rfl))
  f22 := Tryd.func53.trans (congrArg some (by kernel_rfl))
  f23 := Tryd.func54.trans (congrArg some (by kernel_rfl))
  f24 := Tryd.func55.trans (congrArg some (by kernel_rfl))
  f25 := Tryd.func57.trans (congrArg some (by kernel_rfl))
  f26 := Tryd.func58.trans (congrArg some (by kernel_rfl))
  f27 := Tryd.func59.trans (congrArg some (by kernel_rfl))
  f28 := Tryd.func63.trans (congrArg some (by kernel_rfl))
  f29 := Tryd.func65.trans (congrArg some (by kernel_rfl))
  f30 := Tryd.func66.trans (congrArg some (by kernel_rfl))
  f31 := Tryd.func67.trans (congrArg some (by kernel_rfl))
  f32 := Tryd.func68.trans (congrArg some (by kernel_rfl))
  f33 := Tryd.func69.trans (congrArg some (by kernel_rfl))
  f34 := Tryd.func70.trans (congrArg some (by kernel_rfl))
  f35 := Tryd.func71.trans (congrArg some (by kernel_rfl))
  f36 := Tryd.func72.trans (congrArg some (by kernel_rfl))
  f37 := Tryd.func73.trans (congrArg some (by kernel_rfl))
  f38 := Tryd.func74.trans (congrArg some (by kernel_rfl))
  f39 := Tryd.func75.trans (congrArg some (by kernel_rfl))
  f40 := Tryd.func76.trans (congrArg some (by kernel_rfl))
  t0 := Tryd.underlying0
  a0 := Tryd.isAgg0
  z0 := Tryd.sizeOf0
  v0 := Tryd.zeroValue0
  i0 := by kernel_rfl
  t2 := Tryd.underlying2
  a2 := Tryd.isAgg2
  z2 := Tryd.sizeOf2
  v2 := Tryd.zeroValue2
  i2 := by kernel_rfl
  t3 := Tryd.underlying3
  a3 := Tryd.isAgg3
  z3 := Tryd.sizeOf3
  v3 := Tryd.zeroValue3
  i3 := by kernel_rfl
  t4 := Tryd.underlying4
  a4 := Tryd.isAgg4
  z4 := Tryd.sizeOf4
  v4 := Tryd.zeroValue4
  i4 := by kernel_rfl
  t5 := Tryd.underlying5
  a5 := Tryd.isAgg5
  z5 := Tryd.sizeOf5
  v5 := Tryd.zeroValue5
  i5 := by kernel_rfl
  t9 := Tryd.underlying9
  a9 := Tryd.isAgg9
  z9 := Tryd.sizeOf9
  v9 := Tryd.zeroValue9
  i9 := by kernel_rfl
  t20 := Tryd.underlying20
  a20 := Tryd.isAgg20
  z20 := Tryd.sizeOf20
  v20 := Tryd.zeroValue20
  i20 := by kernel_rfl
  t21 := Tryd.underlying21
  a21 := Tryd.isAgg21
  z21 := Tryd.sizeOf21
  v21 := Tryd.zeroValue21
  i21 := by kernel_rfl
  t22 := Tryd.underlying29
  a22 := Tryd.isAgg29
  z22 := Tryd.sizeOf29
  v22 := Tryd.zeroValue29
  i22 := by kernel_rfl
  t24 := Tryd.underlying25
  a24 := Tryd.isAgg25
  z24 := Tryd.sizeOf25
  v24 := Tryd.zeroValue25
  i24 := by kernel_rfl
  t25 := Tryd.underlying64
  a25 := Tryd.isAgg64
  z25 := Tryd.sizeOf64
  v25 := Tryd.zeroValue64
  i25 := by kernel_rfl
  t34 := Tryd.underlying102
  a34 := Tryd.isAgg102
  z34 := Tryd.sizeOf102
  v34 := Tryd.zeroValue102
  i34 := by kernel_rfl
  c34 := by kernel_rfl
  t36 := Tryd.underlying34
  a36 := Tryd.isAgg34
  z36 := Tryd.sizeOf34
  v36 := Tryd.zeroValue34
  i36 := by kernel_rfl
  t37 := Tryd.underlying43
  a37 := Tryd.isAgg43
  z37 := Tryd.sizeOf43
  v37 := Tryd.zeroValue43
  i37 := by kernel_rfl
  t39 := Tryd.underlying104
  a39 := Tryd.isAgg104
  z39 := Tryd.sizeOf104
  v39 := Tryd.zeroValue104
  i39 := by kernel_rfl
  t44 := Tryd.underlying109
  a44 := Tryd.isAgg109
  z44 := Tryd.sizeOf109
  v44 := Tryd.zeroValue109
  i44 := by kernel_rfl
  t47 := Tryd.underlying113
  a47 := Tryd.isAgg113
  z47 := Tryd.sizeOf113
  v47 := Tryd.zeroValue113
  i47 := by kernel_rfl
  t48 := Tryd.underlying114
  a48 := Tryd.isAgg114
  z48 := Tryd.sizeOf114
  v48 := Tryd.zeroValue114
  i48 := by kernel_rfl
  t50 := Tryd.underlying116
  a50 := Tryd.isAgg116
  z50 := Tryd.sizeOf116
  v50 := Tryd.zeroValue116
  i50 := by kernel_rfl
  t52 := Tryd.underlying121
  a52 := Tryd.isAgg121
  z52 := Tryd.sizeOf121
  v52 := Tryd.zeroValue121
  i52 := by kernel_rfl
  t55 := Tryd.underlying124
  a55 := Tryd.isAgg124
  z55 := Tryd.sizeOf124
  v55 := Tryd.zeroValue124
  i55 := by kernel_rfl
  t59 := Tryd.underlying127
  a59 := Tryd.isAgg127
  z59 := Tryd.sizeOf127
  v59 := Tryd.zeroValue127
  i59 := by kernel_rfl
  t60 := Tryd.underlying117
  a60 := Tryd.isAgg117
  z60 := Tryd.sizeOf117
  v60 := Tryd.zeroValue117
  i60 := by kernel_rfl
  t61 := Tryd.underlying128
  a61 := Tryd.isAgg128
  z61 := Tryd.sizeOf128
  t65 := Tryd.underlying131
  a65 := Tryd.isAgg131
  z65 := Tryd.sizeOf131
  v65 := Tryd.zeroValue131
  i65 := by kernel_rfl
  t66 := Tryd.underlying132
  a66 := Tryd.isAgg132
  z66 := Tryd.sizeOf132
  v66 := Tryd.zeroValue132
  i66 := by kernel_rfl
  t67 := Tryd.underlying133
  a67 := Tryd.isAgg133
  z67 := Tryd.sizeOf133
  v67 := Tryd.zeroValue133
  i67 := by kernel_rfl
  g0 := by kernel_rfl
  m0 := by kernel_rfl
  g1 := by kernel_rfl
  m1 := by kernel_rfl
  g2 := by kernel_rfl
  m2 := by kernel_rfl
  g3 := by kernel_rfl
  m3 := by kernel_rfl
  g4 := by kernel_rfl
  m4 := by kernel_rfl }
open Go.RowKit in
/-- strconv.ParseUint(s, 10, 64), AT EVERY STRING THAT SPELLS A uint64 ('Lib.parseUintB 64 s.data.toList = .ok u'): u, AND NO ERROR. (LAID: no walk: one application.) -/
theorem Tryd.strconv_ParseUint_10_at64_ok (s : ByteArray) (hmax : s.size ≤ 9223372036854775806) (u : Nat) (h : Lib.parseUintB 64 s.data.toList = .ok u) (w : World) :
    Calls Tryd.prog 26 #[.string s, .int .i64 10, .int .i64 64] w fun e w' => e = .returned (.tuple #[.int .u64 u, .nilIface]) ∧ (w' = w ∨ w' = Lib.bytesWorld w 5 s) := Any.strconv_ParseUint_10_at64_ok Tryd.laysPu14 s hmax u h w
open Go.RowKit in
/-- strconv.ParseUint(s, 10, 64), AT EVERY NUMERAL THAT NO uint64 HOLDS: THE GREATEST uint64, AND AN ERROR THAT IS NOT nil: a *NumError in a new block N: {Func: "ParseUint", Num: s's bytes, Err: what the variable ErrRange holds}. Of what was there nothing has turned. (LAID: no walk: one application.) -/
theorem Tryd.strconv_ParseUint_10_at64_range (s : ByteArray) (hlim : s.size ≤ 281474976710656) (h : Lib.parseUintB 64 s.data.toList = .range) (ev : Value) (w : World) (hv : w.cell? ⟨3, 0, none⟩ = some ev) (hev : ev = .nilIface ∨ ∃ te pe, ev = .iface te pe) :
    Calls Tryd.prog 26 #[.string s, .int .i64 10, .int .i64 64] w fun e w' => ∃ N, e = .returned (.tuple #[.int .u64 18446744073709551615, .iface 104 (.pointer (some ⟨N, 0, none⟩))]) ∧ w.heap.size ≤ N ∧ w'.heap[N]? = some (.cells #[.string ⟨#[80, 97, 114, 115, 101, 85, 105, 110, 116]⟩, .string s, ev] 109 (0, 0)) ∧ Below w.heap.size w w' := Any.strconv_ParseUint_10_at64_range Tryd.laysPu14 s hlim h ev w hv hev
def Tryd.lays144_ren : Go.Shelf.Ren := ⟨fun | 144 => 31 | 143 => 46 | 219 => 56 | 217 => 42 | 225 => 60 | 224 => 61 | 267 => 62 | 266 => 49 | 314 => 64 | n => n, fun | 9 => 9 | 4 => 4 | 3 => 3 | 5 => 5 | 46 => 34 | 146 => 118 | 51 => 117 | n => n, fun | 1 => 1 | n => n⟩
theorem Tryd.lays144 : Go.Proofs.Lays.n144 Tryd.prog Tryd.lays144_ren := {
  mixed := by kernel_rfl
  f143 := Tryd.func46.trans (congrArg some (by kernel_rfl))
  f144 := Tryd.func31.trans (congrArg some (by kernel_rfl))
  f217 := Tryd.func42.trans (congrArg some (by kernel_rfl))
  f219 := Tryd.func56.trans (congrArg some (by kernel_rfl))
  f224 := Tryd.func61.trans (congrArg some (by kernel_rfl))
  f225 := Tryd.func60.trans (congrArg some (by kernel_rfl))
  f266 := Tryd.func49.trans (congrArg some (by kernel_rfl))
  f267 := Tryd.func62.trans (congrArg some (by kernel_rfl))
  f314 := Tryd.func64.trans (congrArg some (by kernel_rfl))
  t3 := Tryd.underlying3
  a3 := Tryd.isAgg3
  z3 := Tryd.sizeOf3
  v3 := Tryd.zeroValue3
  t4 := Tryd.underlying4
  a4 := Tryd.isAgg4
  z4 := Tryd.sizeOf4
  v4 := Tryd.zeroValue4
  t5 := Tryd.underlying5
  a5 := Tryd.isAgg5
  z5 := Tryd.sizeOf5
  v5 := Tryd.zeroValue5
  t9 := Tryd.underlying9
  a9 := Tryd.isAgg9
  z9 := Tryd.sizeOf9
  v9 := Tryd.zeroValue9
  t46 := Tryd.underlying34
  a46 := Tryd.isAgg34
  z46 := Tryd.sizeOf34
  v46 := Tryd.zeroValue34
  t51 := Tryd.underlying117
  a51 := Tryd.isAgg117
  z51 := Tryd.sizeOf117
  v51 := Tryd.zeroValue117
  t146 := Tryd.underlying118
  a146 := Tryd.isAgg118
  z146 := Tryd.sizeOf118
  v146 := Tryd.zeroValue118
  g1 := by kernel_rfl }
open Go.RowKit Go.Lib in
/-- strings.Contains: "Contains reports whether substr is within s.": AT A substr OF ONE BYTE c: IT RETURNS 'decide (0 ≤ Lib.indexByte s c)'; the world is as it was. (LAID: no walk: one application.) -/
theorem Tryd.strings_Contains_one (s : ByteArray) (c : UInt8) (w : World) :
    Calls Tryd.prog 31 #[.string s, .string ⟨#[c]⟩] w fun e w' => e = .returned (.bool (decide (0 ≤ Lib.indexByte s.data.toList c))) ∧ w' = w := Any.strings_Contains_one Tryd.lays144 s c w
def Tryd.lays99_ren : Go.Shelf.Ren := ⟨fun | 99 => 30 | 206 => 45 | n => n, fun | 9 => 9 | 4 => 4 | 3 => 3 | n => n, fun | n => n⟩
theorem Tryd.lays99 : Go.Proofs.Lays.n99 Tryd.prog Tryd.lays99_ren := {
  mixed := by kernel_rfl
  f99 := Tryd.func30.trans (congrArg some (by kernel_rfl))
  f206 := Tryd.func45.trans (congrArg some (by kernel_rfl))
  t3 := Tryd.underlying3
  a3 := Tryd.isAgg3
  z3 := Tryd.sizeOf3
  v3 := Tryd.zeroValue3
  t4 := Tryd.underlying4
  a4 := Tryd.isAgg4
  z4 := Tryd.sizeOf4
  v4 := Tryd.zeroValue4
  t9 := Tryd.underlying9
  a9 := Tryd.isAgg9
  z9 := Tryd.sizeOf9
  v9 := Tryd.zeroValue9 }
open Go.RowKit Go.Lib in
/-- strings.HasPrefix: "HasPrefix reports whether the string s begins with prefix.": IT RETURNS 'Lib.hasPrefix s prefix'; the world is as it was. (LAID: no walk: one application.) -/
theorem Tryd.strings_HasPrefix (s p : ByteArray) (w : World) :
    Calls Tryd.prog 30 #[.string s, .string p] w fun e w' => e = .returned (.bool (Lib.hasPrefix s.data.toList p.data.toList)) ∧ w' = w := Any.strings_HasPrefix Tryd.lays99 s p w
end Go.Proofs.YtbiobefcagboeaaDoor
