/- The contracts of functions of the library, laid at the numbers of this program. No statement of the claim. -/
import Derived.Shelf.Strings.Builder1
import Derived.Shelf.Small.Wraps
import Derived.Shelf.Strings.BuilderF
import Derived.Shelf.Strings.BuilderK
import Derived.Shelf.Utf8.RuneCount
import Derived.Shelf.Strconv.Itoa0
import Derived.Shelf.Strconv.Itoa1
import Derived.Shelf.LaysM
import Derived.Shelf.Strconv.Itoa2
import Derived.Shelf.Strconv.Itoa3
import Derived.Ground.MpProg
import Derived.Shelf.Pu.ParseUintPublic10
import Derived.Shelf.Pu.ErrVarParseUint
import Derived.Shelf.Strings.Search1
import Derived.Shelf.Strings.Search2
import Derived.Shelf.Strings.Search3
import Derived.Shelf.Strings.Cut
import Derived.Shelf.Strings.Count
import Derived.Shelf.Strings.Shaped
import Derived.Shelf.Strings.Prefix
import Derived.Shelf.Strings.Split
import Derived.Shelf.Strings.Fields
import Derived.Shelf.Strings.SplitShaped
import Derived.Shelf.Unicode.Latin
import Derived.Shelf.Unicode.Decode
import Derived.Shelf.Strings.RuneCount
import Derived.Shelf.Strings.Explode
import Derived.Shelf.Unicode.DecodeSlow
import Derived.Shelf.Unicode.DecodeAny
import Derived.Shelf.Unicode.Is16White
import Derived.Shelf.Unicode.IsSpaceAny
import Derived.Shelf.Unicode.Is16Any
import Derived.Shelf.Unicode.Is32Any
import Derived.Shelf.Unicode.ExclAny
import Derived.Shelf.Strings.BuilderCap
import Derived.Test.YtjfgpnapccdnlaaGreatDoorProg
namespace Go.Proofs
open Go.Shelf
def Tryz.lays169_ren : Go.Shelf.Ren := ⟨fun | 169 => 18 | n => n, fun | 70 => 50 | 9 => 9 | 0 => 0 | 72 => 53 | 37 => 51 | 127 => 109 | 3 => 3 | 5 => 5 | n => n, fun | n => n⟩
theorem Tryz.lays169 : Go.Proofs.Lays.n169 Tryz.prog Tryz.lays169_ren := {
  mixed := by kernel_rfl
  f169 := Tryz.func18.trans (congrArg some (by kernel_rfl))
  t0 := Tryz.underlying0
  a0 := Tryz.isAgg0
  z0 := Tryz.sizeOf0
  v0 := Tryz.zeroValue0
  t3 := Tryz.underlying3
  a3 := Tryz.isAgg3
  z3 := Tryz.sizeOf3
  v3 := Tryz.zeroValue3
  t9 := Tryz.underlying9
  a9 := Tryz.isAgg9
  z9 := Tryz.sizeOf9
  v9 := Tryz.zeroValue9
  t37 := Tryz.underlying51
  a37 := Tryz.isAgg51
  z37 := Tryz.sizeOf51
  v37 := Tryz.zeroValue51
  t70 := Tryz.underlying50
  a70 := Tryz.isAgg50
  z70 := Tryz.sizeOf50
  v70 := Tryz.zeroValue50
  t72 := Tryz.underlying53
  a72 := Tryz.isAgg53
  z72 := Tryz.sizeOf53
  v72 := Tryz.zeroValue53
  t127 := Tryz.underlying109
  a127 := Tryz.isAgg109
  z127 := Tryz.sizeOf109
  v127 := Tryz.zeroValue109 }
theorem Tryz.Builder_Extra_169 : Builder.Extra Tryz.prog Tryz.lays169_ren := {
  sizeBuilder := by kernel_rfl
  liesBuilder := by kernel_rfl
  t5 := Tryz.underlying5
  a5 := Tryz.isAgg5
  z5 := Tryz.sizeOf5
  v5 := Tryz.zeroValue5
  infoByte := by kernel_rfl
  cellsByte := by kernel_rfl
  sizeByte := by kernel_rfl
  neB5 := by decide }
open Go.RowKit in
theorem Tryz.Builder_String_any (B b : Nat) (l : List UInt8) (w : World) (h : Lib.IsBuilder 53 5 B b (Lib.byteCells l) w) (hBw : B ≤ w.heap.size) :
    Calls Tryz.prog 18 #[.pointer (some ⟨b, 0, none⟩)] w fun e w' => e = .returned (.string ⟨l.toArray⟩) ∧ Below B w w' := Any.Builder_String_any Tryz.lays169 Tryz.Builder_Extra_169 B b l w h hBw
def Tryz.lays103_ren : Go.Shelf.Ren := ⟨fun | 103 => 126 | 210 => 193 | 206 => 238 | n => n, fun | 9 => 9 | 4 => 4 | 24 => 244 | 3 => 3 | n => n, fun | n => n⟩
theorem Tryz.lays103 : Go.Proofs.Lays.n103 Tryz.prog Tryz.lays103_ren := {
  mixed := by kernel_rfl
  f103 := Tryz.func126.trans (congrArg some (by kernel_rfl))
  f206 := Tryz.func238.trans (congrArg some (by kernel_rfl))
  f210 := Tryz.func193.trans (congrArg some (by kernel_rfl))
  t3 := Tryz.underlying3
  a3 := Tryz.isAgg3
  z3 := Tryz.sizeOf3
  v3 := Tryz.zeroValue3
  t4 := Tryz.underlying4
  a4 := Tryz.isAgg4
  z4 := Tryz.sizeOf4
  v4 := Tryz.zeroValue4
  t9 := Tryz.underlying9
  a9 := Tryz.isAgg9
  z9 := Tryz.sizeOf9
  v9 := Tryz.zeroValue9
  t24 := Tryz.underlying244
  a24 := Tryz.isAgg244
  z24 := Tryz.sizeOf244
  v24 := Tryz.zeroValue244 }
open Go.RowKit in
theorem Tryz.strings_CutPrefix (s p : ByteArray) (w : World) :
    Calls Tryz.prog 126 #[.string s, .string p] w fun e w' => e = .returned (.tuple #[.string ⟨(Lib.trimPrefix s.data.toList p.data.toList).toArray⟩, .bool (Lib.hasPrefix s.data.toList p.data.toList)]) ∧ w' = w := Any.strings_CutPrefix Tryz.lays103 s p w
def Tryz.laysPu14_ren : Go.Shelf.Ren := ⟨fun | 14 => 128 | 16 => 194 | 17 => 195 | 19 => 239 | 20 => 240 | 21 => 241 | 22 => 242 | 23 => 243 | 24 => 244 | 25 => 264 | 27 => 266 | 26 => 265 | 28 => 277 | 29 => 278 | 30 => 117 | 31 => 118 | 32 => 119 | 33 => 120 | 35 => 180 | 34 => 179 | 36 => 181 | 37 => 182 | 38 => 183 | 39 => 233 | 40 => 234 | n => n, fun | 9 => 9 | 3 => 3 | 22 => 28 | 24 => 32 | 25 => 115 | 4 => 4 | 34 => 357 | 5 => 5 | 36 => 300 | 37 => 51 | 0 => 0 | 39 => 359 | 21 => 21 | 44 => 384 | 47 => 109 | 50 => 393 | 48 => 391 | 2 => 2 | 52 => 232 | 55 => 234 | 59 => 302 | 60 => 241 | 20 => 20 | 61 => 303 | 65 => 377 | 66 => 378 | 67 => 57 | n => n, fun | 0 => 24 | 1 => 25 | 2 => 18 | 3 => 20 | 4 => 21 | n => n⟩
theorem Tryz.laysPu14 : Go.Proofs.LaysPu.n14 Tryz.prog Tryz.laysPu14_ren := {
  mixed := by kernel_rfl
  f14 := Tryz.func128.trans (congrArg some (by kernel_rfl))
  f16 := Tryz.func194.trans (congrArg some (by kernel_rfl))
  f17 := Tryz.func195.trans (congrArg some (by kernel_rfl))
  f19 := Tryz.func239.trans (congrArg some (by kernel_rfl))
  f20 := Tryz.func240.trans (congrArg some (by kernel_rfl))
  f21 := Tryz.func241.trans (congrArg some (by kernel_rfl))
  f22 := Tryz.func242.trans (congrArg some (by kernel_rfl))
  f23 := Tryz.func243.trans (congrArg some (by kernel_rfl))
  f24 := Tryz.func244.trans (congrArg some (by kernel_rfl))
  f25 := Tryz.func264.trans (congrArg some (by kernel_rfl))
  f26 := Tryz.func265.trans (congrArg some (by kernel_rfl))
  f27 := Tryz.func266.trans (congrArg some (by kernel_rfl))
  f28 := Tryz.func277.trans (congrArg some (by kernel_rfl))
  f29 := Tryz.func278.trans (congrArg some (by kernel_rfl))
  f30 := Tryz.func117.trans (congrArg some (by kernel_rfl))
  f31 := Tryz.func118.trans (congrArg some (by kernel_rfl))
  f32 := Tryz.func119.trans (congrArg some (by kernel_rfl))
  f33 := Tryz.func120.trans (congrArg some (by kernel_rfl))
  f34 := Tryz.func179.trans (congrArg some (by kernel_rfl))
  f35 := Tryz.func180.trans (congrArg some (by kernel_rfl))
  f36 := Tryz.func181.trans (congrArg some (by kernel_rfl))
  f37 := Tryz.func182.trans (congrArg some (by kernel_rfl))
  f38 := Tryz.func183.trans (congrArg some (by kernel_rfl))
  f39 := Tryz.func233.trans (congrArg some (by kernel_rfl))
  f40 := Tryz.func234.trans (congrArg some (by kernel_rfl))
  t0 := Tryz.underlying0
  a0 := Tryz.isAgg0
  z0 := Tryz.sizeOf0
  v0 := Tryz.zeroValue0
  i0 := by kernel_rfl
  t2 := Tryz.underlying2
  a2 := Tryz.isAgg2
  z2 := Tryz.sizeOf2
  v2 := Tryz.zeroValue2
  i2 := by kernel_rfl
  t3 := Tryz.underlying3
  a3 := Tryz.isAgg3
  z3 := Tryz.sizeOf3
  v3 := Tryz.zeroValue3
  i3 := by kernel_rfl
  t4 := Tryz.underlying4
  a4 := Tryz.isAgg4
  z4 := Tryz.sizeOf4
  v4 := Tryz.zeroValue4
  i4 := by kernel_rfl
  t5 := Tryz.underlying5
  a5 := Tryz.isAgg5
  z5 := Tryz.sizeOf5
  v5 := Tryz.zeroValue5
  i5 := by kernel_rfl
  t9 := Tryz.underlying9
  a9 := Tryz.isAgg9
  z9 := Tryz.sizeOf9
  v9 := Tryz.zeroValue9
  i9 := by kernel_rfl
  t20 := Tryz.underlying20
  a20 := Tryz.isAgg20
  z20 := Tryz.sizeOf20
  v20 := Tryz.zeroValue20
  i20 := by kernel_rfl
  t21 := Tryz.underlying21
  a21 := Tryz.isAgg21
  z21 := Tryz.sizeOf21
  v21 := Tryz.zeroValue21
  i21 := by kernel_rfl
  t22 := Tryz.underlying28
  a22 := Tryz.isAgg28
  z22 := Tryz.sizeOf28
  v22 := Tryz.zeroValue28
  i22 := by kernel_rfl
  t24 := Tryz.underlying32
  a24 := Tryz.isAgg32
  z24 := Tryz.sizeOf32
  v24 := Tryz.zeroValue32
  i24 := by kernel_rfl
  t25 := Tryz.underlying115
  a25 := Tryz.isAgg115
  z25 := Tryz.sizeOf115
  v25 := Tryz.zeroValue115
  i25 := by kernel_rfl
  t34 := Tryz.underlying357
  a34 := Tryz.isAgg357
  z34 := Tryz.sizeOf357
  v34 := Tryz.zeroValue357
  i34 := by kernel_rfl
  c34 := by kernel_rfl
  t36 := Tryz.underlying300
  a36 := Tryz.isAgg300
  z36 := Tryz.sizeOf300
  v36 := Tryz.zeroValue300
  i36 := by kernel_rfl
  t37 := Tryz.underlying51
  a37 := Tryz.isAgg51
  z37 := Tryz.sizeOf51
  v37 := Tryz.zeroValue51
  i37 := by kernel_rfl
  t39 := Tryz.underlying359
  a39 := Tryz.isAgg359
  z39 := Tryz.sizeOf359
  v39 := Tryz.zeroValue359
  i39 := by kernel_rfl
  t44 := Tryz.underlying384
  a44 := Tryz.isAgg384
  z44 := Tryz.sizeOf384
  v44 := Tryz.zeroValue384
  i44 := by kernel_rfl
  t47 := Tryz.underlying109
  a47 := Tryz.isAgg109
  z47 := Tryz.sizeOf109
  v47 := Tryz.zeroValue109
  i47 := by kernel_rfl
  t48 := Tryz.underlying391
  a48 := Tryz.isAgg391
  z48 := Tryz.sizeOf391
  v48 := Tryz.zeroValue391
  i48 := by kernel_rfl
  t50 := Tryz.underlying393
  a50 := Tryz.isAgg393
  z50 := Tryz.sizeOf393
  v50 := Tryz.zeroValue393
  i50 := by kernel_rfl
  t52 := Tryz.underlying232
  a52 := Tryz.isAgg232
  z52 := Tryz.sizeOf232
  v52 := Tryz.zeroValue232
  i52 := by kernel_rfl
  t55 := Tryz.underlying234
  a55 := Tryz.isAgg234
  z55 := Tryz.sizeOf234
  v55 := Tryz.zeroValue234
  i55 := by kernel_rfl
  t59 := Tryz.underlying302
  a59 := Tryz.isAgg302
  z59 := Tryz.sizeOf302
  v59 := Tryz.zeroValue302
  i59 := by kernel_rfl
  t60 := Tryz.underlying241
  a60 := Tryz.isAgg241
  z60 := Tryz.sizeOf241
  v60 := Tryz.zeroValue241
  i60 := by kernel_rfl
  t61 := Tryz.underlying303
  a61 := Tryz.isAgg303
  z61 := Tryz.sizeOf303
  t65 := Tryz.underlying377
  a65 := Tryz.isAgg377
  z65 := Tryz.sizeOf377
  v65 := Tryz.zeroValue377
  i65 := by kernel_rfl
  t66 := Tryz.underlying378
  a66 := Tryz.isAgg378
  z66 := Tryz.sizeOf378
  v66 := Tryz.zeroValue378
  i66 := by kernel_rfl
  t67 := Tryz.underlying57
  a67 := Tryz.isAgg57
  z67 := Tryz.sizeOf57
  v67 := Tryz.zeroValue57
  i67 := by kernel_rfl
  g0 := by kernel_rfl
  m0 := by kernel_rfl
  g1 := by kernel_rfl
  m1 := by kernel_rfl
  g2 := by kernel_rfl
  m2 := by kernel_rfl
  g3 := by kernel_rfl
  m3 := by kernel_rfl
  g4 := by kernel_rfl
  m4 := by kernel_rfl }
open Go.RowKit in
theorem Tryz.strconv_ParseUint_10_at64_ok (s : ByteArray) (hmax : s.size ≤ 9223372036854775806) (u : Nat) (h : Lib.parseUintB 64 s.data.toList = .ok u) (w : World) :
    Calls Tryz.prog 128 #[.string s, .int .i64 10, .int .i64 64] w fun e w' => e = .returned (.tuple #[.int .u64 u, .nilIface]) ∧ (w' = w ∨ w' = Lib.bytesWorld w 5 s) := Any.strconv_ParseUint_10_at64_ok Tryz.laysPu14 s hmax u h w
open Go.RowKit in
theorem Tryz.strconv_ParseUint_10_at64_syntax (s : ByteArray) (hlim : s.size ≤ 281474976710656) (h : Lib.parseUintB 64 s.data.toList = Lib.NumEnd.syntax) (ev : Value) (w : World) (hv : w.cell? ⟨24, 0, none⟩ = some ev) (hev : ev = .nilIface ∨ ∃ te pe, ev = .iface te pe) :
    Calls Tryz.prog 128 #[.string s, .int .i64 10, .int .i64 64] w fun e w' => ∃ N, e = .returned (.tuple #[.int .u64 0, .iface 359 (.pointer (some ⟨N, 0, none⟩))]) ∧ w.heap.size ≤ N ∧ w'.heap[N]? = some (.cells #[.string ⟨#[80, 97, 114, 115, 101, 85, 105, 110, 116]⟩, .string s, ev] 384 (0, 0)) ∧ Below w.heap.size w w' := Any.strconv_ParseUint_10_at64_syntax Tryz.laysPu14 s hlim h ev w hv hev
open Go.RowKit in
theorem Tryz.strconv_ParseUint_10_at64_range (s : ByteArray) (hlim : s.size ≤ 281474976710656) (h : Lib.parseUintB 64 s.data.toList = .range) (ev : Value) (w : World) (hv : w.cell? ⟨25, 0, none⟩ = some ev) (hev : ev = .nilIface ∨ ∃ te pe, ev = .iface te pe) :
    Calls Tryz.prog 128 #[.string s, .int .i64 10, .int .i64 64] w fun e w' => ∃ N, e = .returned (.tuple #[.int .u64 18446744073709551615, .iface 359 (.pointer (some ⟨N, 0, none⟩))]) ∧ w.heap.size ≤ N ∧ w'.heap[N]? = some (.cells #[.string ⟨#[80, 97, 114, 115, 101, 85, 105, 110, 116]⟩, .string s, ev] 384 (0, 0)) ∧ Below w.heap.size w w' := Any.strconv_ParseUint_10_at64_range Tryz.laysPu14 s hlim h ev w hv hev
def Tryz.lays145_ren : Go.Shelf.Ren := ⟨fun | 145 => 45 | 220 => 80 | 219 => 124 | 217 => 187 | 225 => 188 | 224 => 189 | 267 => 190 | 266 => 236 | 314 => 237 | n => n, fun | 9 => 9 | 4 => 4 | 59 => 111 | 3 => 3 | 5 => 5 | 46 => 300 | 146 => 352 | 51 => 241 | n => n, fun | 1 => 19 | n => n⟩
theorem Tryz.lays145 : Go.Proofs.Lays.n145 Tryz.prog Tryz.lays145_ren := {
  mixed := by kernel_rfl
  f145 := Tryz.func45.trans (congrArg some (by kernel_rfl))
  f217 := Tryz.func187.trans (congrArg some (by kernel_rfl))
  f219 := Tryz.func124.trans (congrArg some (by kernel_rfl))
  f220 := Tryz.func80.trans (congrArg some (by kernel_rfl))
  f224 := Tryz.func189.trans (congrArg some (by kernel_rfl))
  f225 := Tryz.func188.trans (congrArg some (by kernel_rfl))
  f266 := Tryz.func236.trans (congrArg some (by kernel_rfl))
  f267 := Tryz.func190.trans (congrArg some (by kernel_rfl))
  f314 := Tryz.func237.trans (congrArg some (by kernel_rfl))
  t3 := Tryz.underlying3
  a3 := Tryz.isAgg3
  z3 := Tryz.sizeOf3
  v3 := Tryz.zeroValue3
  t4 := Tryz.underlying4
  a4 := Tryz.isAgg4
  z4 := Tryz.sizeOf4
  v4 := Tryz.zeroValue4
  t5 := Tryz.underlying5
  a5 := Tryz.isAgg5
  z5 := Tryz.sizeOf5
  v5 := Tryz.zeroValue5
  t9 := Tryz.underlying9
  a9 := Tryz.isAgg9
  z9 := Tryz.sizeOf9
  v9 := Tryz.zeroValue9
  t46 := Tryz.underlying300
  a46 := Tryz.isAgg300
  z46 := Tryz.sizeOf300
  v46 := Tryz.zeroValue300
  t51 := Tryz.underlying241
  a51 := Tryz.isAgg241
  z51 := Tryz.sizeOf241
  v51 := Tryz.zeroValue241
  t59 := Tryz.underlying111
  a59 := Tryz.isAgg111
  z59 := Tryz.sizeOf111
  v59 := Tryz.zeroValue111
  t146 := Tryz.underlying352
  a146 := Tryz.isAgg352
  z146 := Tryz.sizeOf352
  v146 := Tryz.zeroValue352
  g1 := by kernel_rfl }
open Go.RowKit Go.Lib in
theorem Tryz.strings_Cut (s sep : ByteArray) (m : Int) (w : World) (hs : s.size < 4294967281) (hm : w.cell? ⟨19, 0, none⟩ = some (.int .i64 m)) :
    Calls Tryz.prog 45 #[.string s, .string sep] w fun e w' => e = .returned (.tuple #[.string ⟨(Lib.cut s.data.toList sep.data.toList).1.toArray⟩, .string ⟨(Lib.cut s.data.toList sep.data.toList).2.1.toArray⟩, .bool (Lib.cut s.data.toList sep.data.toList).2.2]) ∧ ∃ n, w' = w.drewN n := Any.strings_Cut Tryz.lays145 s sep m w hs hm
def Tryz.lays146_ren : Go.Shelf.Ren := ⟨fun | 146 => 44 | 221 => 79 | 268 => 121 | 138 => 122 | 143 => 123 | 195 => 184 | 197 => 185 | 218 => 186 | 219 => 124 | 260 => 235 | 217 => 187 | 225 => 188 | 224 => 189 | 267 => 190 | 266 => 236 | 314 => 237 | n => n, fun | 9 => 9 | 31 => 61 | 3 => 3 | 4 => 4 | 0 => 0 | 105 => 306 | 21 => 21 | 5 => 5 | 46 => 300 | 119 => 168 | 139 => 381 | 138 => 380 | 146 => 352 | 51 => 241 | n => n, fun | 1 => 19 | 3 => 22 | 4 => 23 | n => n⟩
theorem Tryz.lays146 : Go.Proofs.Lays.n146 Tryz.prog Tryz.lays146_ren := {
  mixed := by kernel_rfl
  f138 := Tryz.func122.trans (congrArg some (by kernel_rfl))
  f143 := Tryz.func123.trans (congrArg some (by kernel_rfl))
  f146 := Tryz.func44.trans (congrArg some (by kernel_rfl))
  f195 := Tryz.func184.trans (congrArg some (by kernel_rfl))
  f197 := Tryz.func185.trans (congrArg some (by kernel_rfl))
  f217 := Tryz.func187.trans (congrArg some (by kernel_rfl))
  f218 := Tryz.func186.trans (congrArg some (by kernel_rfl))
  f219 := Tryz.func124.trans (congrArg some (by kernel_rfl))
  f221 := Tryz.func79.trans (congrArg some (by kernel_rfl))
  f224 := Tryz.func189.trans (congrArg some (by kernel_rfl))
  f225 := Tryz.func188.trans (congrArg some (by kernel_rfl))
  f260 := Tryz.func235.trans (congrArg some (by kernel_rfl))
  f266 := Tryz.func236.trans (congrArg some (by kernel_rfl))
  f267 := Tryz.func190.trans (congrArg some (by kernel_rfl))
  f268 := Tryz.func121.trans (congrArg some (by kernel_rfl))
  f314 := Tryz.func237.trans (congrArg some (by kernel_rfl))
  t0 := Tryz.underlying0
  a0 := Tryz.isAgg0
  z0 := Tryz.sizeOf0
  v0 := Tryz.zeroValue0
  t3 := Tryz.underlying3
  a3 := Tryz.isAgg3
  z3 := Tryz.sizeOf3
  v3 := Tryz.zeroValue3
  t4 := Tryz.underlying4
  a4 := Tryz.isAgg4
  z4 := Tryz.sizeOf4
  v4 := Tryz.zeroValue4
  t5 := Tryz.underlying5
  a5 := Tryz.isAgg5
  z5 := Tryz.sizeOf5
  v5 := Tryz.zeroValue5
  t9 := Tryz.underlying9
  a9 := Tryz.isAgg9
  z9 := Tryz.sizeOf9
  v9 := Tryz.zeroValue9
  t21 := Tryz.underlying21
  a21 := Tryz.isAgg21
  z21 := Tryz.sizeOf21
  v21 := Tryz.zeroValue21
  t31 := Tryz.underlying61
  a31 := Tryz.isAgg61
  z31 := Tryz.sizeOf61
  v31 := Tryz.zeroValue61
  t46 := Tryz.underlying300
  a46 := Tryz.isAgg300
  z46 := Tryz.sizeOf300
  v46 := Tryz.zeroValue300
  t51 := Tryz.underlying241
  a51 := Tryz.isAgg241
  z51 := Tryz.sizeOf241
  v51 := Tryz.zeroValue241
  t105 := Tryz.underlying306
  a105 := Tryz.isAgg306
  z105 := Tryz.sizeOf306
  v105 := Tryz.zeroValue306
  t119 := Tryz.underlying168
  a119 := Tryz.isAgg168
  z119 := Tryz.sizeOf168
  t138 := Tryz.underlying380
  a138 := Tryz.isAgg380
  z138 := Tryz.sizeOf380
  v138 := Tryz.zeroValue380
  t139 := Tryz.underlying381
  a139 := Tryz.isAgg381
  z139 := Tryz.sizeOf381
  v139 := Tryz.zeroValue381
  t146 := Tryz.underlying352
  a146 := Tryz.isAgg352
  z146 := Tryz.sizeOf352
  v146 := Tryz.zeroValue352
  g1 := by kernel_rfl
  g3 := by kernel_rfl
  g4 := by kernel_rfl }
open Go.RowKit Go.Lib in
theorem Tryz.strings_Split (s sep : ByteArray) (m : Int) (w : World) (hs : s.size < 4294967281) (hm : w.cell? ⟨19, 0, none⟩ = some (.int .i64 m)) (h1 : 1 ≤ sep.size) :
    Calls Tryz.prog 44 #[.string s, .string sep] w fun e w' =>
      e = .returned (.slice (some ⟨w.heap.size, 0, none⟩) (Lib.countB s sep + 1) (Lib.countB s sep + 1)) ∧ w' = w.alloc (.cells ((Lib.splitB sep 0 (Lib.countB s sep) s).map Value.string).toArray 9) := Any.strings_Split Tryz.lays146 (by kernel_rfl) s sep m w hs hm h1
def Tryz.lays157_ren : Go.Shelf.Ren := ⟨fun | 157 => 47 | 229 => 81 | 199 => 82 | 261 => 125 | 311 => 191 | 312 => 192 | n => n, fun | 9 => 9 | 31 => 61 | 3 => 3 | 5 => 5 | 4 => 4 | 119 => 168 | 0 => 0 | 40 => 170 | 152 => 238 | 21 => 21 | 154 => 240 | 51 => 241 | 141 => 243 | 196 => 312 | 193 => 309 | 198 => 315 | 49 => 313 | 194 => 310 | 201 => 318 | 226 => 354 | 46 => 300 | 227 => 355 | n => n, fun | 0 => 16 | 6 => 17 | n => n⟩
theorem Tryz.lays157 : Go.Proofs.Lays.n157 Tryz.prog Tryz.lays157_ren := {
  mixed := by kernel_rfl
  f157 := Tryz.func47.trans (congrArg some (by kernel_rfl))
  f199 := Tryz.func82.trans (congrArg some (by kernel_rfl))
  f229 := Tryz.func81.trans (congrArg some (by kernel_rfl))
  f261 := Tryz.func125.trans (congrArg some (by kernel_rfl))
  f311 := Tryz.func191.trans (congrArg some (by kernel_rfl))
  f312 := Tryz.func192.trans (congrArg some (by kernel_rfl))
  t0 := Tryz.underlying0
  a0 := Tryz.isAgg0
  z0 := Tryz.sizeOf0
  v0 := Tryz.zeroValue0
  t3 := Tryz.underlying3
  a3 := Tryz.isAgg3
  z3 := Tryz.sizeOf3
  v3 := Tryz.zeroValue3
  t4 := Tryz.underlying4
  a4 := Tryz.isAgg4
  z4 := Tryz.sizeOf4
  v4 := Tryz.zeroValue4
  t5 := Tryz.underlying5
  a5 := Tryz.isAgg5
  z5 := Tryz.sizeOf5
  v5 := Tryz.zeroValue5
  t9 := Tryz.underlying9
  a9 := Tryz.isAgg9
  z9 := Tryz.sizeOf9
  v9 := Tryz.zeroValue9
  t21 := Tryz.underlying21
  a21 := Tryz.isAgg21
  z21 := Tryz.sizeOf21
  v21 := Tryz.zeroValue21
  t31 := Tryz.underlying61
  a31 := Tryz.isAgg61
  z31 := Tryz.sizeOf61
  v31 := Tryz.zeroValue61
  t40 := Tryz.underlying170
  a40 := Tryz.isAgg170
  z40 := Tryz.sizeOf170
  v40 := Tryz.zeroValue170
  t46 := Tryz.underlying300
  a46 := Tryz.isAgg300
  z46 := Tryz.sizeOf300
  v46 := Tryz.zeroValue300
  t49 := Tryz.underlying313
  a49 := Tryz.isAgg313
  z49 := Tryz.sizeOf313
  v49 := Tryz.zeroValue313
  t51 := Tryz.underlying241
  a51 := Tryz.isAgg241
  z51 := Tryz.sizeOf241
  v51 := Tryz.zeroValue241
  t119 := Tryz.underlying168
  a119 := Tryz.isAgg168
  z119 := Tryz.sizeOf168
  t141 := Tryz.underlying243
  a141 := Tryz.isAgg243
  z141 := Tryz.sizeOf243
  v141 := Tryz.zeroValue243
  t152 := Tryz.underlying238
  a152 := Tryz.isAgg238
  z152 := Tryz.sizeOf238
  v152 := Tryz.zeroValue238
  t154 := Tryz.underlying240
  a154 := Tryz.isAgg240
  z154 := Tryz.sizeOf240
  v154 := Tryz.zeroValue240
  t193 := Tryz.underlying309
  a193 := Tryz.isAgg309
  z193 := Tryz.sizeOf309
  v193 := Tryz.zeroValue309
  t194 := Tryz.underlying310
  a194 := Tryz.isAgg310
  z194 := Tryz.sizeOf310
  v194 := Tryz.zeroValue310
  t196 := Tryz.underlying312
  a196 := Tryz.isAgg312
  z196 := Tryz.sizeOf312
  v196 := Tryz.zeroValue312
  t198 := Tryz.underlying315
  a198 := Tryz.isAgg315
  z198 := Tryz.sizeOf315
  v198 := Tryz.zeroValue315
  t201 := Tryz.underlying318
  a201 := Tryz.isAgg318
  z201 := Tryz.sizeOf318
  v201 := Tryz.zeroValue318
  t226 := Tryz.underlying354
  a226 := Tryz.isAgg354
  z226 := Tryz.sizeOf354
  v226 := Tryz.zeroValue354
  t227 := Tryz.underlying355
  a227 := Tryz.isAgg355
  z227 := Tryz.sizeOf355
  v227 := Tryz.zeroValue355
  g0 := by kernel_rfl
  g6 := by kernel_rfl }
open Go.RowKit Go.Lib in
theorem Tryz.strings_Fields (s : ByteArray) (w : World) (hs : s.size < 4294967281) (hascii : ∀ (j : Nat) b, s.data.toList[j]? = some b → b.toNat < 128) (htab : Lib.TabIs Tryz.prog w "strings.asciiSpace" .u8 Lib.asciiSpaceTab) :
    Calls Tryz.prog 47 #[.string s] w fun e w' =>
      e = .returned (.slice (some ⟨w.heap.size, 0, none⟩) (Lib.fields s.data.toList).length (Lib.fields s.data.toList).length) ∧ w' = w.alloc (.cells ((Lib.fields s.data.toList).map fun l => Value.string ⟨l.toArray⟩).toArray 9) := Any.strings_Fields Tryz.lays157 (by kernel_rfl) (by kernel_rfl) s w hs hascii htab
def Tryz.laysM146_ren : Go.Shelf.Ren := ⟨fun | 146 => 44 | 221 => 79 | 268 => 121 | 138 => 122 | 143 => 123 | 195 => 184 | 197 => 185 | 218 => 186 | 219 => 124 | 260 => 235 | 217 => 187 | 225 => 188 | 224 => 189 | 267 => 190 | 266 => 236 | 314 => 237 | n => n, fun | 9 => 9 | 31 => 61 | 3 => 3 | 4 => 4 | 0 => 0 | 105 => 306 | 21 => 21 | 5 => 5 | 46 => 300 | 119 => 168 | 139 => 381 | 138 => 380 | 146 => 352 | 51 => 241 | n => n, fun | 1 => 19 | 3 => 22 | 4 => 23 | n => n⟩
theorem Tryz.laysM146 : Go.Proofs.LaysM.n146 Tryz.prog Tryz.laysM146_ren := {
  mixed := by kernel_rfl
  f138 := Tryz.func122.trans (congrArg some (by kernel_rfl))
  f143 := Tryz.func123.trans (congrArg some (by kernel_rfl))
  f146 := Tryz.func44.trans (congrArg some (by kernel_rfl))
  f195 := Tryz.func184.trans (congrArg some (by kernel_rfl))
  f197 := Tryz.func185.trans (congrArg some (by kernel_rfl))
  f217 := Tryz.func187.trans (congrArg some (by kernel_rfl))
  f218 := Tryz.func186.trans (congrArg some (by kernel_rfl))
  f219 := Tryz.func124.trans (congrArg some (by kernel_rfl))
  f221 := Tryz.func79.trans (congrArg some (by kernel_rfl))
  f224 := Tryz.func189.trans (congrArg some (by kernel_rfl))
  f225 := Tryz.func188.trans (congrArg some (by kernel_rfl))
  f260 := Tryz.func235.trans (congrArg some (by kernel_rfl))
  f266 := Tryz.func236.trans (congrArg some (by kernel_rfl))
  f267 := Tryz.func190.trans (congrArg some (by kernel_rfl))
  f268 := Tryz.func121.trans (congrArg some (by kernel_rfl))
  f314 := Tryz.func237.trans (congrArg some (by kernel_rfl))
  t0 := Tryz.underlying0
  a0 := Tryz.isAgg0
  z0 := Tryz.sizeOf0
  v0 := Tryz.zeroValue0
  t3 := Tryz.underlying3
  a3 := Tryz.isAgg3
  z3 := Tryz.sizeOf3
  v3 := Tryz.zeroValue3
  t4 := Tryz.underlying4
  a4 := Tryz.isAgg4
  z4 := Tryz.sizeOf4
  v4 := Tryz.zeroValue4
  t5 := Tryz.underlying5
  a5 := Tryz.isAgg5
  z5 := Tryz.sizeOf5
  v5 := Tryz.zeroValue5
  t9 := Tryz.underlying9
  a9 := Tryz.isAgg9
  z9 := Tryz.sizeOf9
  v9 := Tryz.zeroValue9
  t21 := Tryz.underlying21
  a21 := Tryz.isAgg21
  z21 := Tryz.sizeOf21
  v21 := Tryz.zeroValue21
  t31 := Tryz.underlying61
  a31 := Tryz.isAgg61
  z31 := Tryz.sizeOf61
  v31 := Tryz.zeroValue61
  t46 := Tryz.underlying300
  a46 := Tryz.isAgg300
  z46 := Tryz.sizeOf300
  v46 := Tryz.zeroValue300
  t51 := Tryz.underlying241
  a51 := Tryz.isAgg241
  z51 := Tryz.sizeOf241
  v51 := Tryz.zeroValue241
  t105 := Tryz.underlying306
  a105 := Tryz.isAgg306
  z105 := Tryz.sizeOf306
  v105 := Tryz.zeroValue306
  t119 := Tryz.underlying168
  a119 := Tryz.isAgg168
  z119 := Tryz.sizeOf168
  t138 := Tryz.underlying380
  a138 := Tryz.isAgg380
  z138 := Tryz.sizeOf380
  v138 := Tryz.zeroValue380
  t139 := Tryz.underlying381
  a139 := Tryz.isAgg381
  z139 := Tryz.sizeOf381
  v139 := Tryz.zeroValue381
  t146 := Tryz.underlying352
  a146 := Tryz.isAgg352
  z146 := Tryz.sizeOf352
  v146 := Tryz.zeroValue352
  g1 := by kernel_rfl
  g3 := by kernel_rfl
  g4 := by kernel_rfl
  i0 := by kernel_rfl
  i3 := by kernel_rfl
  i4 := by kernel_rfl
  i5 := by kernel_rfl
  i9 := by kernel_rfl
  i21 := by kernel_rfl
  i31 := by kernel_rfl
  i46 := by kernel_rfl
  i51 := by kernel_rfl
  i105 := by kernel_rfl
  i138 := by kernel_rfl
  i139 := by kernel_rfl
  i146 := by kernel_rfl
  m1 := by kernel_rfl
  s1_3 := fun w h => Go.Proofs.cell_of_shapedOpen_int (zero := #[.int .i64 0]) (t := 3) h (of_decide_eq_true (by kernel_rfl)) (by kernel_rfl) rfl (by kernel_rfl) (by kernel_rfl) Tryz.underlying3
  m3 := by kernel_rfl
  m4 := by kernel_rfl }
end Go.Proofs
