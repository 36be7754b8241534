/- The contracts of Go's library that these proofs use, laid at this program by the kit's own tool; the others are left out. -/
import Derived.Shelf.Strings.Builder1
import Derived.Shelf.Small.Strs
import Derived.Shelf.Strings.BuilderF
import Derived.Shelf.Strings.BuilderK
import Derived.Shelf.Strconv.Atoi
import Derived.Shelf.Strconv.Itoa0
import Derived.Shelf.Strconv.Itoa1
import Derived.Shelf.LaysM
import Derived.Shelf.Strconv.Itoa2
import Derived.Shelf.Strconv.Itoa3
import Derived.Shelf.Strconv.AtoiErrFast
import Derived.Shelf.Strconv.ParseIntEmpty
import Derived.Shelf.Strconv.AtoiFail
import Derived.Shelf.Strconv.Clone
import Derived.Shelf.Strconv.SyntaxError
import Derived.Shelf.LaysC
import Derived.Shelf.Strconv.ToError
import Derived.Shelf.Strconv.Lower
import Derived.Shelf.Strconv.ParseUint10
import Derived.Shelf.Strconv.ParseUint10Empty
import Derived.Shelf.Strconv.ParseUint10Any
import Derived.Shelf.Strconv.ParseInt10
import Derived.Shelf.Strconv.AtoiLong
import Derived.Shelf.Strconv.AtoiInnerAll
import Derived.Shelf.Strconv.RangeError
import Derived.Shelf.Strconv.ToErrorRange
import Derived.Shelf.Strconv.AtoiAll
import Derived.Shelf.Strconv.ErrVarAll
import Derived.Shelf.Strings.Search1
import Derived.Shelf.Strings.Prefix
import Derived.Shelf.Strings.BuilderCap
import Derived.Shelf.Slices.Turned
import Derived.Ground.Names2Prog
import Derived.Shelf.Slices.Clone
import Derived.Shelf.Bytes.SlIndexSmall
import Derived.Shelf.Bytes.SlIndexAt
import Derived.Shelf.Bytes.SlSearch0
import Derived.Shelf.Bytes.SlSearch1
import Derived.Shelf.Bytes.SlSearch2
import Derived.Shelf.Bytes.SlIndexWhole
import Derived.Ground.SlbCloneProg
import Derived.Shelf.Bytes.SlClone
import Derived.Ground.SlgnProg
import Derived.Shelf.SlicesE.Clone
import Derived.Ground.SlbtProg
import Derived.Shelf.Bytes.SlCut
import Derived.Shelf.Bytes.Small
import Derived.Shelf.Bytes.IndexByte
import Derived.Test.YtimldpbddkhedaaDoorProg
namespace Go.Proofs
open Go.Shelf
def Tryd.lays137_ren : Go.Shelf.Ren := ⟨fun | 137 => 51 | 217 => 61 | 266 => 70 | n => n, fun | 9 => 9 | 5 => 5 | 3 => 3 | n => n, fun | n => n⟩
theorem Tryd.lays137 : Go.Proofs.Lays.n137 Tryd.prog Tryd.lays137_ren := {
  mixed := by kernel_rfl
  f137 := Tryd.func51.trans (congrArg some (by kernel_rfl))
  f217 := Tryd.func61.trans (congrArg some (by kernel_rfl))
  f266 := Tryd.func70.trans (congrArg some (by kernel_rfl))
  t3 := Tryd.underlying3
  a3 := Tryd.isAgg3
  z3 := Tryd.sizeOf3
  v3 := Tryd.zeroValue3
  t5 := Tryd.underlying5
  a5 := Tryd.isAgg5
  z5 := Tryd.sizeOf5
  v5 := Tryd.zeroValue5
  t9 := Tryd.underlying9
  a9 := Tryd.isAgg9
  z9 := Tryd.sizeOf9
  v9 := Tryd.zeroValue9 }
open Go.RowKit in
theorem Tryd.strings_IndexByte (s : ByteArray) (c : Int) (w : World) :
    Calls Tryd.prog 51 #[.string s, .int .u8 c] w fun e w' => e = .returned (.int .i64 (Lib.indexByte s.data.toList c.toNat.toUInt8)) ∧ w' = w := Any.strings_IndexByte Tryd.lays137 s c w
def Tryd.laysC172_ren : Go.Shelf.Ren := ⟨fun | 172 => 57 | 244 => 67 | 245 => 68 | 247 => 72 | 279 => 73 | 280 => 74 | 281 => 75 | 282 => 76 | 287 => 77 | 316 => 78 | 171 => 80 | 205 => 79 | 321 => 81 | 322 => 82 | 243 => 83 | 246 => 84 | 283 => 85 | 284 => 86 | 285 => 87 | 286 => 88 | 129 => 90 | 317 => 89 | 318 => 91 | 319 => 92 | 320 => 93 | 337 => 94 | 338 => 95 | n => n, fun | 9 => 9 | 3 => 3 | 75 => 81 | 76 => 82 | 4 => 4 | 5 => 5 | 167 => 106 | 37 => 25 | 0 => 0 | 85 => 107 | 2 => 2 | 168 => 109 | 53 => 71 | 175 => 112 | 46 => 100 | 210 => 116 | 127 => 92 | 145 => 122 | 143 => 120 | 21 => 21 | 171 => 124 | 173 => 127 | 212 => 130 | 51 => 103 | 20 => 20 | 213 => 131 | 232 => 134 | 233 => 135 | 80 => 84 | n => n, fun | 15 => 1 | 16 => 2 | 17 => 3 | 18 => 4 | 19 => 5 | n => n⟩
theorem Tryd.laysC172 : Go.Proofs.LaysC.n172 Tryd.prog Tryd.laysC172_ren := {
  mixed := by kernel_rfl
  f129 := Tryd.func90.trans (congrArg some (by kernel_rfl))
  f171 := Tryd.func80.trans (congrArg some (by kernel_rfl))
  f172 := Tryd.func57.trans (congrArg some (by kernel_rfl))
  f205 := Tryd.func79.trans (congrArg some (by kernel_rfl))
  f243 := Tryd.func83.trans (congrArg some (by kernel_rfl))
  f244 := Tryd.func67.trans (congrArg some (by kernel_rfl))
  f245 := Tryd.func68.trans (congrArg some (by kernel_rfl))
  f246 := Tryd.func84.trans (congrArg some (by kernel_rfl))
  f247 := Tryd.func72.trans (congrArg some (by kernel_rfl))
  f279 := Tryd.func73.trans (congrArg some (by kernel_rfl))
  f280 := Tryd.func74.trans (congrArg some (by kernel_rfl))
  f281 := Tryd.func75.trans (congrArg some (by kernel_rfl))
  f282 := Tryd.func76.trans (congrArg some (by kernel_rfl))
  f283 := Tryd.func85.trans (congrArg some (by kernel_rfl))
  f284 := Tryd.func86.trans (congrArg some (by kernel_rfl))
  f285 := Tryd.func87.trans (congrArg some (by kernel_rfl))
  f286 := Tryd.func88.trans (congrArg some (by kernel_rfl))
  f287 := Tryd.func77.trans (congrArg some (by kernel_rfl))
  f316 := Tryd.func78.trans (congrArg some (by kernel_rfl))
  f317 := Tryd.func89.trans (congrArg some (by kernel_rfl))
  f318 := Tryd.func91.trans (congrArg some (by kernel_rfl))
  f319 := Tryd.func92.trans (congrArg some (by kernel_rfl))
  f320 := Tryd.func93.trans (congrArg some (by kernel_rfl))
  f321 := Tryd.func81.trans (congrArg some (by kernel_rfl))
  f322 := Tryd.func82.trans (congrArg some (by kernel_rfl))
  f337 := Tryd.func94.trans (congrArg some (by kernel_rfl))
  f338 := Tryd.func95.trans (congrArg some (by kernel_rfl))
  t0 := Tryd.underlying0
  a0 := Tryd.isAgg0
  z0 := Tryd.sizeOf0
  v0 := Tryd.zeroValue0
  t2 := Tryd.underlying2
  a2 := Tryd.isAgg2
  z2 := Tryd.sizeOf2
  v2 := Tryd.zeroValue2
  t3 := Tryd.underlying3
  a3 := Tryd.isAgg3
  z3 := Tryd.sizeOf3
  v3 := Tryd.zeroValue3
  t4 := Tryd.underlying4
  a4 := Tryd.isAgg4
  z4 := Tryd.sizeOf4
  v4 := Tryd.zeroValue4
  t5 := Tryd.underlying5
  a5 := Tryd.isAgg5
  z5 := Tryd.sizeOf5
  v5 := Tryd.zeroValue5
  t9 := Tryd.underlying9
  a9 := Tryd.isAgg9
  z9 := Tryd.sizeOf9
  v9 := Tryd.zeroValue9
  t20 := Tryd.underlying20
  a20 := Tryd.isAgg20
  z20 := Tryd.sizeOf20
  v20 := Tryd.zeroValue20
  t21 := Tryd.underlying21
  a21 := Tryd.isAgg21
  z21 := Tryd.sizeOf21
  v21 := Tryd.zeroValue21
  t37 := Tryd.underlying25
  a37 := Tryd.isAgg25
  z37 := Tryd.sizeOf25
  v37 := Tryd.zeroValue25
  t46 := Tryd.underlying100
  a46 := Tryd.isAgg100
  z46 := Tryd.sizeOf100
  v46 := Tryd.zeroValue100
  t51 := Tryd.underlying103
  a51 := Tryd.isAgg103
  z51 := Tryd.sizeOf103
  v51 := Tryd.zeroValue103
  t53 := Tryd.underlying71
  a53 := Tryd.isAgg71
  z53 := Tryd.sizeOf71
  v53 := Tryd.zeroValue71
  t75 := Tryd.underlying81
  a75 := Tryd.isAgg81
  z75 := Tryd.sizeOf81
  v75 := Tryd.zeroValue81
  t76 := Tryd.underlying82
  a76 := Tryd.isAgg82
  z76 := Tryd.sizeOf82
  v76 := Tryd.zeroValue82
  t85 := Tryd.underlying107
  a85 := Tryd.isAgg107
  z85 := Tryd.sizeOf107
  v85 := Tryd.zeroValue107
  t127 := Tryd.underlying92
  a127 := Tryd.isAgg92
  z127 := Tryd.sizeOf92
  v127 := Tryd.zeroValue92
  t143 := Tryd.underlying120
  a143 := Tryd.isAgg120
  z143 := Tryd.sizeOf120
  v143 := Tryd.zeroValue120
  t145 := Tryd.underlying122
  a145 := Tryd.isAgg122
  z145 := Tryd.sizeOf122
  v145 := Tryd.zeroValue122
  t167 := Tryd.underlying106
  a167 := Tryd.isAgg106
  z167 := Tryd.sizeOf106
  v167 := Tryd.zeroValue106
  t168 := Tryd.underlying109
  a168 := Tryd.isAgg109
  z168 := Tryd.sizeOf109
  v168 := Tryd.zeroValue109
  t171 := Tryd.underlying124
  a171 := Tryd.isAgg124
  z171 := Tryd.sizeOf124
  v171 := Tryd.zeroValue124
  t173 := Tryd.underlying127
  a173 := Tryd.isAgg127
  z173 := Tryd.sizeOf127
  v173 := Tryd.zeroValue127
  t175 := Tryd.underlying112
  a175 := Tryd.isAgg112
  z175 := Tryd.sizeOf112
  v175 := Tryd.zeroValue112
  t210 := Tryd.underlying116
  a210 := Tryd.isAgg116
  z210 := Tryd.sizeOf116
  v210 := Tryd.zeroValue116
  t212 := Tryd.underlying130
  a212 := Tryd.isAgg130
  z212 := Tryd.sizeOf130
  v212 := Tryd.zeroValue130
  t213 := Tryd.underlying131
  a213 := Tryd.isAgg131
  z213 := Tryd.sizeOf131
  t232 := Tryd.underlying134
  a232 := Tryd.isAgg134
  z232 := Tryd.sizeOf134
  v232 := Tryd.zeroValue134
  t233 := Tryd.underlying135
  a233 := Tryd.isAgg135
  z233 := Tryd.sizeOf135
  v233 := Tryd.zeroValue135
  g15 := by kernel_rfl
  g16 := by kernel_rfl
  g17 := by kernel_rfl
  g18 := by kernel_rfl
  g19 := by kernel_rfl
  t80 := Tryd.underlying84
  a80 := Tryd.isAgg84
  z80 := Tryd.sizeOf84
  v80 := Tryd.zeroValue84
  i0 := by kernel_rfl
  i2 := by kernel_rfl
  i3 := by kernel_rfl
  i4 := by kernel_rfl
  i5 := by kernel_rfl
  i9 := by kernel_rfl
  i20 := by kernel_rfl
  i21 := by kernel_rfl
  i37 := by kernel_rfl
  i46 := by kernel_rfl
  i51 := by kernel_rfl
  i53 := by kernel_rfl
  i75 := by kernel_rfl
  i76 := by kernel_rfl
  i80 := by kernel_rfl
  i85 := by kernel_rfl
  i127 := by kernel_rfl
  i143 := by kernel_rfl
  i145 := by kernel_rfl
  i167 := by kernel_rfl
  i168 := by kernel_rfl
  i171 := by kernel_rfl
  i173 := by kernel_rfl
  i175 := by kernel_rfl
  i210 := by kernel_rfl
  i212 := by kernel_rfl
  i232 := by kernel_rfl
  i233 := by kernel_rfl
  m15 := by kernel_rfl
  m16 := by kernel_rfl
  m17 := by kernel_rfl
  m18 := by kernel_rfl
  m19 := by kernel_rfl
  c0 := by kernel_rfl
  c2 := by kernel_rfl
  c3 := by kernel_rfl
  c4 := by kernel_rfl
  c5 := by kernel_rfl
  c9 := by kernel_rfl
  c20 := by kernel_rfl
  c21 := by kernel_rfl
  c37 := by kernel_rfl
  c46 := by kernel_rfl
  c51 := by kernel_rfl
  c53 := by kernel_rfl
  c75 := by kernel_rfl
  c76 := by kernel_rfl
  c80 := by kernel_rfl
  c85 := by kernel_rfl
  c127 := by kernel_rfl
  c143 := by kernel_rfl
  c145 := by kernel_rfl
  c167 := by kernel_rfl
  c168 := by kernel_rfl
  c171 := by kernel_rfl
  c173 := by kernel_rfl
  c175 := by kernel_rfl
  c210 := by kernel_rfl
  c212 := by kernel_rfl
  c213 := by kernel_rfl
  c232 := by kernel_rfl
  c233 := by kernel_rfl }
open Go.RowKit in
theorem Tryd.strconv_Atoi_ok (s : ByteArray) (hmax : s.size ≤ 9223372036854775806) (v : Int) (h : Lib.atoiAll s.data.toList = .ok v) (w : World) :
    Calls Tryd.prog 57 #[.string s] w fun e w' => e = .returned (.tuple #[.int .i64 v, .nilIface]) ∧ (w' = w ∨ ∃ t, w' = Lib.bytesWorld w 5 t) := Any.strconv_Atoi_ok Tryd.laysC172 s hmax v h w
def Tryd.lays99_ren : Go.Shelf.Ren := ⟨fun | 99 => 39 | 206 => 53 | n => n, fun | 9 => 9 | 4 => 4 | 3 => 3 | n => n, fun | n => n⟩
theorem Tryd.lays99 : Go.Proofs.Lays.n99 Tryd.prog Tryd.lays99_ren := {
  mixed := by kernel_rfl
  f99 := Tryd.func39.trans (congrArg some (by kernel_rfl))
  f206 := Tryd.func53.trans (congrArg some (by kernel_rfl))
  t3 := Tryd.underlying3
  a3 := Tryd.isAgg3
  z3 := Tryd.sizeOf3
  v3 := Tryd.zeroValue3
  t4 := Tryd.underlying4
  a4 := Tryd.isAgg4
  z4 := Tryd.sizeOf4
  v4 := Tryd.zeroValue4
  t9 := Tryd.underlying9
  a9 := Tryd.isAgg9
  z9 := Tryd.sizeOf9
  v9 := Tryd.zeroValue9 }
open Go.RowKit Go.Lib in
theorem Tryd.strings_HasPrefix (s p : ByteArray) (w : World) :
    Calls Tryd.prog 39 #[.string s, .string p] w fun e w' => e = .returned (.bool (Lib.hasPrefix s.data.toList p.data.toList)) ∧ w' = w := Any.strings_HasPrefix Tryd.lays99 s p w
def Tryd.lays107_ren : Go.Shelf.Ren := ⟨fun | 107 => 60 | 108 => 69 | n => n, fun | 28 => 31 | 3 => 3 | 4 => 4 | 0 => 0 | n => n, fun | n => n⟩
theorem Tryd.lays107 : Go.Proofs.Lays.n107 Tryd.prog Tryd.lays107_ren := {
  mixed := by kernel_rfl
  f107 := Tryd.func60.trans (congrArg some (by kernel_rfl))
  f108 := Tryd.func69.trans (congrArg some (by kernel_rfl))
  t0 := Tryd.underlying0
  a0 := Tryd.isAgg0
  z0 := Tryd.sizeOf0
  v0 := Tryd.zeroValue0
  t3 := Tryd.underlying3
  a3 := Tryd.isAgg3
  z3 := Tryd.sizeOf3
  v3 := Tryd.zeroValue3
  t4 := Tryd.underlying4
  a4 := Tryd.isAgg4
  z4 := Tryd.sizeOf4
  v4 := Tryd.zeroValue4
  t28 := Tryd.underlying31
  a28 := Tryd.isAgg31
  z28 := Tryd.sizeOf31
  v28 := Tryd.zeroValue31 }
open Go.Lib in
theorem Tryd.slices_Contains_int (b off n c : Nat) (zs : List Int) (x : Int) (w : World) (hz : n ≤ zs.length) (hbig : n ≤ 9223372036854775807) (hc : ∀ j, j < zs.length → w.cell? ⟨b, off + j, none⟩ = some (.int .i64 (zs.getD j 0))) :
    Calls Tryd.prog 60 #[.slice (some ⟨b, off, none⟩) n c, .int .i64 x] w fun e w' => e = .returned (.bool ((zs.take n).contains x)) ∧ w' = w := Any.slices_Contains_int Tryd.lays107 b off n c zs x w hz hbig hc
open Go.Lib in
theorem Tryd.slices_Contains_int_empty (a : Option Addr) (c : Nat) (x : Int) (w : World) :
    Calls Tryd.prog 60 #[.slice a 0 c, .int .i64 x] w fun e w' => e = .returned (.bool false) ∧ w' = w := Any.slices_Contains_int_empty Tryd.lays107 a c x w
def Tryd.lays187_ren : Go.Shelf.Ren := ⟨fun | 187 => 44 | 255 => 56 | n => n, fun | 37 => 25 | 5 => 5 | 3 => 3 | n => n, fun | n => n⟩
theorem Tryd.lays187 : Go.Proofs.Lays.n187 Tryd.prog Tryd.lays187_ren := {
  mixed := by kernel_rfl
  f187 := Tryd.func44.trans (congrArg some (by kernel_rfl))
  f255 := Tryd.func56.trans (congrArg some (by kernel_rfl))
  t3 := Tryd.underlying3
  a3 := Tryd.isAgg3
  z3 := Tryd.sizeOf3
  v3 := Tryd.zeroValue3
  t5 := Tryd.underlying5
  a5 := Tryd.isAgg5
  z5 := Tryd.sizeOf5
  v5 := Tryd.zeroValue5
  t37 := Tryd.underlying25
  a37 := Tryd.isAgg25
  z37 := Tryd.sizeOf25
  v37 := Tryd.zeroValue25 }
open Go.RowKit Go.Lib in
theorem Tryd.bytes_IndexByte_at (a : Addr) (n c : Nat) (xs : List Int) (cv : Int) (w : World) (hx : xs.length = n) (hc : ∀ i, i < n → w.cell? (a.add i) = some (.int .u8 (xs.getD i 0))) :
    Calls Tryd.prog 44 #[.slice (some a) n c, .int .u8 cv] w fun e w' => e = .returned (.int .i64 (Lib.indexByte (Lib.bytesOf xs) cv.toNat.toUInt8)) ∧ w' = w := Any.bytes_IndexByte_at Tryd.lays187 a n c xs cv w hx hc
def Tryd.laysSlK4_ren : Go.Shelf.Ren := ⟨fun | 4 => 43 | n => n, fun | 22 => 25 | 4 => 4 | 5 => 5 | n => n, fun | n => n⟩
theorem Tryd.laysSlK4 : Go.Proofs.SlLaysK.n4 Tryd.prog Tryd.laysSlK4_ren := {
  mixed := by kernel_rfl
  f4 := Tryd.func43.trans (congrArg some (by kernel_rfl))
  t4 := Tryd.underlying4
  a4 := Tryd.isAgg4
  z4 := Tryd.sizeOf4
  v4 := Tryd.zeroValue4
  t22 := Tryd.underlying25
  a22 := Tryd.isAgg25
  z22 := Tryd.sizeOf25
  v22 := Tryd.zeroValue25
  t5 := Tryd.underlying5
  i5 := by kernel_rfl }
open Go.RowKit Go.Lib in
theorem Tryd.bytes_Clone_at (a : Addr) (n c : Nat) (xs : List Int) (w : World) (hx : xs.length = n) (hbig : n ≤ 140737488355328) (hc : ∀ i, i < n → w.cell? (a.add i) = some (.int .u8 (xs.getD i 0))) :
    Calls Tryd.prog 43 #[.slice (some a) n c] w fun e w' => ∃ v', e = .returned v' ∧ w'.ownsRow w.heap.size 5 1 v' n (xs.map (Value.int .u8)) ∧ v' ≠ .slice none 0 0 ∧ Below w.heap.size w w' := Any.bytes_Clone_at Tryd.laysSlK4 a n c xs w hx hbig hc
open Go.RowKit Go.Lib in
theorem Tryd.bytes_Clone_nil (n c : Nat) (w : World) :
    Calls Tryd.prog 43 #[.slice none n c] w fun e w' => e = .returned (.slice none 0 0) ∧ w' = w := Any.bytes_Clone_nil Tryd.laysSlK4 n c w
def Tryd.laysSlT4_ren : Go.Shelf.Ren := ⟨fun | 4 => 42 | 5 => 55 | 6 => 44 | 7 => 63 | 8 => 64 | 9 => 65 | 10 => 66 | 11 => 56 | 12 => 71 | n => n, fun | 22 => 25 | 4 => 4 | 3 => 3 | 0 => 0 | 5 => 5 | 29 => 100 | 9 => 9 | 31 => 104 | 30 => 103 | n => n, fun | 0 => 0 | n => n⟩
theorem Tryd.laysSlT4 : Go.Proofs.SlLaysT.n4 Tryd.prog Tryd.laysSlT4_ren := {
  mixed := by kernel_rfl
  f4 := Tryd.func42.trans (congrArg some (by kernel_rfl))
  f5 := Tryd.func55.trans (congrArg some (by kernel_rfl))
  f6 := Tryd.func44.trans (congrArg some (by kernel_rfl))
  f7 := Tryd.func63.trans (congrArg some (by kernel_rfl))
  f8 := Tryd.func64.trans (congrArg some (by kernel_rfl))
  f9 := Tryd.func65.trans (congrArg some (by kernel_rfl))
  f10 := Tryd.func66.trans (congrArg some (by kernel_rfl))
  f11 := Tryd.func56.trans (congrArg some (by kernel_rfl))
  f12 := Tryd.func71.trans (congrArg some (by kernel_rfl))
  t0 := Tryd.underlying0
  a0 := Tryd.isAgg0
  z0 := Tryd.sizeOf0
  v0 := Tryd.zeroValue0
  t3 := Tryd.underlying3
  a3 := Tryd.isAgg3
  z3 := Tryd.sizeOf3
  v3 := Tryd.zeroValue3
  t4 := Tryd.underlying4
  a4 := Tryd.isAgg4
  z4 := Tryd.sizeOf4
  v4 := Tryd.zeroValue4
  t5 := Tryd.underlying5
  a5 := Tryd.isAgg5
  z5 := Tryd.sizeOf5
  v5 := Tryd.zeroValue5
  t9 := Tryd.underlying9
  a9 := Tryd.isAgg9
  z9 := Tryd.sizeOf9
  v9 := Tryd.zeroValue9
  t22 := Tryd.underlying25
  a22 := Tryd.isAgg25
  z22 := Tryd.sizeOf25
  v22 := Tryd.zeroValue25
  t29 := Tryd.underlying100
  a29 := Tryd.isAgg100
  z29 := Tryd.sizeOf100
  v29 := Tryd.zeroValue100
  t30 := Tryd.underlying103
  a30 := Tryd.isAgg103
  z30 := Tryd.sizeOf103
  v30 := Tryd.zeroValue103
  t31 := Tryd.underlying104
  a31 := Tryd.isAgg104
  z31 := Tryd.sizeOf104
  v31 := Tryd.zeroValue104
  g0 := by kernel_rfl }
theorem Tryd.bytes_Cut_all (p1 p2 : Option Addr) (n c1 k c2 : Nat) (xs ys : List Int) (m : Int) (w : World) (hx : xs.length = n) (hy : ys.length = k) (hr1 : ∀ x ∈ xs, 0 ≤ x ∧ x < 256) (hr2 : ∀ y ∈ ys, 0 ≤ y ∧ y < 256) (h1 : Lib.BytesIn w p1 n xs) (h2 : Lib.BytesIn w p2 k ys) (hp1 : p1 = none → c1 = 0) (hcap : n ≤ c1) (hs : n < 4294967281) (hk : k ≤ 9223372036854775807) (hm : w.cell? ⟨0, 0, none⟩ = some (.int .i64 m)) :
    Calls Tryd.prog 42 #[.slice p1 n c1, .slice p2 k c2] w fun e w' => e = .returned (Lib.cutV p1 n c1 k (Lib.index (Lib.bytesOf xs) (Lib.bytesOf ys))) ∧ ∃ q, w' = w.drewN q := Any.bytes_Cut_all Tryd.laysSlT4 p1 p2 n c1 k c2 xs ys m w hx hy hr1 hr2 h1 h2 hp1 hcap hs hk hm
theorem Tryd.bytes_IndexByte_nil (cv : Int) (w : World) :
    Calls Tryd.prog 44 #[.slice none 0 0, .int .u8 cv] w fun e w' => e = .returned (.int .i64 (-1)) ∧ w' = w := Any.bytes_IndexByte_nil Tryd.lays187 cv w
end Go.Proofs
