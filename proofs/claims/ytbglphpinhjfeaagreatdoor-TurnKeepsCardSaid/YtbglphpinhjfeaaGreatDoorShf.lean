/- The contracts of Go's library that these proofs use, laid at this program by the kit's own tool; the others are left out. -/
import Derived.Shelf.Strings.Builder1
import Derived.Shelf.Small.Strs
import Derived.Shelf.Strings.BuilderF
import Derived.Shelf.Strings.BuilderK
import Derived.Shelf.Utf8.RuneCount
import Derived.Shelf.Strconv.Atoi
import Derived.Shelf.Strconv.Itoa0
import Derived.Shelf.Strconv.Itoa1
import Derived.Shelf.LaysM
import Derived.Shelf.Strconv.Itoa2
import Derived.Shelf.Strconv.Itoa3
import Derived.Shelf.Strconv.AtoiErrFast
import Derived.Shelf.Strconv.ParseIntEmpty
import Derived.Shelf.Strconv.AtoiFail
import Derived.Shelf.Strconv.Clone
import Derived.Shelf.Strconv.SyntaxError
import Derived.Shelf.LaysC
import Derived.Shelf.Strconv.ToError
import Derived.Shelf.Strconv.Lower
import Derived.Shelf.Strconv.ParseUint10
import Derived.Shelf.Strconv.ParseUint10Empty
import Derived.Shelf.Strconv.ParseUint10Any
import Derived.Shelf.Strconv.ParseInt10
import Derived.Shelf.Strconv.AtoiLong
import Derived.Shelf.Strconv.AtoiInnerAll
import Derived.Shelf.Strconv.RangeError
import Derived.Shelf.Strconv.ToErrorRange
import Derived.Shelf.Strconv.AtoiAll
import Derived.Shelf.Strconv.ErrVarAll
import Derived.Shelf.Strings.Search1
import Derived.Shelf.Strings.Search2
import Derived.Shelf.Strings.Search3
import Derived.Shelf.Strings.Cut
import Derived.Shelf.Strings.Count
import Derived.Shelf.Strings.Shaped
import Derived.Shelf.Strings.Prefix
import Derived.Shelf.Strings.Split
import Derived.Shelf.Strings.SplitShaped
import Derived.Shelf.Unicode.Decode
import Derived.Shelf.Strings.RuneCount
import Derived.Shelf.Strings.Explode
import Derived.Shelf.Unicode.DecodeSlow
import Derived.Shelf.Unicode.DecodeAny
import Derived.Shelf.Strings.BuilderCap
import Derived.Test.YtbglphpinhjfeaaGreatDoorProg
namespace Go.Proofs
open Go.Shelf
def Tryz.lays137_ren : Go.Shelf.Ren := ⟨fun | 137 => 68 | 217 => 81 | 266 => 96 | n => n, fun | 9 => 9 | 5 => 5 | 3 => 3 | n => n, fun | n => n⟩
theorem Tryz.lays137 : Go.Proofs.Lays.n137 Tryz.prog Tryz.lays137_ren := {
  mixed := by kernel_rfl
  f137 := Tryz.func68.trans (congrArg some (by kernel_rfl))
  f217 := Tryz.func81.trans (congrArg some (by kernel_rfl))
  f266 := Tryz.func96.trans (congrArg some (by kernel_rfl))
  t3 := Tryz.underlying3
  a3 := Tryz.isAgg3
  z3 := Tryz.sizeOf3
  v3 := Tryz.zeroValue3
  t5 := Tryz.underlying5
  a5 := Tryz.isAgg5
  z5 := Tryz.sizeOf5
  v5 := Tryz.zeroValue5
  t9 := Tryz.underlying9
  a9 := Tryz.isAgg9
  z9 := Tryz.sizeOf9
  v9 := Tryz.zeroValue9 }
open Go.RowKit in
theorem Tryz.strings_IndexByte (s : ByteArray) (c : Int) (w : World) :
    Calls Tryz.prog 68 #[.string s, .int .u8 c] w fun e w' => e = .returned (.int .i64 (Lib.indexByte s.data.toList c.toNat.toUInt8)) ∧ w' = w := Any.strings_IndexByte Tryz.lays137 s c w
def Tryz.laysM171_ren : Go.Shelf.Ren := ⟨fun | 171 => 30 | 243 => 57 | 246 => 71 | 283 => 82 | 284 => 83 | 285 => 84 | 286 => 85 | 129 => 98 | 317 => 97 | 318 => 99 | 319 => 100 | 320 => 101 | 337 => 114 | 338 => 115 | n => n, fun | 3 => 3 | 9 => 9 | 2 => 2 | 4 => 4 | 171 => 102 | 0 => 0 | 53 => 84 | 37 => 28 | 5 => 5 | 173 => 105 | 212 => 117 | 51 => 118 | 20 => 20 | 213 => 119 | 46 => 94 | 232 => 136 | 233 => 137 | n => n, fun | 17 => 0 | 18 => 4 | 19 => 5 | n => n⟩
theorem Tryz.laysM171 : Go.Proofs.LaysM.n171 Tryz.prog Tryz.laysM171_ren := {
  mixed := by kernel_rfl
  f129 := Tryz.func98.trans (congrArg some (by kernel_rfl))
  f171 := Tryz.func30.trans (congrArg some (by kernel_rfl))
  f243 := Tryz.func57.trans (congrArg some (by kernel_rfl))
  f246 := Tryz.func71.trans (congrArg some (by kernel_rfl))
  f283 := Tryz.func82.trans (congrArg some (by kernel_rfl))
  f284 := Tryz.func83.trans (congrArg some (by kernel_rfl))
  f285 := Tryz.func84.trans (congrArg some (by kernel_rfl))
  f286 := Tryz.func85.trans (congrArg some (by kernel_rfl))
  f317 := Tryz.func97.trans (congrArg some (by kernel_rfl))
  f318 := Tryz.func99.trans (congrArg some (by kernel_rfl))
  f319 := Tryz.func100.trans (congrArg some (by kernel_rfl))
  f320 := Tryz.func101.trans (congrArg some (by kernel_rfl))
  f337 := Tryz.func114.trans (congrArg some (by kernel_rfl))
  f338 := Tryz.func115.trans (congrArg some (by kernel_rfl))
  t0 := Tryz.underlying0
  a0 := Tryz.isAgg0
  z0 := Tryz.sizeOf0
  v0 := Tryz.zeroValue0
  t2 := Tryz.underlying2
  a2 := Tryz.isAgg2
  z2 := Tryz.sizeOf2
  v2 := Tryz.zeroValue2
  t3 := Tryz.underlying3
  a3 := Tryz.isAgg3
  z3 := Tryz.sizeOf3
  v3 := Tryz.zeroValue3
  t4 := Tryz.underlying4
  a4 := Tryz.isAgg4
  z4 := Tryz.sizeOf4
  v4 := Tryz.zeroValue4
  t5 := Tryz.underlying5
  a5 := Tryz.isAgg5
  z5 := Tryz.sizeOf5
  v5 := Tryz.zeroValue5
  t9 := Tryz.underlying9
  a9 := Tryz.isAgg9
  z9 := Tryz.sizeOf9
  v9 := Tryz.zeroValue9
  t20 := Tryz.underlying20
  a20 := Tryz.isAgg20
  z20 := Tryz.sizeOf20
  v20 := Tryz.zeroValue20
  t37 := Tryz.underlying28
  a37 := Tryz.isAgg28
  z37 := Tryz.sizeOf28
  v37 := Tryz.zeroValue28
  t46 := Tryz.underlying94
  a46 := Tryz.isAgg94
  z46 := Tryz.sizeOf94
  v46 := Tryz.zeroValue94
  t51 := Tryz.underlying118
  a51 := Tryz.isAgg118
  z51 := Tryz.sizeOf118
  v51 := Tryz.zeroValue118
  t53 := Tryz.underlying84
  a53 := Tryz.isAgg84
  z53 := Tryz.sizeOf84
  v53 := Tryz.zeroValue84
  t171 := Tryz.underlying102
  a171 := Tryz.isAgg102
  z171 := Tryz.sizeOf102
  v171 := Tryz.zeroValue102
  t173 := Tryz.underlying105
  a173 := Tryz.isAgg105
  z173 := Tryz.sizeOf105
  v173 := Tryz.zeroValue105
  t212 := Tryz.underlying117
  a212 := Tryz.isAgg117
  z212 := Tryz.sizeOf117
  v212 := Tryz.zeroValue117
  t213 := Tryz.underlying119
  a213 := Tryz.isAgg119
  z213 := Tryz.sizeOf119
  t232 := Tryz.underlying136
  a232 := Tryz.isAgg136
  z232 := Tryz.sizeOf136
  v232 := Tryz.zeroValue136
  t233 := Tryz.underlying137
  a233 := Tryz.isAgg137
  z233 := Tryz.sizeOf137
  v233 := Tryz.zeroValue137
  g17 := by kernel_rfl
  g18 := by kernel_rfl
  g19 := by kernel_rfl
  i0 := by kernel_rfl
  i2 := by kernel_rfl
  i3 := by kernel_rfl
  i4 := by kernel_rfl
  i5 := by kernel_rfl
  i9 := by kernel_rfl
  i20 := by kernel_rfl
  i37 := by kernel_rfl
  i46 := by kernel_rfl
  i51 := by kernel_rfl
  i53 := by kernel_rfl
  i171 := by kernel_rfl
  i173 := by kernel_rfl
  i212 := by kernel_rfl
  i232 := by kernel_rfl
  i233 := by kernel_rfl
  m17 := by kernel_rfl
  m18 := by kernel_rfl
  m19 := by kernel_rfl }
open Go.RowKit Go.Sort Go.Lib in
theorem Tryz.strconv_Itoa (n : Int) (h0 : -9223372036854775808 ≤ n) (h1 : n ≤ 9223372036854775807) (w : World) (htab : Lib.TabIs Tryz.prog w "internal/strconv.uint64pow10" .u64 Lib.pow10Tab) :
    Calls Tryz.prog 30 #[.int .i64 n] w fun e w' => e = .returned (.string ⟨(Lib.itoa n).toArray⟩) ∧ ∃ k os, w' = grow (w.drewN k) os := Any.strconv_Itoa Tryz.laysM171 n h0 h1 w htab
def Tryz.laysC172_ren : Go.Shelf.Ren := ⟨fun | 172 => 60 | 244 => 75 | 245 => 76 | 247 => 88 | 279 => 89 | 280 => 90 | 281 => 91 | 282 => 92 | 287 => 102 | 316 => 103 | 171 => 30 | 205 => 104 | 321 => 116 | 322 => 117 | 243 => 57 | 246 => 71 | 283 => 82 | 284 => 83 | 285 => 84 | 286 => 85 | 129 => 98 | 317 => 97 | 318 => 99 | 319 => 100 | 320 => 101 | 337 => 114 | 338 => 115 | n => n, fun | 9 => 9 | 3 => 3 | 75 => 54 | 76 => 55 | 4 => 4 | 5 => 5 | 167 => 109 | 37 => 28 | 0 => 0 | 85 => 110 | 2 => 2 | 168 => 112 | 53 => 84 | 175 => 121 | 46 => 94 | 210 => 124 | 127 => 88 | 145 => 132 | 143 => 130 | 21 => 21 | 171 => 102 | 173 => 105 | 212 => 117 | 51 => 118 | 20 => 20 | 213 => 119 | 232 => 136 | 233 => 137 | 80 => 58 | n => n, fun | 15 => 1 | 16 => 2 | 17 => 0 | 18 => 4 | 19 => 5 | n => n⟩
theorem Tryz.laysC172 : Go.Proofs.LaysC.n172 Tryz.prog Tryz.laysC172_ren := {
  mixed := by kernel_rfl
  f129 := Tryz.func98.trans (congrArg some (by kernel_rfl))
  f171 := Tryz.func30.trans (congrArg some (by kernel_rfl))
  f172 := Tryz.func60.trans (congrArg some (by kernel_rfl))
  f205 := Tryz.func104.trans (congrArg some (by kernel_rfl))
  f243 := Tryz.func57.trans (congrArg some (by kernel_rfl))
  f244 := Tryz.func75.trans (congrArg some (by kernel_rfl))
  f245 := Tryz.func76.trans (congrArg some (by kernel_rfl))
  f246 := Tryz.func71.trans (congrArg some (by kernel_rfl))
  f247 := Tryz.func88.trans (congrArg some (by kernel_rfl))
  f279 := Tryz.func89.trans (congrArg some (by kernel_rfl))
  f280 := Tryz.func90.trans (congrArg some (by kernel_rfl))
  f281 := Tryz.func91.trans (congrArg some (by kernel_rfl))
  f282 := Tryz.func92.trans (congrArg some (by kernel_rfl))
  f283 := Tryz.func82.trans (congrArg some (by kernel_rfl))
  f284 := Tryz.func83.trans (congrArg some (by kernel_rfl))
  f285 := Tryz.func84.trans (congrArg some (by kernel_rfl))
  f286 := Tryz.func85.trans (congrArg some (by kernel_rfl))
  f287 := Tryz.func102.trans (congrArg some (by kernel_rfl))
  f316 := Tryz.func103.trans (congrArg some (by kernel_rfl))
  f317 := Tryz.func97.trans (congrArg some (by kernel_rfl))
  f318 := Tryz.func99.trans (congrArg some (by kernel_rfl))
  f319 := Tryz.func100.trans (congrArg some (by kernel_rfl))
  f320 := Tryz.func101.trans (congrArg some (by kernel_rfl))
  f321 := Tryz.func116.trans (congrArg some (by kernel_rfl))
  f322 := Tryz.func117.trans (congrArg some (by kernel_rfl))
  f337 := Tryz.func114.trans (congrArg some (by kernel_rfl))
  f338 := Tryz.func115.trans (congrArg some (by kernel_rfl))
  t0 := Tryz.underlying0
  a0 := Tryz.isAgg0
  z0 := Tryz.sizeOf0
  v0 := Tryz.zeroValue0
  t2 := Tryz.underlying2
  a2 := Tryz.isAgg2
  z2 := Tryz.sizeOf2
  v2 := Tryz.zeroValue2
  t3 := Tryz.underlying3
  a3 := Tryz.isAgg3
  z3 := Tryz.sizeOf3
  v3 := Tryz.zeroValue3
  t4 := Tryz.underlying4
  a4 := Tryz.isAgg4
  z4 := Tryz.sizeOf4
  v4 := Tryz.zeroValue4
  t5 := Tryz.underlying5
  a5 := Tryz.isAgg5
  z5 := Tryz.sizeOf5
  v5 := Tryz.zeroValue5
  t9 := Tryz.underlying9
  a9 := Tryz.isAgg9
  z9 := Tryz.sizeOf9
  v9 := Tryz.zeroValue9
  t20 := Tryz.underlying20
  a20 := Tryz.isAgg20
  z20 := Tryz.sizeOf20
  v20 := Tryz.zeroValue20
  t21 := Tryz.underlying21
  a21 := Tryz.isAgg21
  z21 := Tryz.sizeOf21
  v21 := Tryz.zeroValue21
  t37 := Tryz.underlying28
  a37 := Tryz.isAgg28
  z37 := Tryz.sizeOf28
  v37 := Tryz.zeroValue28
  t46 := Tryz.underlying94
  a46 := Tryz.isAgg94
  z46 := Tryz.sizeOf94
  v46 := Tryz.zeroValue94
  t51 := Tryz.underlying118
  a51 := Tryz.isAgg118
  z51 := Tryz.sizeOf118
  v51 := Tryz.zeroValue118
  t53 := Tryz.underlying84
  a53 := Tryz.isAgg84
  z53 := Tryz.sizeOf84
  v53 := Tryz.zeroValue84
  t75 := Tryz.underlying54
  a75 := Tryz.isAgg54
  z75 := Tryz.sizeOf54
  v75 := Tryz.zeroValue54
  t76 := Tryz.underlying55
  a76 := Tryz.isAgg55
  z76 := Tryz.sizeOf55
  v76 := Tryz.zeroValue55
  t85 := Tryz.underlying110
  a85 := Tryz.isAgg110
  z85 := Tryz.sizeOf110
  v85 := Tryz.zeroValue110
  t127 := Tryz.underlying88
  a127 := Tryz.isAgg88
  z127 := Tryz.sizeOf88
  v127 := Tryz.zeroValue88
  t143 := Tryz.underlying130
  a143 := Tryz.isAgg130
  z143 := Tryz.sizeOf130
  v143 := Tryz.zeroValue130
  t145 := Tryz.underlying132
  a145 := Tryz.isAgg132
  z145 := Tryz.sizeOf132
  v145 := Tryz.zeroValue132
  t167 := Tryz.underlying109
  a167 := Tryz.isAgg109
  z167 := Tryz.sizeOf109
  v167 := Tryz.zeroValue109
  t168 := Tryz.underlying112
  a168 := Tryz.isAgg112
  z168 := Tryz.sizeOf112
  v168 := Tryz.zeroValue112
  t171 := Tryz.underlying102
  a171 := Tryz.isAgg102
  z171 := Tryz.sizeOf102
  v171 := Tryz.zeroValue102
  t173 := Tryz.underlying105
  a173 := Tryz.isAgg105
  z173 := Tryz.sizeOf105
  v173 := Tryz.zeroValue105
  t175 := Tryz.underlying121
  a175 := Tryz.isAgg121
  z175 := Tryz.sizeOf121
  v175 := Tryz.zeroValue121
  t210 := Tryz.underlying124
  a210 := Tryz.isAgg124
  z210 := Tryz.sizeOf124
  v210 := Tryz.zeroValue124
  t212 := Tryz.underlying117
  a212 := Tryz.isAgg117
  z212 := Tryz.sizeOf117
  v212 := Tryz.zeroValue117
  t213 := Tryz.underlying119
  a213 := Tryz.isAgg119
  z213 := Tryz.sizeOf119
  t232 := Tryz.underlying136
  a232 := Tryz.isAgg136
  z232 := Tryz.sizeOf136
  v232 := Tryz.zeroValue136
  t233 := Tryz.underlying137
  a233 := Tryz.isAgg137
  z233 := Tryz.sizeOf137
  v233 := Tryz.zeroValue137
  g15 := by kernel_rfl
  g16 := by kernel_rfl
  g17 := by kernel_rfl
  g18 := by kernel_rfl
  g19 := by kernel_rfl
  t80 := Tryz.underlying58
  a80 := Tryz.isAgg58
  z80 := Tryz.sizeOf58
  v80 := Tryz.zeroValue58
  i0 := by kernel_rfl
  i2 := by kernel_rfl
  i3 := by kernel_rfl
  i4 := by kernel_rfl
  i5 := by kernel_rfl
  i9 := by kernel_rfl
  i20 := by kernel_rfl
  i21 := by kernel_rfl
  i37 := by kernel_rfl
  i46 := by kernel_rfl
  i51 := by kernel_rfl
  i53 := by kernel_rfl
  i75 := by kernel_rfl
  i76 := by kernel_rfl
  i80 := by kernel_rfl
  i85 := by kernel_rfl
  i127 := by kernel_rfl
  i143 := by kernel_rfl
  i145 := by kernel_rfl
  i167 := by kernel_rfl
  i168 := by kernel_rfl
  i171 := by kernel_rfl
  i173 := by kernel_rfl
  i175 := by kernel_rfl
  i210 := by kernel_rfl
  i212 := by kernel_rfl
  i232 := by kernel_rfl
  i233 := by kernel_rfl
  m15 := by kernel_rfl
  m16 := by kernel_rfl
  m17 := by kernel_rfl
  m18 := by kernel_rfl
  m19 := by kernel_rfl
  c0 := by kernel_rfl
  c2 := by kernel_rfl
  c3 := by kernel_rfl
  c4 := by kernel_rfl
  c5 := by kernel_rfl
  c9 := by kernel_rfl
  c20 := by kernel_rfl
  c21 := by kernel_rfl
  c37 := by kernel_rfl
  c46 := by kernel_rfl
  c51 := by kernel_rfl
  c53 := by kernel_rfl
  c75 := by kernel_rfl
  c76 := by kernel_rfl
  c80 := by kernel_rfl
  c85 := by kernel_rfl
  c127 := by kernel_rfl
  c143 := by kernel_rfl
  c145 := by kernel_rfl
  c167 := by kernel_rfl
  c168 := by kernel_rfl
  c171 := by kernel_rfl
  c173 := by kernel_rfl
  c175 := by kernel_rfl
  c210 := by kernel_rfl
  c212 := by kernel_rfl
  c213 := by kernel_rfl
  c232 := by kernel_rfl
  c233 := by kernel_rfl }
open Go.RowKit in
theorem Tryz.strconv_Atoi_ok (s : ByteArray) (hmax : s.size ≤ 9223372036854775806) (v : Int) (h : Lib.atoiAll s.data.toList = .ok v) (w : World) :
    Calls Tryz.prog 60 #[.string s] w fun e w' => e = .returned (.tuple #[.int .i64 v, .nilIface]) ∧ (w' = w ∨ ∃ t, w' = Lib.bytesWorld w 5 t) := Any.strconv_Atoi_ok Tryz.laysC172 s hmax v h w
def Tryz.lays145_ren : Go.Shelf.Ren := ⟨fun | 145 => 63 | 220 => 78 | 219 => 93 | 217 => 81 | 225 => 105 | 224 => 106 | 267 => 107 | 266 => 96 | 314 => 118 | n => n, fun | 9 => 9 | 4 => 4 | 59 => 89 | 3 => 3 | 5 => 5 | 46 => 94 | 146 => 133 | 51 => 118 | n => n, fun | 1 => 3 | n => n⟩
theorem Tryz.lays145 : Go.Proofs.Lays.n145 Tryz.prog Tryz.lays145_ren := {
  mixed := by kernel_rfl
  f145 := Tryz.func63.trans (congrArg some (by kernel_rfl))
  f217 := Tryz.func81.trans (congrArg some (by kernel_rfl))
  f219 := Tryz.func93.trans (congrArg some (by kernel_rfl))
  f220 := Tryz.func78.trans (congrArg some (by kernel_rfl))
  f224 := Tryz.func106.trans (congrArg some (by kernel_rfl))
  f225 := Tryz.func105.trans (congrArg some (by kernel_rfl))
  f266 := Tryz.func96.trans (congrArg some (by kernel_rfl))
  f267 := Tryz.func107.trans (congrArg some (by kernel_rfl))
  f314 := Tryz.func118.trans (congrArg some (by kernel_rfl))
  t3 := Tryz.underlying3
  a3 := Tryz.isAgg3
  z3 := Tryz.sizeOf3
  v3 := Tryz.zeroValue3
  t4 := Tryz.underlying4
  a4 := Tryz.isAgg4
  z4 := Tryz.sizeOf4
  v4 := Tryz.zeroValue4
  t5 := Tryz.underlying5
  a5 := Tryz.isAgg5
  z5 := Tryz.sizeOf5
  v5 := Tryz.zeroValue5
  t9 := Tryz.underlying9
  a9 := Tryz.isAgg9
  z9 := Tryz.sizeOf9
  v9 := Tryz.zeroValue9
  t46 := Tryz.underlying94
  a46 := Tryz.isAgg94
  z46 := Tryz.sizeOf94
  v46 := Tryz.zeroValue94
  t51 := Tryz.underlying118
  a51 := Tryz.isAgg118
  z51 := Tryz.sizeOf118
  v51 := Tryz.zeroValue118
  t59 := Tryz.underlying89
  a59 := Tryz.isAgg89
  z59 := Tryz.sizeOf89
  v59 := Tryz.zeroValue89
  t146 := Tryz.underlying133
  a146 := Tryz.isAgg133
  z146 := Tryz.sizeOf133
  v146 := Tryz.zeroValue133
  g1 := by kernel_rfl }
open Go.RowKit Go.Lib in
theorem Tryz.strings_Cut (s sep : ByteArray) (m : Int) (w : World) (hs : s.size < 4294967281) (hm : w.cell? ⟨3, 0, none⟩ = some (.int .i64 m)) :
    Calls Tryz.prog 63 #[.string s, .string sep] w fun e w' => e = .returned (.tuple #[.string ⟨(Lib.cut s.data.toList sep.data.toList).1.toArray⟩, .string ⟨(Lib.cut s.data.toList sep.data.toList).2.1.toArray⟩, .bool (Lib.cut s.data.toList sep.data.toList).2.2]) ∧ ∃ n, w' = w.drewN n := Any.strings_Cut Tryz.lays145 s sep m w hs hm
def Tryz.lays206_ren : Go.Shelf.Ren := ⟨fun | 206 => 62 | n => n, fun | 9 => 9 | 4 => 4 | 3 => 3 | n => n, fun | n => n⟩
theorem Tryz.lays206 : Go.Proofs.Lays.n206 Tryz.prog Tryz.lays206_ren := {
  mixed := by kernel_rfl
  f206 := Tryz.func62.trans (congrArg some (by kernel_rfl))
  t3 := Tryz.underlying3
  a3 := Tryz.isAgg3
  z3 := Tryz.sizeOf3
  v3 := Tryz.zeroValue3
  t4 := Tryz.underlying4
  a4 := Tryz.isAgg4
  z4 := Tryz.sizeOf4
  v4 := Tryz.zeroValue4
  t9 := Tryz.underlying9
  a9 := Tryz.isAgg9
  z9 := Tryz.sizeOf9
  v9 := Tryz.zeroValue9 }
open Go.RowKit Go.Lib in
theorem Tryz.stringslite_HasPrefix (s p : ByteArray) (w : World) :
    Calls Tryz.prog 62 #[.string s, .string p] w fun e w' => e = .returned (.bool (Lib.hasPrefix s.data.toList p.data.toList)) ∧ w' = w := Any.stringslite_HasPrefix Tryz.lays206 s p w
def Tryz.lays99_ren : Go.Shelf.Ren := ⟨fun | 99 => 39 | 206 => 62 | n => n, fun | 9 => 9 | 4 => 4 | 3 => 3 | n => n, fun | n => n⟩
theorem Tryz.lays99 : Go.Proofs.Lays.n99 Tryz.prog Tryz.lays99_ren := {
  mixed := by kernel_rfl
  f99 := Tryz.func39.trans (congrArg some (by kernel_rfl))
  f206 := Tryz.func62.trans (congrArg some (by kernel_rfl))
  t3 := Tryz.underlying3
  a3 := Tryz.isAgg3
  z3 := Tryz.sizeOf3
  v3 := Tryz.zeroValue3
  t4 := Tryz.underlying4
  a4 := Tryz.isAgg4
  z4 := Tryz.sizeOf4
  v4 := Tryz.zeroValue4
  t9 := Tryz.underlying9
  a9 := Tryz.isAgg9
  z9 := Tryz.sizeOf9
  v9 := Tryz.zeroValue9 }
open Go.RowKit Go.Lib in
theorem Tryz.strings_HasPrefix (s p : ByteArray) (w : World) :
    Calls Tryz.prog 39 #[.string s, .string p] w fun e w' => e = .returned (.bool (Lib.hasPrefix s.data.toList p.data.toList)) ∧ w' = w := Any.strings_HasPrefix Tryz.lays99 s p w
def Tryz.lays146_ren : Go.Shelf.Ren := ⟨fun | 146 => 111 | 221 => 120 | 268 => 122 | 138 => 123 | 143 => 124 | 195 => 125 | 197 => 126 | 218 => 127 | 219 => 93 | 260 => 128 | 217 => 81 | 225 => 105 | 224 => 106 | 267 => 107 | 266 => 96 | 314 => 118 | n => n, fun | 9 => 9 | 31 => 22 | 3 => 3 | 4 => 4 | 0 => 0 | 105 => 139 | 21 => 21 | 5 => 5 | 46 => 94 | 119 => 141 | 139 => 144 | 138 => 143 | 146 => 133 | 51 => 118 | n => n, fun | 1 => 3 | 3 => 6 | 4 => 7 | n => n⟩
theorem Tryz.lays146 : Go.Proofs.Lays.n146 Tryz.prog Tryz.lays146_ren := {
  mixed := by kernel_rfl
  f138 := Tryz.func123.trans (congrArg some (by kernel_rfl))
  f143 := Tryz.func124.trans (congrArg some (by kernel_rfl))
  f146 := Tryz.func111.trans (congrArg some (by kernel_rfl))
  f195 := Tryz.func125.trans (congrArg some (by kernel_rfl))
  f197 := Tryz.func126.trans (congrArg some (by kernel_rfl))
  f217 := Tryz.func81.trans (congrArg some (by kernel_rfl))
  f218 := Tryz.func127.trans (congrArg some (by kernel_rfl))
  f219 := Tryz.func93.trans (congrArg some (by kernel_rfl))
  f221 := Tryz.func120.trans (congrArg some (by kernel_rfl))
  f224 := Tryz.func106.trans (congrArg some (by kernel_rfl))
  f225 := Tryz.func105.trans (congrArg some (by kernel_rfl))
  f260 := Tryz.func128.trans (congrArg some (by kernel_rfl))
  f266 := Tryz.func96.trans (congrArg some (by kernel_rfl))
  f267 := Tryz.func107.trans (congrArg some (by kernel_rfl))
  f268 := Tryz.func122.trans (congrArg some (by kernel_rfl))
  f314 := Tryz.func118.trans (congrArg some (by kernel_rfl))
  t0 := Tryz.underlying0
  a0 := Tryz.isAgg0
  z0 := Tryz.sizeOf0
  v0 := Tryz.zeroValue0
  t3 := Tryz.underlying3
  a3 := Tryz.isAgg3
  z3 := Tryz.sizeOf3
  v3 := Tryz.zeroValue3
  t4 := Tryz.underlying4
  a4 := Tryz.isAgg4
  z4 := Tryz.sizeOf4
  v4 := Tryz.zeroValue4
  t5 := Tryz.underlying5
  a5 := Tryz.isAgg5
  z5 := Tryz.sizeOf5
  v5 := Tryz.zeroValue5
  t9 := Tryz.underlying9
  a9 := Tryz.isAgg9
  z9 := Tryz.sizeOf9
  v9 := Tryz.zeroValue9
  t21 := Tryz.underlying21
  a21 := Tryz.isAgg21
  z21 := Tryz.sizeOf21
  v21 := Tryz.zeroValue21
  t31 := Tryz.underlying22
  a31 := Tryz.isAgg22
  z31 := Tryz.sizeOf22
  v31 := Tryz.zeroValue22
  t46 := Tryz.underlying94
  a46 := Tryz.isAgg94
  z46 := Tryz.sizeOf94
  v46 := Tryz.zeroValue94
  t51 := Tryz.underlying118
  a51 := Tryz.isAgg118
  z51 := Tryz.sizeOf118
  v51 := Tryz.zeroValue118
  t105 := Tryz.underlying139
  a105 := Tryz.isAgg139
  z105 := Tryz.sizeOf139
  v105 := Tryz.zeroValue139
  t119 := Tryz.underlying141
  a119 := Tryz.isAgg141
  z119 := Tryz.sizeOf141
  t138 := Tryz.underlying143
  a138 := Tryz.isAgg143
  z138 := Tryz.sizeOf143
  v138 := Tryz.zeroValue143
  t139 := Tryz.underlying144
  a139 := Tryz.isAgg144
  z139 := Tryz.sizeOf144
  v139 := Tryz.zeroValue144
  t146 := Tryz.underlying133
  a146 := Tryz.isAgg133
  z146 := Tryz.sizeOf133
  v146 := Tryz.zeroValue133
  g1 := by kernel_rfl
  g3 := by kernel_rfl
  g4 := by kernel_rfl }
open Go.RowKit Go.Lib in
theorem Tryz.strings_Split (s sep : ByteArray) (m : Int) (w : World) (hs : s.size < 4294967281) (hm : w.cell? ⟨3, 0, none⟩ = some (.int .i64 m)) (h1 : 1 ≤ sep.size) :
    Calls Tryz.prog 111 #[.string s, .string sep] w fun e w' =>
      e = .returned (.slice (some ⟨w.heap.size, 0, none⟩) (Lib.countB s sep + 1) (Lib.countB s sep + 1)) ∧ w' = w.alloc (.cells ((Lib.splitB sep 0 (Lib.countB s sep) s).map Value.string).toArray 9) := Any.strings_Split Tryz.lays146 (by kernel_rfl) s sep m w hs hm h1
end Go.Proofs
