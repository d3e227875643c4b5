/- Texts of the proof, joined: Shelf, WordC, Range, WordR, WordJ, WordQ, TreeW, PathT, Glob, HostP. -/
import Derived.Shelf.Strings.Builder1
import Derived.Shelf.Strings.Trim
import Derived.Shelf.Small.Utf8
import Derived.Shelf.Small.Strs
import Derived.Shelf.Small.Wraps
import Derived.Shelf.Strings.BuilderF
import Derived.Shelf.Strings.BuilderK
import Derived.Shelf.Strconv.Atoi
import Derived.Shelf.Strconv.Itoa0
import Derived.Shelf.Strconv.Itoa1
import Derived.Shelf.LaysM
import Derived.Shelf.Strconv.Itoa2
import Derived.Shelf.Strconv.Itoa3
import Derived.Shelf.Strconv.AtoiErrFast
import Derived.Shelf.Strconv.ParseIntEmpty
import Derived.Shelf.Strconv.AtoiFail
import Derived.Shelf.Strconv.Clone
import Derived.Shelf.Strconv.SyntaxError
import Derived.Shelf.LaysC
import Derived.Shelf.Strconv.ToError
import Derived.Shelf.Strconv.AtoiErr
import Derived.Shelf.Strconv.ErrVar
import Derived.Shelf.Strconv.Lower
import Derived.Shelf.Strconv.ParseUint10
import Derived.Shelf.Strconv.ParseUint10Empty
import Derived.Shelf.Strconv.ParseUint10Any
import Derived.Shelf.Strconv.ParseInt10
import Derived.Shelf.Strconv.AtoiLong
import Derived.Shelf.Strconv.AtoiInnerAll
import Derived.Shelf.Strconv.RangeError
import Derived.Shelf.Strconv.ToErrorRange
import Derived.Shelf.Strconv.AtoiAll
import Derived.Shelf.Strconv.ErrVarAll
import Derived.Shelf.Strconv.ParseUintEmpty
import Derived.Shelf.Strconv.ParseUint10b64
import Derived.Shelf.Strconv.ParseUint10b32
import Derived.Shelf.Strconv.ParseUint10b16
import Derived.Shelf.Strconv.ParseUint10b8
import Derived.Shelf.Strconv.ParseUint10At
import Derived.Shelf.Strconv.ParseInt10At64
import Derived.Shelf.Strconv.ParseInt10At32
import Derived.Shelf.Strconv.ParseInt10At16
import Derived.Shelf.Strconv.ParseInt10At8
import Derived.Shelf.Strconv.ParseInt10All
import Derived.Shelf.Strings.Search1
import Derived.Shelf.Strings.Search2
import Derived.Shelf.Strings.Search3
import Derived.Shelf.Strings.Shaped
import Derived.Shelf.Strings.LastIndex
import Derived.Shelf.GgClosure.StringsIndexFunc
import Derived.Ground.GgwProg
import Derived.Shelf.GgClosure.StringsIndexFuncTop
import Derived.Shelf.GgClosure.StringsRunes
import Derived.Shelf.Strings.Prefix
import Derived.Shelf.Unicode.Decode
import Derived.Shelf.Strings.Runes
import Derived.Shelf.Strings.AsciiSet
import Derived.Shelf.Unicode.DecodeSlow
import Derived.Shelf.Unicode.DecodeAny
import Derived.Shelf.Unicode.DecodeLast
import Derived.Shelf.Strings.FieldsFuncAny
import Derived.Shelf.Strings.FuncGrows
import Derived.Shelf.Strings.FieldsFuncGrows
import Derived.Shelf.Strings.BuilderCap
import Derived.Shelf.Slices.Turned
import Derived.Ground.Names2Prog
import Derived.Shelf.Slices.Clone
import Derived.Shelf.Slices.SearchI
import Derived.Ground.SlgnProg
import Derived.Shelf.SlicesE.Clone
import Derived.Ground.SlgfProg
import Derived.Shelf.SlicesE.IndexFunc
import Derived.Ground.PaProg
import Derived.Shelf.Path.Small
import Derived.Test.YtpffdbplcgmilaaGreatDoorProg
import Derived.Test.YtpffdbplcgmilaaGreatDoorG9
import Derived.Shelf.Strings.SlTrimAscii
import Derived.RangeFuncFrom
import Derived.RangeFuncNested
import Derived.Test.YtpffdbplcgmilaaGreatDoorG1
import Derived.RangeFuncBound
import Derived.RangeFuncCalls
import Derived.RangeFuncLeaves
import Derived.RangeFuncBox
import Derived.Shelf.Abstract
import Derived.Shelf.RegionOpen
import Derived.WalkKit
import Derived.OwnWalkIn
import Derived.TacticsInMore
import Derived.LoopNIn
import Derived.LoopIn
import Derived.Maps.AppendAt
import Derived.Lib.Join
import Derived.Test.YtpffdbplcgmilaaGreatDoorG8
import Derived.Test.YtpffdbplcgmilaaGreatDoorG7
import Derived.Lib.LaidTab
import Derived.Lib.ItoaLen
import Derived.Lib.AppendIntMem
section
namespace Go.Proofs
open Go.Shelf
def Tryz.lays160_ren : Go.Shelf.Ren := ⟨fun | 160 => 165 | 232 => 204 | 231 => 203 | 227 => 205 | 234 => 207 | 233 => 206 | 236 => 209 | 235 => 208 | 228 => 226 | 271 => 229 | 151 => 228 | 197 => 227 | 120 => 240 | 152 => 239 | 260 => 238 | 137 => 70 | 119 => 245 | 224 => 156 | 225 => 155 | 217 => 104 | 266 => 125 | n => n, fun | 9 => 9 | 4 => 4 | 3 => 3 | 5 => 5 | 117 => 262 | 116 => 261 | 0 => 0 | 124 => 265 | 21 => 21 | 105 => 286 | 46 => 212 | 119 => 308 | 139 => 311 | 138 => 310 | n => n, fun | 3 => 6 | 4 => 7 | n => n⟩
theorem Tryz.lays160 : Go.Proofs.Lays.n160 Tryz.prog Tryz.lays160_ren := {
  mixed := by kernel_rfl
  f119 := Tryz.func245.trans (congrArg some (by kernel_rfl))
  f120 := Tryz.func240.trans (congrArg some (by kernel_rfl))
  f137 := Tryz.func70.trans (congrArg some (by kernel_rfl))
  f151 := Tryz.func228.trans (congrArg some (by kernel_rfl))
  f152 := Tryz.func239.trans (congrArg some (by kernel_rfl))
  f160 := Tryz.func165.trans (congrArg some (by kernel_rfl))
  f197 := Tryz.func227.trans (congrArg some (by kernel_rfl))
  f217 := Tryz.func104.trans (congrArg some (by kernel_rfl))
  f224 := Tryz.func156.trans (congrArg some (by kernel_rfl))
  f225 := Tryz.func155.trans (congrArg some (by kernel_rfl))
  f227 := Tryz.func205.trans (congrArg some (by kernel_rfl))
  f228 := Tryz.func226.trans (congrArg some (by kernel_rfl))
  f231 := Tryz.func203.trans (congrArg some (by kernel_rfl))
  f232 := Tryz.func204.trans (congrArg some (by kernel_rfl))
  f233 := Tryz.func206.trans (congrArg some (by kernel_rfl))
  f234 := Tryz.func207.trans (congrArg some (by kernel_rfl))
  f235 := Tryz.func208.trans (congrArg some (by kernel_rfl))
  f236 := Tryz.func209.trans (congrArg some (by kernel_rfl))
  f260 := Tryz.func238.trans (congrArg some (by kernel_rfl))
  f266 := Tryz.func125.trans (congrArg some (by kernel_rfl))
  f271 := Tryz.func229.trans (congrArg some (by kernel_rfl))
  t0 := Tryz.underlying0
  a0 := Tryz.isAgg0
  z0 := Tryz.sizeOf0
  v0 := Tryz.zeroValue0
  t3 := Tryz.underlying3
  a3 := Tryz.isAgg3
  z3 := Tryz.sizeOf3
  v3 := Tryz.zeroValue3
  t4 := Tryz.underlying4
  a4 := Tryz.isAgg4
  z4 := Tryz.sizeOf4
  v4 := Tryz.zeroValue4
  t5 := Tryz.underlying5
  a5 := Tryz.isAgg5
  z5 := Tryz.sizeOf5
  v5 := Tryz.zeroValue5
  t9 := Tryz.underlying9
  a9 := Tryz.isAgg9
  z9 := Tryz.sizeOf9
  v9 := Tryz.zeroValue9
  t21 := Tryz.underlying21
  a21 := Tryz.isAgg21
  z21 := Tryz.sizeOf21
  v21 := Tryz.zeroValue21
  t46 := Tryz.underlying212
  a46 := Tryz.isAgg212
  z46 := Tryz.sizeOf212
  v46 := Tryz.zeroValue212
  t105 := Tryz.underlying286
  a105 := Tryz.isAgg286
  z105 := Tryz.sizeOf286
  v105 := Tryz.zeroValue286
  t116 := Tryz.underlying261
  a116 := Tryz.isAgg261
  z116 := Tryz.sizeOf261
  t117 := Tryz.underlying262
  a117 := Tryz.isAgg262
  z117 := Tryz.sizeOf262
  v117 := Tryz.zeroValue262
  t119 := Tryz.underlying308
  a119 := Tryz.isAgg308
  z119 := Tryz.sizeOf308
  t124 := Tryz.underlying265
  a124 := Tryz.isAgg265
  z124 := Tryz.sizeOf265
  v124 := Tryz.zeroValue265
  t138 := Tryz.underlying310
  a138 := Tryz.isAgg310
  z138 := Tryz.sizeOf310
  v138 := Tryz.zeroValue310
  t139 := Tryz.underlying311
  a139 := Tryz.isAgg311
  z139 := Tryz.sizeOf311
  v139 := Tryz.zeroValue311
  g3 := by kernel_rfl
  g4 := by kernel_rfl }
def Tryz.lays137_ren : Go.Shelf.Ren := ⟨fun | 137 => 70 | 217 => 104 | 266 => 125 | n => n, fun | 9 => 9 | 5 => 5 | 3 => 3 | n => n, fun | n => n⟩
theorem Tryz.lays137 : Go.Proofs.Lays.n137 Tryz.prog Tryz.lays137_ren := {
  mixed := by kernel_rfl
  f137 := Tryz.func70.trans (congrArg some (by kernel_rfl))
  f217 := Tryz.func104.trans (congrArg some (by kernel_rfl))
  f266 := Tryz.func125.trans (congrArg some (by kernel_rfl))
  t3 := Tryz.underlying3
  a3 := Tryz.isAgg3
  z3 := Tryz.sizeOf3
  v3 := Tryz.zeroValue3
  t5 := Tryz.underlying5
  a5 := Tryz.isAgg5
  z5 := Tryz.sizeOf5
  v5 := Tryz.zeroValue5
  t9 := Tryz.underlying9
  a9 := Tryz.isAgg9
  z9 := Tryz.sizeOf9
  v9 := Tryz.zeroValue9 }
open Go.RowKit in
theorem Tryz.strings_IndexByte (s : ByteArray) (c : Int) (w : World) :
    Calls Tryz.prog 70 #[.string s, .int .u8 c] w fun e w' => e = .returned (.int .i64 (Lib.indexByte s.data.toList c.toNat.toUInt8)) ∧ w' = w := Any.strings_IndexByte Tryz.lays137 s c w
def Tryz.lays103_ren : Go.Shelf.Ren := ⟨fun | 103 => 32 | 210 => 69 | 206 => 93 | n => n, fun | 9 => 9 | 4 => 4 | 24 => 91 | 3 => 3 | n => n, fun | n => n⟩
def Tryz.lays129_ren : Go.Shelf.Ren := ⟨fun | 129 => 193 | n => n, fun | 53 => 204 | 3 => 3 | 4 => 4 | 46 => 212 | 5 => 5 | 9 => 9 | n => n, fun | n => n⟩
def Tryz.laysM171_ren : Go.Shelf.Ren := ⟨fun | 171 => 50 | 243 => 91 | 246 => 117 | 283 => 148 | 284 => 149 | 285 => 150 | 286 => 151 | 129 => 193 | 317 => 192 | 318 => 194 | 319 => 195 | 320 => 196 | 337 => 222 | 338 => 223 | n => n, fun | 3 => 3 | 9 => 9 | 2 => 2 | 4 => 4 | 171 => 203 | 0 => 0 | 53 => 204 | 37 => 81 | 5 => 5 | 173 => 207 | 212 => 247 | 51 => 248 | 20 => 20 | 213 => 249 | 46 => 212 | 232 => 299 | 233 => 300 | n => n, fun | 17 => 1 | 18 => 4 | 19 => 5 | n => n⟩
theorem Tryz.laysM171 : Go.Proofs.LaysM.n171 Tryz.prog Tryz.laysM171_ren := {
  mixed := by kernel_rfl
  f129 := Tryz.func193.trans (congrArg some (by kernel_rfl))
  f171 := Tryz.func50.trans (congrArg some (by kernel_rfl))
  f243 := Tryz.func91.trans (congrArg some (by kernel_rfl))
  f246 := Tryz.func117.trans (congrArg some (by kernel_rfl))
  f283 := Tryz.func148.trans (congrArg some (by kernel_rfl))
  f284 := Tryz.func149.trans (congrArg some (by kernel_rfl))
  f285 := Tryz.func150.trans (congrArg some (by kernel_rfl))
  f286 := Tryz.func151.trans (congrArg some (by kernel_rfl))
  f317 := Tryz.func192.trans (congrArg some (by kernel_rfl))
  f318 := Tryz.func194.trans (congrArg some (by kernel_rfl))
  f319 := Tryz.func195.trans (congrArg some (by kernel_rfl))
  f320 := Tryz.func196.trans (congrArg some (by kernel_rfl))
  f337 := Tryz.func222.trans (congrArg some (by kernel_rfl))
  f338 := Tryz.func223.trans (congrArg some (by kernel_rfl))
  t0 := Tryz.underlying0
  a0 := Tryz.isAgg0
  z0 := Tryz.sizeOf0
  v0 := Tryz.zeroValue0
  t2 := Tryz.underlying2
  a2 := Tryz.isAgg2
  z2 := Tryz.sizeOf2
  v2 := Tryz.zeroValue2
  t3 := Tryz.underlying3
  a3 := Tryz.isAgg3
  z3 := Tryz.sizeOf3
  v3 := Tryz.zeroValue3
  t4 := Tryz.underlying4
  a4 := Tryz.isAgg4
  z4 := Tryz.sizeOf4
  v4 := Tryz.zeroValue4
  t5 := Tryz.underlying5
  a5 := Tryz.isAgg5
  z5 := Tryz.sizeOf5
  v5 := Tryz.zeroValue5
  t9 := Tryz.underlying9
  a9 := Tryz.isAgg9
  z9 := Tryz.sizeOf9
  v9 := Tryz.zeroValue9
  t20 := Tryz.underlying20
  a20 := Tryz.isAgg20
  z20 := Tryz.sizeOf20
  v20 := Tryz.zeroValue20
  t37 := Tryz.underlying81
  a37 := Tryz.isAgg81
  z37 := Tryz.sizeOf81
  v37 := Tryz.zeroValue81
  t46 := Tryz.underlying212
  a46 := Tryz.isAgg212
  z46 := Tryz.sizeOf212
  v46 := Tryz.zeroValue212
  t51 := Tryz.underlying248
  a51 := Tryz.isAgg248
  z51 := Tryz.sizeOf248
  v51 := Tryz.zeroValue248
  t53 := Tryz.underlying204
  a53 := Tryz.isAgg204
  z53 := Tryz.sizeOf204
  v53 := Tryz.zeroValue204
  t171 := Tryz.underlying203
  a171 := Tryz.isAgg203
  z171 := Tryz.sizeOf203
  v171 := Tryz.zeroValue203
  t173 := Tryz.underlying207
  a173 := Tryz.isAgg207
  z173 := Tryz.sizeOf207
  v173 := Tryz.zeroValue207
  t212 := Tryz.underlying247
  a212 := Tryz.isAgg247
  z212 := Tryz.sizeOf247
  v212 := Tryz.zeroValue247
  t213 := Tryz.underlying249
  a213 := Tryz.isAgg249
  z213 := Tryz.sizeOf249
  t232 := Tryz.underlying299
  a232 := Tryz.isAgg299
  z232 := Tryz.sizeOf299
  v232 := Tryz.zeroValue299
  t233 := Tryz.underlying300
  a233 := Tryz.isAgg300
  z233 := Tryz.sizeOf300
  v233 := Tryz.zeroValue300
  g17 := by kernel_rfl
  g18 := by kernel_rfl
  g19 := by kernel_rfl
  i0 := by kernel_rfl
  i2 := by kernel_rfl
  i3 := by kernel_rfl
  i4 := by kernel_rfl
  i5 := by kernel_rfl
  i9 := by kernel_rfl
  i20 := by kernel_rfl
  i37 := by kernel_rfl
  i46 := by kernel_rfl
  i51 := by kernel_rfl
  i53 := by kernel_rfl
  i171 := by kernel_rfl
  i173 := by kernel_rfl
  i212 := by kernel_rfl
  i232 := by kernel_rfl
  i233 := by kernel_rfl
  m17 := by kernel_rfl
  m18 := by kernel_rfl
  m19 := by kernel_rfl }
open Go.RowKit Go.Sort Go.Lib in
theorem Tryz.strconv_Itoa (n : Int) (h0 : -9223372036854775808 ≤ n) (h1 : n ≤ 9223372036854775807) (w : World) (htab : Lib.TabIs Tryz.prog w "internal/strconv.uint64pow10" .u64 Lib.pow10Tab) :
    Calls Tryz.prog 50 #[.int .i64 n] w fun e w' => e = .returned (.string ⟨(Lib.itoa n).toArray⟩) ∧ ∃ k os, w' = grow (w.drewN k) os := Any.strconv_Itoa Tryz.laysM171 n h0 h1 w htab
def Tryz.laysC172_ren : Go.Shelf.Ren := ⟨fun | 172 => 105 | 244 => 126 | 245 => 127 | 247 => 159 | 279 => 160 | 280 => 161 | 281 => 162 | 282 => 163 | 287 => 200 | 316 => 201 | 171 => 50 | 205 => 202 | 321 => 224 | 322 => 225 | 243 => 91 | 246 => 117 | 283 => 148 | 284 => 149 | 285 => 150 | 286 => 151 | 129 => 193 | 317 => 192 | 318 => 194 | 319 => 195 | 320 => 196 | 337 => 222 | 338 => 223 | n => n, fun | 9 => 9 | 3 => 3 | 75 => 85 | 76 => 86 | 4 => 4 | 5 => 5 | 167 => 213 | 37 => 81 | 0 => 0 | 85 => 214 | 2 => 2 | 168 => 216 | 53 => 204 | 175 => 254 | 46 => 212 | 210 => 257 | 127 => 132 | 145 => 285 | 143 => 283 | 21 => 21 | 171 => 203 | 173 => 207 | 212 => 247 | 51 => 248 | 20 => 20 | 213 => 249 | 232 => 299 | 233 => 300 | 80 => 88 | n => n, fun | 15 => 2 | 16 => 3 | 17 => 1 | 18 => 4 | 19 => 5 | n => n⟩
theorem Tryz.laysC172 : Go.Proofs.LaysC.n172 Tryz.prog Tryz.laysC172_ren := {
  mixed := by kernel_rfl
  f129 := Tryz.func193.trans (congrArg some (by kernel_rfl))
  f171 := Tryz.func50.trans (congrArg some (by kernel_rfl))
  f172 := Tryz.func105.trans (congrArg some (by kernel_rfl))
  f205 := Tryz.func202.trans (congrArg some (by kernel_rfl))
  f243 := Tryz.func91.trans (congrArg some (by kernel_rfl))
  f244 := Tryz.func126.trans (congrArg some (by kernel_rfl))
  f245 := Tryz.func127.trans (congrArg some (by kernel_rfl))
  f246 := Tryz.func117.trans (congrArg some (by kernel_rfl))
  f247 := Tryz.func159.trans (congrArg some (by kernel_rfl))
  f279 := Tryz.func160.trans (congrArg some (by kernel_rfl))
  f280 := Tryz.func161.trans (congrArg some (by kernel_rfl))
  f281 := Tryz.func162.trans (congrArg some (by kernel_rfl))
  f282 := Tryz.func163.trans (congrArg some (by kernel_rfl))
  f283 := Tryz.func148.trans (congrArg some (by kernel_rfl))
  f284 := Tryz.func149.trans (congrArg some (by kernel_rfl))
  f285 := Tryz.func150.trans (congrArg some (by kernel_rfl))
  f286 := Tryz.func151.trans (congrArg some (by kernel_rfl))
  f287 := Tryz.func200.trans (congrArg some (by kernel_rfl))
  f316 := Tryz.func201.trans (congrArg some (by kernel_rfl))
  f317 := Tryz.func192.trans (congrArg some (by kernel_rfl))
  f318 := Tryz.func194.trans (congrArg some (by kernel_rfl))
  f319 := Tryz.func195.trans (congrArg some (by kernel_rfl))
  f320 := Tryz.func196.trans (congrArg some (by kernel_rfl))
  f321 := Tryz.func224.trans (congrArg some (by kernel_rfl))
  f322 := Tryz.func225.trans (congrArg some (by kernel_rfl))
  f337 := Tryz.func222.trans (congrArg some (by kernel_rfl))
  f338 := Tryz.func223.trans (congrArg some (by kernel_rfl))
  t0 := Tryz.underlying0
  a0 := Tryz.isAgg0
  z0 := Tryz.sizeOf0
  v0 := Tryz.zeroValue0
  t2 := Tryz.underlying2
  a2 := Tryz.isAgg2
  z2 := Tryz.sizeOf2
  v2 := Tryz.zeroValue2
  t3 := Tryz.underlying3
  a3 := Tryz.isAgg3
  z3 := Tryz.sizeOf3
  v3 := Tryz.zeroValue3
  t4 := Tryz.underlying4
  a4 := Tryz.isAgg4
  z4 := Tryz.sizeOf4
  v4 := Tryz.zeroValue4
  t5 := Tryz.underlying5
  a5 := Tryz.isAgg5
  z5 := Tryz.sizeOf5
  v5 := Tryz.zeroValue5
  t9 := Tryz.underlying9
  a9 := Tryz.isAgg9
  z9 := Tryz.sizeOf9
  v9 := Tryz.zeroValue9
  t20 := Tryz.underlying20
  a20 := Tryz.isAgg20
  z20 := Tryz.sizeOf20
  v20 := Tryz.zeroValue20
  t21 := Tryz.underlying21
  a21 := Tryz.isAgg21
  z21 := Tryz.sizeOf21
  v21 := Tryz.zeroValue21
  t37 := Tryz.underlying81
  a37 := Tryz.isAgg81
  z37 := Tryz.sizeOf81
  v37 := Tryz.zeroValue81
  t46 := Tryz.underlying212
  a46 := Tryz.isAgg212
  z46 := Tryz.sizeOf212
  v46 := Tryz.zeroValue212
  t51 := Tryz.underlying248
  a51 := Tryz.isAgg248
  z51 := Tryz.sizeOf248
  v51 := Tryz.zeroValue248
  t53 := Tryz.underlying204
  a53 := Tryz.isAgg204
  z53 := Tryz.sizeOf204
  v53 := Tryz.zeroValue204
  t75 := Tryz.underlying85
  a75 := Tryz.isAgg85
  z75 := Tryz.sizeOf85
  v75 := Tryz.zeroValue85
  t76 := Tryz.underlying86
  a76 := Tryz.isAgg86
  z76 := Tryz.sizeOf86
  v76 := Tryz.zeroValue86
  t85 := Tryz.underlying214
  a85 := Tryz.isAgg214
  z85 := Tryz.sizeOf214
  v85 := Tryz.zeroValue214
  t127 := Tryz.underlying132
  a127 := Tryz.isAgg132
  z127 := Tryz.sizeOf132
  v127 := Tryz.zeroValue132
  t143 := Tryz.underlying283
  a143 := Tryz.isAgg283
  z143 := Tryz.sizeOf283
  v143 := Tryz.zeroValue283
  t145 := Tryz.underlying285
  a145 := Tryz.isAgg285
  z145 := Tryz.sizeOf285
  v145 := Tryz.zeroValue285
  t167 := Tryz.underlying213
  a167 := Tryz.isAgg213
  z167 := Tryz.sizeOf213
  v167 := Tryz.zeroValue213
  t168 := Tryz.underlying216
  a168 := Tryz.isAgg216
  z168 := Tryz.sizeOf216
  v168 := Tryz.zeroValue216
  t171 := Tryz.underlying203
  a171 := Tryz.isAgg203
  z171 := Tryz.sizeOf203
  v171 := Tryz.zeroValue203
  t173 := Tryz.underlying207
  a173 := Tryz.isAgg207
  z173 := Tryz.sizeOf207
  v173 := Tryz.zeroValue207
  t175 := Tryz.underlying254
  a175 := Tryz.isAgg254
  z175 := Tryz.sizeOf254
  v175 := Tryz.zeroValue254
  t210 := Tryz.underlying257
  a210 := Tryz.isAgg257
  z210 := Tryz.sizeOf257
  v210 := Tryz.zeroValue257
  t212 := Tryz.underlying247
  a212 := Tryz.isAgg247
  z212 := Tryz.sizeOf247
  v212 := Tryz.zeroValue247
  t213 := Tryz.underlying249
  a213 := Tryz.isAgg249
  z213 := Tryz.sizeOf249
  t232 := Tryz.underlying299
  a232 := Tryz.isAgg299
  z232 := Tryz.sizeOf299
  v232 := Tryz.zeroValue299
  t233 := Tryz.underlying300
  a233 := Tryz.isAgg300
  z233 := Tryz.sizeOf300
  v233 := Tryz.zeroValue300
  g15 := by kernel_rfl
  g16 := by kernel_rfl
  g17 := by kernel_rfl
  g18 := by kernel_rfl
  g19 := by kernel_rfl
  t80 := Tryz.underlying88
  a80 := Tryz.isAgg88
  z80 := Tryz.sizeOf88
  v80 := Tryz.zeroValue88
  i0 := by kernel_rfl
  i2 := by kernel_rfl
  i3 := by kernel_rfl
  i4 := by kernel_rfl
  i5 := by kernel_rfl
  i9 := by kernel_rfl
  i20 := by kernel_rfl
  i21 := by kernel_rfl
  i37 := by kernel_rfl
  i46 := by kernel_rfl
  i51 := by kernel_rfl
  i53 := by kernel_rfl
  i75 := by kernel_rfl
  i76 := by kernel_rfl
  i80 := by kernel_rfl
  i85 := by kernel_rfl
  i127 := by kernel_rfl
  i143 := by kernel_rfl
  i145 := by kernel_rfl
  i167 := by kernel_rfl
  i168 := by kernel_rfl
  i171 := by kernel_rfl
  i173 := by kernel_rfl
  i175 := by kernel_rfl
  i210 := by kernel_rfl
  i212 := by kernel_rfl
  i232 := by kernel_rfl
  i233 := by kernel_rfl
  m15 := by kernel_rfl
  m16 := by kernel_rfl
  m17 := by kernel_rfl
  m18 := by kernel_rfl
  m19 := by kernel_rfl
  c0 := by kernel_rfl
  c2 := by kernel_rfl
  c3 := by kernel_rfl
  c4 := by kernel_rfl
  c5 := by kernel_rfl
  c9 := by kernel_rfl
  c20 := by kernel_rfl
  c21 := by kernel_rfl
  c37 := by kernel_rfl
  c46 := by kernel_rfl
  c51 := by kernel_rfl
  c53 := by kernel_rfl
  c75 := by kernel_rfl
  c76 := by kernel_rfl
  c80 := by kernel_rfl
  c85 := by kernel_rfl
  c127 := by kernel_rfl
  c143 := by kernel_rfl
  c145 := by kernel_rfl
  c167 := by kernel_rfl
  c168 := by kernel_rfl
  c171 := by kernel_rfl
  c173 := by kernel_rfl
  c175 := by kernel_rfl
  c210 := by kernel_rfl
  c212 := by kernel_rfl
  c213 := by kernel_rfl
  c232 := by kernel_rfl
  c233 := by kernel_rfl }
open Go.RowKit in
theorem Tryz.strconv_Atoi_ok (s : ByteArray) (hmax : s.size ≤ 9223372036854775806) (v : Int) (h : Lib.atoiAll s.data.toList = .ok v) (w : World) :
    Calls Tryz.prog 105 #[.string s] w fun e w' => e = .returned (.tuple #[.int .i64 v, .nilIface]) ∧ (w' = w ∨ ∃ t, w' = Lib.bytesWorld w 5 t) := Any.strconv_Atoi_ok Tryz.laysC172 s hmax v h w
open Go.RowKit in
theorem Tryz.strconv_Atoi_syntax (s : ByteArray) (hlim : s.size ≤ 281474976710656) (h : (∀ v, Lib.atoiAll s.data.toList ≠ .ok v) ∧ Lib.atoiAll s.data.toList ≠ .range) (ev : Value) (w : World) (hv : w.cell? ⟨2, 0, none⟩ = some ev) (hev : ev = .nilIface ∨ ∃ te pe, ev = .iface te pe) :
    Calls Tryz.prog 105 #[.string s] w fun e w' => ∃ N, e = .returned (.tuple #[.int .i64 (0), .iface 216 (.pointer (some ⟨N, 0, none⟩))]) ∧ w.heap.size ≤ N ∧ w'.heap[N]? = some (.cells #[.string ⟨#[65, 116, 111, 105]⟩, .string s, ev] 257 (0, 0)) ∧ Below w.heap.size w w' := Any.strconv_Atoi_syntax Tryz.laysC172 s hlim (by rcases he : Lib.atoiAll s.data.toList with v | _ | _ <;> first | rfl | exact absurd he (h.1 v) | exact absurd he h.2) ev w hv hev
open Go.RowKit in
theorem Tryz.strconv_Atoi_range (s : ByteArray) (hlim : s.size ≤ 281474976710656) (h : Lib.atoiAll s.data.toList = .range) (ev : Value) (w : World) (hv : w.cell? ⟨3, 0, none⟩ = some ev) (hev : ev = .nilIface ∨ ∃ te pe, ev = .iface te pe) :
    Calls Tryz.prog 105 #[.string s] w fun e w' => ∃ N, e = .returned (.tuple #[.int .i64 (Lib.atoiSat s.data.toList), .iface 216 (.pointer (some ⟨N, 0, none⟩))]) ∧ w.heap.size ≤ N ∧ w'.heap[N]? = some (.cells #[.string ⟨#[65, 116, 111, 105]⟩, .string s, ev] 257 (0, 0)) ∧ Below w.heap.size w w' := Any.strconv_Atoi_range Tryz.laysC172 s hlim h ev w hv hev
def Tryz.lays143_ren : Go.Shelf.Ren := ⟨fun | 143 => 96 | 219 => 121 | 217 => 104 | 225 => 155 | 224 => 156 | 267 => 157 | 266 => 125 | 314 => 198 | n => n, fun | 9 => 9 | 3 => 3 | 4 => 4 | 5 => 5 | 46 => 212 | 146 => 252 | 51 => 248 | n => n, fun | 1 => 0 | n => n⟩
def Tryz.lays144_ren : Go.Shelf.Ren := ⟨fun | 144 => 56 | 143 => 96 | 219 => 121 | 217 => 104 | 225 => 155 | 224 => 156 | 267 => 157 | 266 => 125 | 314 => 198 | n => n, fun | 9 => 9 | 4 => 4 | 3 => 3 | 5 => 5 | 46 => 212 | 146 => 252 | 51 => 248 | n => n, fun | 1 => 0 | n => n⟩
theorem Tryz.lays144 : Go.Proofs.Lays.n144 Tryz.prog Tryz.lays144_ren := {
  mixed := by kernel_rfl
  f143 := Tryz.func96.trans (congrArg some (by kernel_rfl))
  f144 := Tryz.func56.trans (congrArg some (by kernel_rfl))
  f217 := Tryz.func104.trans (congrArg some (by kernel_rfl))
  f219 := Tryz.func121.trans (congrArg some (by kernel_rfl))
  f224 := Tryz.func156.trans (congrArg some (by kernel_rfl))
  f225 := Tryz.func155.trans (congrArg some (by kernel_rfl))
  f266 := Tryz.func125.trans (congrArg some (by kernel_rfl))
  f267 := Tryz.func157.trans (congrArg some (by kernel_rfl))
  f314 := Tryz.func198.trans (congrArg some (by kernel_rfl))
  t3 := Tryz.underlying3
  a3 := Tryz.isAgg3
  z3 := Tryz.sizeOf3
  v3 := Tryz.zeroValue3
  t4 := Tryz.underlying4
  a4 := Tryz.isAgg4
  z4 := Tryz.sizeOf4
  v4 := Tryz.zeroValue4
  t5 := Tryz.underlying5
  a5 := Tryz.isAgg5
  z5 := Tryz.sizeOf5
  v5 := Tryz.zeroValue5
  t9 := Tryz.underlying9
  a9 := Tryz.isAgg9
  z9 := Tryz.sizeOf9
  v9 := Tryz.zeroValue9
  t46 := Tryz.underlying212
  a46 := Tryz.isAgg212
  z46 := Tryz.sizeOf212
  v46 := Tryz.zeroValue212
  t51 := Tryz.underlying248
  a51 := Tryz.isAgg248
  z51 := Tryz.sizeOf248
  v51 := Tryz.zeroValue248
  t146 := Tryz.underlying252
  a146 := Tryz.isAgg252
  z146 := Tryz.sizeOf252
  v146 := Tryz.zeroValue252
  g1 := by kernel_rfl }
open Go.RowKit Go.Lib in
theorem Tryz.strings_Contains_one (s : ByteArray) (c : UInt8) (w : World) :
    Calls Tryz.prog 56 #[.string s, .string ⟨#[c]⟩] w fun e w' => e = .returned (.bool (decide (0 ≤ Lib.indexByte s.data.toList c))) ∧ w' = w := Any.strings_Contains_one Tryz.lays144 s c w
def Tryz.laysM219_ren : Go.Shelf.Ren := ⟨fun | 219 => 121 | 217 => 104 | 225 => 155 | 224 => 156 | 267 => 157 | 266 => 125 | 314 => 198 | n => n, fun | 9 => 9 | 3 => 3 | 4 => 4 | 5 => 5 | 46 => 212 | 146 => 252 | 51 => 248 | n => n, fun | 1 => 0 | n => n⟩
def Tryz.lays100_ren : Go.Shelf.Ren := ⟨fun | 100 => 100 | 207 => 124 | n => n, fun | 9 => 9 | 4 => 4 | 3 => 3 | n => n, fun | n => n⟩
theorem Tryz.lays100 : Go.Proofs.Lays.n100 Tryz.prog Tryz.lays100_ren := {
  mixed := by kernel_rfl
  f100 := Tryz.func100.trans (congrArg some (by kernel_rfl))
  f207 := Tryz.func124.trans (congrArg some (by kernel_rfl))
  t3 := Tryz.underlying3
  a3 := Tryz.isAgg3
  z3 := Tryz.sizeOf3
  v3 := Tryz.zeroValue3
  t4 := Tryz.underlying4
  a4 := Tryz.isAgg4
  z4 := Tryz.sizeOf4
  v4 := Tryz.zeroValue4
  t9 := Tryz.underlying9
  a9 := Tryz.isAgg9
  z9 := Tryz.sizeOf9
  v9 := Tryz.zeroValue9 }
open Go.RowKit Go.Lib in
theorem Tryz.strings_HasSuffix (s p : ByteArray) (w : World) (hs : s.size ≤ 9223372036854775807) :
    Calls Tryz.prog 100 #[.string s, .string p] w fun e w' => e = .returned (.bool (Lib.hasSuffix s.data.toList p.data.toList)) ∧ w' = w := Any.strings_HasSuffix Tryz.lays100 s p w hs
def Tryz.lays107_ren : Go.Shelf.Ren := ⟨fun | 107 => 63 | 108 => 101 | n => n, fun | 28 => 31 | 3 => 3 | 4 => 4 | 0 => 0 | n => n, fun | n => n⟩
def Tryz.laysNm215_ren : Go.Shelf.Ren := ⟨fun | 15 => 85 | n => n, fun | 22 => 31 | 3 => 3 | 4 => 4 | n => n, fun | n => n⟩
def Tryz.laysPa45_ren : Go.Shelf.Ren := ⟨fun | 45 => 211 | n => n, fun | 9 => 9 | 5 => 5 | 3 => 3 | 4 => 4 | n => n, fun | n => n⟩
theorem Tryz.laysPa45 : Go.Proofs.Lays.p45 Tryz.prog Tryz.laysPa45_ren := {
  mixed := by kernel_rfl
  f45 := Tryz.func211.trans (congrArg some (by kernel_rfl))
  t3 := Tryz.underlying3
  a3 := Tryz.isAgg3
  z3 := Tryz.sizeOf3
  v3 := Tryz.zeroValue3
  t4 := Tryz.underlying4
  a4 := Tryz.isAgg4
  z4 := Tryz.sizeOf4
  v4 := Tryz.zeroValue4
  t5 := Tryz.underlying5
  a5 := Tryz.isAgg5
  z5 := Tryz.sizeOf5
  v5 := Tryz.zeroValue5
  t9 := Tryz.underlying9
  a9 := Tryz.isAgg9
  z9 := Tryz.sizeOf9
  v9 := Tryz.zeroValue9 }
open Go.RowKit Go.Lib in
theorem Tryz.bytealg_LastIndexByteString (s : ByteArray) (c : UInt8) (w : World) (hs : s.size ≤ 9223372036854775807) :
    Calls Tryz.prog 211 #[.string s, .int .u8 c.toNat] w fun e w' => e = .returned (.int .i64 (Pa.lastIndexByte s.data.toList c)) ∧ w' = w := Any.bytealg_LastIndexByteString Tryz.laysPa45 s c w hs
end Go.Proofs
end

section
namespace Go.Proofs.YtpffdbplcgmilaaGreatDoor.WordC
open Go.RowKit Mem WordP OneB WordW WordS

theorem strTrim_any (s : ByteArray) (w : World) (hs : s.size ≤ 4611686018427387904) :
    Calls Tryz.prog 165 #[.string s, .string ⟨#[32, 9]⟩] w (Gives (.string (str (trim s.data.toList))) w) := by
  have h := Any.strings_Trim_laid Tryz.lays160 (by kernel_rfl) s ⟨#[32, 9]⟩ w (by omega) (by decide) (ascii_of_all (by decide))
  rw [trimS_eq] at h
  exact h
theorem trim_any (s : ByteArray) (w : World) (hs : s.size ≤ 4611686018427387904) :
    Calls Tryz.prog 129 #[.string s] w (Gives (.string (str (trim s.data.toList))) w) := by
  have CT := Lib.hid (fun w' => strTrim_any s w' hs)
  go_enter Tryz.func129, Tryz.ntmps129
  go_wp2_with fail
  with_reducible refine (CT.out _).mono ?_
  rintro e w1 ⟨rfl, hb1⟩
  go_wp2_with fail
  go_ret
  exact ⟨rfl, hb1⟩
theorem index_any (s : ByteArray) (c : UInt8) (w : World) :
    Calls Tryz.prog 70 #[.string s, .int .u8 c.toNat] w (fun e w' => e = .returned (.int .i64 (Lib.indexByte s.data.toList c)) ∧ w = w') := by
  have h := Tryz.strings_IndexByte s c.toNat w
  have e : ((c.toNat : Int)).toNat.toUInt8 = c := by simp
  rw [e] at h
  exact h.mono fun _ _ h => ⟨h.1, h.2.symm⟩
/-- What Cut says. -/
def cut (c : UInt8) (l : List UInt8) : List UInt8 × List UInt8 × Bool :=
  if l.contains c then (l.take (Lib.indexByte l c).toNat, l.drop ((Lib.indexByte l c).toNat + 1), true) else (l, [], false)
theorem cut_none {c : UInt8} {l : List UInt8} (h : l.contains c = false) : cut c l = (l, [], false) := by unfold cut; rw [h]; rfl
theorem cut_at {c : UInt8} {a r : List UInt8} (h : a.contains c = false) : cut c (a ++ c :: r) = (a, r, true) := by
  unfold cut
  rw [index_at a r c h, if_pos (by simp)]
  simp
theorem ext_drop (s : ByteArray) (k : Nat) : s.extract k s.size = str (s.data.toList.drop k) := by
  apply ByteArray.ext; apply Array.ext'
  simp [str, ByteArray.data_extract]
  exact List.take_of_length_le (by simp)
theorem ext_take (s : ByteArray) (k : Nat) : s.extract 0 k = str (s.data.toList.take k) := by
  apply ByteArray.ext; apply Array.ext'
  simp [str, ByteArray.data_extract]
def Cuts (p : List UInt8 × List UInt8 × Bool) (w : World) (e : Ending) (w' : World) : Prop := e = .returned (.tuple #[.string (str p.1), .string (str p.2.1), .bool p.2.2]) ∧ Below w.heap.size w w'
theorem cut_any (s : ByteArray) (c : UInt8) (w : World) (hs : s.size ≤ 4611686018427387904) :
    Calls Tryz.prog 33 #[.string s, .int .u8 c.toNat] w (Cuts (cut c s.data.toList) w) := by
  have CI := Lib.hid (fun w' => index_any s c w')
  rcases first_at c s.data.toList with h | ⟨a, r, hl, h⟩
  · rw [index_none _ _ h] at CI
    rw [cut_none h]
    have hst : str s.data.toList = s := mkB s
    have HS := Lib.hid hst
    clear h hst
    go_enter Tryz.func33, Tryz.ntmps33
    go_wp2_with fail
    with_reducible refine (CI.out _).mono ?_
    rintro e w1 ⟨rfl, rfl⟩
    go_wp2_with fail
    go_ret3
    refine ⟨?_, Below.refl _ _⟩
    show _ = Ending.returned (.tuple #[.string (str s.data.toList), .string (str []), .bool false])
    rw [HS.out]
    rfl
  · have hz : a.length + 1 + r.length = s.size := by
      have : s.data.toList.length = s.size := by simp
      rw [hl] at this; simp at this; omega
    have hix : Lib.indexByte s.data.toList c = (a.length : Int) := by rw [hl]; exact index_at a r c h
    have he1 : s.extract 0 a.length = str a := by rw [ext_take, hl]; simp
    have he2 : s.extract (a.length + 1) s.size = str r := by rw [ext_drop, hl]; simp
    have hcut : cut c s.data.toList = (a, r, true) := by rw [hl]; exact cut_at h
    rw [hix] at CI
    rw [hcut]
    have H1 := Lib.hid he1; have H2 := Lib.hid he2
    clear he1 he2 hcut hix hl h
    generalize a.length = n at hz H1 H2 CI
    have hw1 : (0 : Int) ≤ (n : Int) := by omega
    have hw2 : (n : Int) ≤ (s.size : Int) := by omega
    have hw3 : (n : Int) + 1 ≤ (s.size : Int) := by omega
    go_enter Tryz.func33, Tryz.ntmps33
    go_wp2_with fail
    with_reducible refine (CI.out _).mono ?_
    rintro e w1 ⟨rfl, rfl⟩
    go_wp2_with fail
    go_quiet (fail)
    go_wp2_with fail
    go_ret3
    refine ⟨?_, ⟨rfl, rfl, rfl, Nat.le_refl _, fun _ _ => rfl⟩⟩
    show _ = Ending.returned (.tuple #[.string (str a), .string (str r), .bool true])
    rw [← H1.out, ← H2.out]
    rfl
end Go.Proofs.YtpffdbplcgmilaaGreatDoor.WordC
end

section
namespace Go.Proofs.YtpffdbplcgmilaaGreatDoor.Range
open Go.RowKit
section
variable {α : Type} {F : Fence} {n : Nat} {P : Program}

/-- It stands while blocks are made and block b turns. -/
def Lets (b : Nat) (J : List α → World → Prop) : Prop := ∀ xs W W' row, J xs W → W.grownBy W' row → (row = none ∨ row = some b) → J xs W'
/-- The iterator's word: it hands out what S says, one by one; between the rounds it turns block b alone; it reads blocks of K. -/
def Hands (F : Fence) (n : Nat) (P : Program) (g : Nat) (lb : Array Value) (encs : α → Array Value) (b : Nat) (K : Nat → Prop) (S : List α → Prop) (N : Nat) (w : World) : Prop :=
  ∀ (l : Nat) (J : List α → World → Prop) (W : World), (∀ k, K k → W.heap[k]? = w.heap[k]?) → w.heap.size ≤ W.heap.size → Lets b J →
    (∀ pre x V, J pre V → pre.length < N → YieldAt F (n - 1) P l (encs x) V fun e V' => e = .returned (.bool true) ∧ J (pre ++ [x]) V' ∧ (∀ k, K k → V'.heap[k]? = V.heap[k]?) ∧ V.heap.size ≤ V'.heap.size) →
    J [] W → CallsIn F n P g (#[.func (.yield l) #[] #[]] ++ lb) W fun e W' => (∃ v, e = .returned v) ∧ ∃ xs, S xs ∧ J xs W'
/-- What the caller says of its own: it stands while block b turns, and what is no cells from block B on. -/
def Mine (b B : Nat) (I : List α → World → Prop) : Prop := ∀ xs W W' row, I xs W → W.grownBy W' row → (∀ r, row = some r → r = b ∨ (B ≤ r ∧ ∃ o : Obj, W.heap[r]? = some o ∧ o.isCells = false)) → I xs W'
/-- The body's end. -/
def Round (K : Nat → Prop) (I : List α → World → Prop) (xs : List α) (W : World) : Exit → Act → World → Prop
  | .normal, _, W' => KeepsOthers W W' ∧ (∀ k, K k → W'.heap[k]? = W.heap[k]?) ∧ I xs W'
  | _, _, _ => False
theorem Mine.put {b B l : Nat} {I : List α → World → Prop} (h : Mine b B I) {xs : List α} {W : World} {o : Obj} (o' : Obj) (hi : I xs W) (hB : B ≤ l) (hl : W.heap[l]? = some o) (ho : o.isCells = false) : I xs (W.putObj l o') :=
  h xs W _ (some l) hi (grownBy_putObj' W l o') (fun r e => by cases e; exact .inr ⟨hB, o, hl, ho⟩)
theorem Mine.new {b B : Nat} {I : List α → World → Prop} (h : Mine b B I) {xs : List α} {W : World} (o : Obj) (hi : I xs W) : I xs (W.alloc o) :=
  h xs W _ none hi (World.grownBy_alloc W o none) (fun r e => by cases e)
theorem kept_of {W W' : World} {row : Option Nat} {b k : Nat} (g : W.grownBy W' row) (hr : row = none ∨ row = some b) (hk : k < W.heap.size) (hb : k ≠ b) : W'.heap[k]? = W.heap[k]? :=
  g.block k hk (fun e => by rcases hr with h | h <;> rw [h] at e <;> cases e; exact hb rfl)
theorem lt_of {W : World} {k : Nat} {o : Obj} (h : W.heap[k]? = some o) : k < W.heap.size := (Array.getElem?_eq_some_iff.1 h).1

theorem range_hands {g : Operand} {ps : Array Tmp} {assign body : Code} {Q : Exit → Act → World → Prop} {a : Act} {w : World}
    (hro : F.round = none) (h1 : 1 ≤ n) {gf : Nat} {lb : Array Value} (hg : a.eval g = .func (.func gf) #[] lb) (hFg : F.fn gf) (eg : ∀ args w, (callFunc gf args).run P w = .ok (.enter gf args) w)
    {encs : α → Array Value} {b : Nat} {K : Nat → Prop} {S : List α → Prop} {N : Nat} (hb : K b) (hK : ∀ k, K k → k < w.heap.size) (hseq : Hands F (n - 1) P gf lb encs b K S N w) (hps : ∀ x, (encs x).size = ps.size)
    (I : List α → World → Prop) (hI : Mine b w.heap.size I) (h0 : I [] w) (a₁ : α → Act)
    (hassign : ∀ (l : Nat) (x : α) (W : World) (K : Act → World → Prop), K (a₁ x) W →
      assign.wpIn (F.inRound l) (n - 1 - 1) P (Exit.then K (fun _ _ _ => False)) { tmps := (ps.zip (encs x)).foldl (fun t (p, v) => t.setIfInBounds p v) a.tmps, defers := [] } W)
    (hbody : ∀ (l : Nat) (pre : List α) (x : α) (W : World), I pre W → pre.length < N → w.heap.size ≤ W.heap.size → body.wpIn (F.inRound l) (n - 1 - 1) P (Round K I (pre ++ [x]) W) (a₁ x) W)
    (hdone : ∀ (D : Nat) (xs : List α) (W : World), w.heap.size ≤ D → S xs → I xs W → W.heap[D]? = some (.deferred (some [])) → Q .normal { a with defers := { target := .collected D, args := #[] } :: a.defers } W) :
    (Code.rangeFunc g ps assign body).wpIn F n P Q a w := by
  refine wpIn_rangeFunc fun fn hfn => ?_
  rw [hro]
  have hbz := hK b hb
  generalize hD : w.heap.size = D at hI hdone hbody
  have recE : ∃ rec : LoopState → Option Code → Loop, rec = fun st pe => { state := st, pending := pe, fn, tmps := a.tmps, params := ps, assign, body, defers := D } := ⟨_, rfl⟩
  obtain ⟨rec, hrec⟩ := recE
  obtain ⟨V, hV⟩ : ∃ V, V = (w.alloc (.deferred (some []))).alloc (.loop (rec .ready none)) := ⟨_, rfl⟩
  have vD : V.heap[D]? = some (.deferred (some [])) := by
    rw [hV, ← hD]; exact (Below.heap_alloc _ _ _ (by simp)).trans (World.alloc_heap_new w _)
  have vL : V.heap[D + 1]? = some (.loop (rec .ready none)) := by
    have h := World.alloc_heap_new (w.alloc (.deferred (some []))) (.loop (rec .ready none))
    rw [World.size_alloc, hD] at h
    rw [hV]; exact h
  have vI : I [] V := by rw [hV]; exact hI.new _ (hI.new _ h0)
  have vb : ∀ k, K k → V.heap[k]? = w.heap[k]? := fun k hk => by
    have hkz := hK k hk
    rw [hV]; exact (Below.heap_alloc _ _ _ (by simp; omega)).trans (Below.heap_alloc _ _ _ hkz)
  have vz : w.heap.size ≤ V.heap.size := by rw [hV]; simp; omega
  refine ⟨D + 1, [{ target := .collected D, args := #[] }], V, { target := .fn (.func gf) lb, args := #[.func (.yield (D + 1)) #[] #[]] }, V, gf, #[.func (.yield (D + 1)) #[] #[]] ++ lb, V, ?_, ?_, ?_, ?_, fun _ => h1, ?_⟩
  · rw [hV, hrec, ← hD]; exact run_enterLoop_outer _ _ _ _ _
  · simp only [resolve, hg]
    simp [go_sem]
  · intro f' hf'
    simp [Target.leads] at hf'
    subst hf'
    exact hFg
  · simp [invoke, go_sem, eg]
  have hbD : b < D := by omega
  refine (hseq (D + 1) (fun xs W => (I xs W ∧ w.heap.size ≤ W.heap.size) ∧ W.heap[D + 1]? = some (.loop (rec .ready none)) ∧ W.heap[D]? = some (.deferred (some []))) V vb vz ?_ ?_ ⟨⟨vI, vz⟩, vL, vD⟩).mono ?_
  · rintro xs A B row ⟨⟨hi, hz⟩, hl, hd⟩ gr hr
    refine ⟨⟨hI xs A B row hi gr (fun r e => ?_), Nat.le_trans hz gr.size⟩, ?_, ?_⟩
    · rcases hr with h | h <;> rw [h] at e <;> cases e
      exact .inl rfl
    · rw [kept_of gr hr (lt_of hl) (by omega)]; exact hl
    · rw [kept_of gr hr (lt_of hd) (by omega)]; exact hd
  · rintro pre x W ⟨⟨hi, hz⟩, hl, hd⟩ hlen
    have hlt := lt_of hl
    have hy := run_yield (P := P) (args := encs x) hl (by rw [hrec]; exact hps x)
    rw [hrec] at hy
    refine ⟨fn, _, assign, body, hy, roundIn_of_wpIn hfn (hassign _ x W _ ⟨_, run_beginRound hl (by rw [hrec]), ?_⟩)⟩
    have b1 : (W.putObj (D + 1) (.loop { rec .ready none with state := .busy })).heap[D + 1]? = some (.loop { rec .ready none with state := .busy }) := World.putObj_heap_same hlt
    have b2 : (W.putObj (D + 1) (.loop { rec .ready none with state := .busy })).heap[D]? = some (.deferred (some [])) := (World.putObj_heap_other (by omega)).trans hd
    have b3 : ∀ k, K k → (W.putObj (D + 1) (.loop { rec .ready none with state := .busy })).heap[k]? = W.heap[k]? := fun k hk => World.putObj_heap_other (by have := hK k hk; omega)
    have b4 : (W.putObj (D + 1) (.loop { rec .ready none with state := .busy })).heap.size = W.heap.size := by simp
    refine wpIn_mono (hbody _ pre x _ (hI.put _ hi (by omega) hl rfl) hlen (by rw [b4]; omega)) ?_
    rintro e a3 U hp
    cases e with
    | normal =>
      obtain ⟨hk, hub, hiu⟩ := hp
      have u1 := hk.same _ _ b1 rfl
      have u2 := hk.same _ _ b2 rfl
      have hend := run_endRound (P := P) none u1
      rw [hrec] at hend
      have hzU := hk.size
      rw [b4] at hzU
      refine ⟨_, _, hend, rfl, ⟨⟨hI.put _ hiu (by omega) u1 rfl, by simp; omega⟩, ?_, (World.putObj_heap_other (by omega)).trans u2⟩, fun k hk => (World.putObj_heap_other (by have := hK k hk; omega)).trans ((hub k hk).trans (b3 k hk)), by simp; omega⟩
      have := World.putObj_heap_same (o := .loop (rec .ready none)) (lt_of u1)
      rw [hrec] at this ⊢
      exact this
    | _ => exact hp.elim
  · rintro e U ⟨⟨v, rfl⟩, xs, hS, ⟨hi, hz⟩, hl, hd⟩
    have hend := run_endLoop (P := P) hl (by rw [hrec]; simp)
    rw [hrec] at hend
    exact ⟨none, _, hend, hdone D xs _ (by omega) hS (hI.put _ hi (by omega) hl rfl) ((World.putObj_heap_other (by omega)).trans hd)⟩
end
end Go.Proofs.YtpffdbplcgmilaaGreatDoor.Range
end

section
namespace Go.Proofs.YtpffdbplcgmilaaGreatDoor.WordR
open Go.RowKit Go.Shelf Mem WordP WordW WordS WordC Range
attribute [local go_sem] Oper.semAt_some

theorem grown_of_below {w w' : World} (h : Below w.heap.size w w') (row : Option Nat) : w.grownBy w' row := ⟨h.os, h.tape, h.output, h.size, fun k hk _ => h.block k hk⟩
theorem box_same {W W' : World} {B : Nat} {t : TypeId} {v : Value} (h : Boxed W B t v) (e : W'.heap[B]? = W.heap[B]?) : Boxed W' B t v := e.trans h
def boxLen (b : Nat) (W : World) : Nat := match W.cell? ⟨b, 0, none⟩ with | some (.string s) => s.size | _ => 0
theorem boxLen_of {b : Nat} {W : World} {t : TypeId} {s : ByteArray} (h : Boxed W b t (.string s)) : boxLen b W = s.size := by unfold boxLen; rw [h.cell]

set_option maxHeartbeats 2000000 in
theorem iter_hands (b c : Nat) (hbc : b ≠ c) (s : ByteArray) (u : UInt8) (w : World) (hs : s.size ≤ 4611686018427387904) (n : Nat) (hn : 1 ≤ n) (hb : Boxed w b 9 (.string s)) (hc : Boxed w c 5 (.int .u8 u.toNat)) :
    Hands Fence.wide n Tryz.prog 103 #[.pointer (some ⟨b, 0, none⟩), .pointer (some ⟨c, 0, none⟩)] (fun x : ByteArray => #[Value.string x]) b (fun k => k = b ∨ k = c) (fun xs => xs = (split u s.data.toList).map str) (s.size + 1) w := by
  intro l J W hW hz hJ hY h0
  have hbW : Boxed W b 9 (.string s) := box_same hb (hW b (.inl rfl))
  have hcW : Boxed W c 5 (.int .u8 u.toNat) := box_same hc (hW c (.inr rfl))
  refine callsIn_of_wp Tryz.func103 rfl trivial ?_ rfl
  simp only [Tryz.ntmps103, List.size_toArray, List.length_cons, List.length_nil, Nat.reduceAdd, Nat.reduceSub, Array.replicate_succ, Array.replicate_zero, List.push_toArray, List.append_toArray, List.nil_append, List.cons_append]
  gi_wp2
  gi_loopw [4] (fun _ wr => ∃ (pre : List ByteArray) (cur : ByteArray), Boxed wr b 9 (.string cur) ∧ Boxed wr c 5 (.int .u8 u.toNat) ∧ pre.length + cur.size ≤ s.size ∧ (split u s.data.toList).map str = pre ++ (split u cur.data.toList).map str ∧ J pre wr) (fun _ wr => boxLen b wr)
  case atStart => exact ⟨[], s, hbW, hcW, by simp, rfl, h0⟩
  case round =>
    clear hbW hcW hb hc hW hz h0
    obtain ⟨pre, cur, hb, hc, hlen, hsp, hj⟩ := hrel
    have cb := hb.cell
    have cc := hc.cell
    have CUT := fun w' => cut_any cur u w' (by omega)
    have hSP := Lib.hid hsp
    clear hsp
    rcases first_at u cur.data.toList with h | ⟨a, r, hl, h⟩
    · rw [cut_none h] at CUT
      have hst : str cur.data.toList = cur := mkB cur
      have hfin : (split u s.data.toList).map str = pre ++ [str cur.data.toList] := by rw [hSP.out, split_none u _ h]; rfl
      have HF := Lib.hid hfin
      have CUT := Lib.hid CUT
      clear h hfin hst
      gi_wp2
      refine ⟨trivial, ?_⟩
      refine (callsIn_wide.2 (CUT.out _)).mono ?_
      rintro e w2 ⟨rfl, hb2⟩
      have g2 := grown_of_below hb2 none
      have hb' := hb.kept g2 (by simp)
      have hc' := hc.kept g2 (by simp)
      have hj' := hJ _ _ _ none hj g2 (.inl rfl)
      obtain ⟨fn, tmps, assign, body, hy, hR⟩ := hY pre (str cur.data.toList) w2 hj' (by omega)
      clear hb2 g2 cb cc hb hc hj
      gi_wp2
      refine hR.mono ?_
      rintro e W3 ⟨rfl, hj3, hk3, hz3⟩
      gi_wp2
      refine bodyPost_ret (results_none rfl _ _ _) rfl ?_
      exact ⟨⟨_, rfl⟩, pre ++ [str cur.data.toList], HF.out.symm, hj3⟩
    · have hcut : cut u cur.data.toList = (a, r, true) := by rw [hl]; exact cut_at h
      have hz : a.length + 1 + r.length = cur.size := by
        have : cur.data.toList.length = cur.size := by simp
        rw [hl] at this; simp at this; omega
      rw [hcut] at CUT
      have hnext : (split u s.data.toList).map str = (pre ++ [str a]) ++ (split u (str r).data.toList).map str := by
        rw [hSP.out, hl, split_app u a r h]; simp [str]
      have HF := Lib.hid hnext
      have CUT := Lib.hid CUT
      clear h hnext hl hcut
      gi_wp2
      refine ⟨trivial, ?_⟩
      refine (callsIn_wide.2 (CUT.out _)).mono ?_
      rintro e w2 ⟨rfl, hb2⟩
      have g2 := grown_of_below hb2 none
      have hb' := hb.kept g2 (by simp)
      have hc' := hc.kept g2 (by simp)
      have hj' := hJ _ _ _ none hj g2 (.inl rfl)
      obtain ⟨fn, tmps, assign, body, hy, hR⟩ := hY pre (str a) w2 hj' (by omega)
      have hbl := boxLen_of hb
      clear hb2 g2 cb cc hb hc hj
      gi_wp2
      refine hR.mono ?_
      rintro e W3 ⟨rfl, hj3, hk3, hz3⟩
      have hb3 := box_same hb' (hk3 b (.inl rfl))
      have hc3 := box_same hc' (hk3 c (.inr rfl))
      have cb := hb3.cell
      have fb := hb3.frozen
      gi_wp2
      go_roundw
      case rel => exact ⟨pre ++ [str a], str r, hb3.set _, hc3.other (Ne.symm hbc) _, by rw [str_size]; simp; omega, HF.out, hJ _ _ _ (some b) hj3 (grownBy_setCell' _ _ _) (.inr rfl)⟩
      case measure => rw [boxLen_of (hb3.set _), hbl, str_size]; omega

set_option maxHeartbeats 1000000 in
theorem made_any (s : ByteArray) (u : UInt8) (w : World) :
    Calls Tryz.prog 68 #[.string s, .int .u8 u.toNat] w (fun e w' => e = .returned (.func (.func 103) #[] #[.pointer (some ⟨w.heap.size, 0, none⟩), .pointer (some ⟨w.heap.size + 1, 0, none⟩)]) ∧ w' = (w.alloc (.cells #[.string s] 9)).alloc (.cells #[.int .u8 u.toNat] 5)) := by
  go_enter Tryz.func68, Tryz.ntmps68
  go_wp2_with fail
  go_ret
  exact ⟨by simp, rfl⟩
theorem own_lower {w : World} {a b : Nat} {e : TypeId} {size n : Nat} {v : Value} {xs : List Value} (h : w.ownsRow b e size v n xs) (hab : a ≤ b) : w.ownsRow a e size v n xs := by
  refine ⟨h.1, ?_⟩
  rcases h.2 with h | ⟨g, cap, cur, e1, e2, e3⟩
  · exact .inl h
  · exact .inr ⟨g, cap, cur, e1, by omega, e3⟩
theorem own_far {w : World} {b k : Nat} {e : TypeId} {size n : Nat} {v : Value} {xs : List Value} (h : w.ownsRow b e size v n xs) (hk : k < b) : v.ownBlock ≠ some k := by
  rcases h.2 with ⟨rfl, _⟩ | ⟨g, cap, cur, rfl, e2, e3⟩
  · simp [Value.ownBlock]
  · simp [Value.ownBlock]; omega
theorem info_str : (Tryz.prog.info? 9).map (fun i => (i.zero, i.size, i.bytes)) = some (some (.string ⟨#[]⟩), 1, 16) := by kernel_rfl
set_option maxRecDepth 100000 in
set_option maxHeartbeats 2000000 in
theorem parts_any (s : ByteArray) (u : UInt8) (w : World) (hs : s.size ≤ 4398046511104) :
    Calls Tryz.prog 31 #[.string s, .int .u8 u.toNat] w (GivesRow w.heap.size 9 (split u s.data.toList).length (((split u s.data.toList).map str).map Value.string) w) := by
  refine (callsIn_wide (n := 3)).1 ?_
  obtain ⟨i0, hi, hz0, hz1, hz2⟩ := info_parts info_str
  refine callsIn_of_wp_marks Tryz.func31 rfl trivial ?_ rfl
  simp only [Tryz.ntmps31, List.size_toArray, List.length_cons, List.length_nil, Nat.reduceAdd, Nat.reduceSub, Array.replicate_succ, Array.replicate_zero, List.push_toArray, List.append_toArray, List.nil_append, List.cons_append]
  gi_wp2
  refine ⟨trivial, ?_⟩
  refine (callsIn_wide.2 (made_any s u _)).mono ?_
  rintro e w' ⟨rfl, rfl⟩
  have bO := Boxed.new w 89 (.slice none 0 0)
  have bS := Boxed.new (w.alloc (.cells #[.slice none 0 0] 89)) 9 (.string s)
  have bU := Boxed.new ((w.alloc (.cells #[.slice none 0 0] 89)).alloc (.cells #[.string s] 9)) 5 (.int .u8 u.toNat)
  have bO := (bO.alloc (.cells #[.string s] 9)).alloc (.cells #[.int .u8 u.toNat] 5)
  have bS := bS.alloc (.cells #[.int .u8 u.toNat] 5)
  rw [World.size_alloc] at bS bU
  rw [World.size_alloc] at bU
  have hB0 : Below w.heap.size w (((w.alloc (.cells #[.slice none 0 0] 89)).alloc (.cells #[.string s] 9)).alloc (.cells #[.int .u8 u.toNat] 5)) := (((Below.refl _ w).alloc (Nat.le_refl _) _).alloc (by simp) _).alloc (by simp; omega) _
  have hz : (((w.alloc (.cells #[.slice none 0 0] 89)).alloc (.cells #[.string s] 9)).alloc (.cells #[.int .u8 u.toNat] 5)).heap.size = w.heap.size + 3 := by simp
  generalize (((w.alloc (.cells #[.slice none 0 0] 89)).alloc (.cells #[.string s] 9)).alloc (.cells #[.int .u8 u.toNat] 5)) = W0 at bO bS bU hB0 hz ⊢
  gi_wp2
  refine range_hands rfl (by omega) (gf := 103) (lb := #[.pointer (some ⟨w.heap.size + 1, 0, none⟩), .pointer (some ⟨w.heap.size + 1 + 1, 0, none⟩)]) rfl trivial (enters_of Tryz.func103 (by kernel_rfl) rfl)
    (K := fun k => k = w.heap.size + 1 ∨ k = w.heap.size + 1 + 1) (.inl rfl) (fun k hk => by rcases hk with h | h <;> omega)
    (iter_hands (w.heap.size + 1) (w.heap.size + 1 + 1) (by omega) s u W0 (by omega) _ (by omega) bS bU) (fun _ => rfl)
    (fun pre W => (∃ v, Boxed W w.heap.size 89 v ∧ W.ownsRow (w.heap.size + 3) 9 1 v pre.length (pre.map Value.string)) ∧ Below w.heap.size w W) ?hI ?h0
    (fun x => { tmps := #[.string s, .int .u8 u.toNat, undef, undef, .slice none 0 0, .pointer (some ⟨w.heap.size, 0, none⟩), .string x, .string s, .int .u8 u.toNat, .func (.func 103) #[] #[.pointer (some ⟨w.heap.size + 1, 0, none⟩), .pointer (some ⟨w.heap.size + 1 + 1, 0, none⟩)], .string x, undef, undef, undef, undef, undef], defers := [] }) ?assign ?body ?done
  case hI =>
    rintro xs W W' row ⟨⟨v, hv, hr⟩, hB⟩ hg hrow
    refine ⟨⟨v, hv.kept hg (fun e => ?_), hr.kept hg ?_⟩, hB.grown hg hB.size (fun j e => ?_)⟩
    · rcases hrow _ e.symm with h | ⟨h, _⟩ <;> omega
    · cases row with
      | none =>
        by_cases h : v.ownBlock = none
        · exact .inl h
        · exact .inr h
      | some r =>
        refine .inr (fun e => ?_)
        rcases hrow r rfl with h | ⟨h, o, ho, hc⟩
        · exact own_far hr (by omega) e
        · rcases hr.2 with ⟨rfl, _⟩ | ⟨g, cap, cur, rfl, e2, e3, _⟩
          · simp [Value.ownBlock] at e
          · obtain rfl : g = r := by simpa [Value.ownBlock] using e
            rw [e3] at ho; cases ho; cases hc
    · rcases hrow j e with h | ⟨h, _⟩ <;> omega
  case h0 => exact ⟨⟨_, bO, World.ownsRow_nil _ _ _ _⟩, hB0⟩
  case assign =>
    intro l x W K hK
    gi_wp2
    exact hK
  case body =>
    rintro l pre x W ⟨⟨v, hv, hrow⟩, hB⟩ hlt hsz
    have hc := hv.cell
    have hw := hB.size
    have hml : pre.length + 1 ≤ maxLen := by unfold maxLen; omega
    have hbd : (pre.length + 1) * 16 ≤ 140737488355328 := by omega
    gi_wp2_with (gi_at_builtin; refine wpListIn_append_own _ rfl _ _ 89 rfl (w.heap.size + 3) 9 i0 (.string ⟨#[]⟩) 1 16 Tryz.underlying89 hi hz0 hz1 hz2 rfl (by decide) _ _ _ rfl (hrow.alloc _) ⟨W.heap.size, 0, none⟩ 1 1 [.string x] rfl rfl (cell_one_new _ _ _) (by simp [Value.oneCell']) hml hbd (by simp; omega) ?_; intro v' w1 hown' hgrow _; obtain ⟨g', cap', rfl⟩ := ownsRow_succ hown'; obtain ⟨hv1, hv2, hr2, hk2, hb2⟩ := hv.appended (by decide) (own_lower (a := w.heap.size) hrow (by omega)) hB.size (Nat.le_refl _) (own_lower hown' (by omega)) hgrow; have hc1 := hv1.cell; have hf1 := hv1.frozen)
    refine ⟨hk2, fun k hk => ?_, ⟨_, hv2, by simpa using hown'.kept (grownBy_setCell' w1 _ _) (.inr (hv1.not_row (by decide) hown').symm)⟩, hB.trans hb2⟩
    have hkB : k ≠ w.heap.size := by rcases hk with h | h <;> omega
    have hk3 : k < w.heap.size + 3 := by rcases hk with h | h <;> omega
    exact (Below.heap_setCell _ _ _ k hkB).trans ((hgrow.block k (by simp; omega) (Ne.symm (own_far hrow hk3))).trans (Below.heap_alloc _ _ _ (by omega)))
  case done =>
    rintro D ys W hD hys ⟨⟨v, hv, hrow⟩, hB⟩ hK
    have hc := hv.cell
    gi_wp2
    refine ⟨by simp, .inl ⟨_, _, rfl, run_takeDeferred hK, ?_⟩⟩
    refine ⟨_, results_tmp rfl _ _ _, v, rfl, ?_, hB.trans (belowK_b (w := w) (Nat.le_refl _) W D _ _ (by omega) hK rfl rfl)⟩
    have hr := ownsRow_putObj (own_lower (a := w.heap.size) hrow (by omega)) (.deferred none) hK rfl
    rw [hys] at hr
    simpa using hr
end Go.Proofs.YtpffdbplcgmilaaGreatDoor.WordR
end

section
namespace Go.Proofs.YtpffdbplcgmilaaGreatDoor.WordJ
open Go.RowKit Mem WordP OneB WordW WordS WordC

def strs (L : List ByteArray) : List Value := L.map Value.string
theorem str_cat (a b : List UInt8) : str a ++ str b = str (a ++ b) := by
  apply ByteArray.ext; simp [str, ByteArray.data_append]
end Go.Proofs.YtpffdbplcgmilaaGreatDoor.WordJ
end

section
namespace Go.Proofs.YtpffdbplcgmilaaGreatDoor.WordQ
open Go.RowKit Mem WordP OneB WordW WordS WordJ
open WordC (ext_drop ext_take)

theorem own_lower {w : World} {a b : Nat} {e : TypeId} {size n : Nat} {v : Value} {xs : List Value} (h : w.ownsRow b e size v n xs) (hab : a ≤ b) : w.ownsRow a e size v n xs := WordR.own_lower h hab
end Go.Proofs.YtpffdbplcgmilaaGreatDoor.WordQ
end

section
namespace Go.Proofs.YtpffdbplcgmilaaGreatDoor.TreeW
open Go.RowKit Mem Abs WordP OneB WordS

theorem fz_strs {X : Nat → Prop} {w : World} {L : List (List UInt8)} {base T : Nat} {v : Value} (hX : ∀ b, X b → b < base) (hl : L.length ≤ LIM) (hs : ∀ l ∈ L, l.length ≤ SLIM) (h : w.ownsRow base T 1 v L.length (L.map fun l => Value.string (str l))) : Fz X w (strsT L) v :=
  owns_fz (f := strT) (g := fun l => Value.string (str l)) (fun _ => rfl) (fun _ => rfl) (fun l hl => .str (by rw [str_size]; exact hs l hl)) hX hl h
theorem str_lim {l : List UInt8} {r : List Abs.V} (h : V.LimL (strT l :: r)) : l.length ≤ 4611686018427387904 ∧ V.LimL r := by
  have := h.1
  rw [V.Lim, str_size] at this
  exact ⟨this, h.2⟩
section
variable {l m : List UInt8} {u c : UInt8} {L K : List (List UInt8)}
theorem one_str {f : FuncId} {r : Abs.V} {rv : ByteArray → Value} (h : ∀ (s : ByteArray) w, s.size ≤ 4611686018427387904 → Calls Tryz.prog f #[.string s] w (Gives (rv s) w)) (hr : ∀ N w, l.length ≤ SLIM → Fz N w r (rv (str l))) : ACalls Tryz.prog f [strT l] r := fun g N w vs hG hN hlen hv => by
  obtain ⟨vs⟩ := vs
  match vs, hlen with
  | [x0], _ =>
    obtain ⟨rfl, h0⟩ := fz_str (hv 0 _ x0 rfl rfl)
    exact (h _ w h0).mono fun e w' ⟨h1, h2⟩ => ⟨_, h1, h2, hr N w' (by rw [str_size] at h0; exact h0)⟩
theorem fold_len (l : List UInt8) : (fold l).length = l.length := by simp [fold]
theorem fold_v : ACalls Tryz.prog 118 [strT l] (strT (fold l)) := one_str (rv := fun s => .string (str (fold s.data.toList))) (fun s w hs => WordW.fold_any s w hs) fun N w h => by rw [str_toList]; exact .str (by rw [str_size, fold_len]; exact h)
theorem trim_len (l : List UInt8) : (trim l).length ≤ l.length := by
  unfold trim rdrop
  rw [List.length_reverse]
  have h1 : ((l.dropWhile blankB).reverse.dropWhile blankB).length ≤ (l.dropWhile blankB).reverse.length := (List.dropWhile_sublist _).length_le
  have h2 : (l.dropWhile blankB).length ≤ l.length := (List.dropWhile_sublist _).length_le
  rw [List.length_reverse] at h1
  omega
theorem trim_v : ACalls Tryz.prog 129 [strT l] (strT (trim l)) := one_str (rv := fun s => .string (str (trim s.data.toList))) (fun s w hs => WordC.trim_any s w hs) fun N w h => by rw [str_toList]; exact .str (by rw [str_size]; exact Nat.le_trans (trim_len l) h)
/-- Where a byte stands; -1: nowhere. -/
abbrev posB (c : UInt8) (l : List UInt8) : Int := Lib.indexByte l c
theorem split_in (_h : ∀ x ∈ split u l, True) : ∀ x ∈ split u l, x.length ≤ l.length := by
  clear _h
  suffices H : ∀ (n : Nat) (l : List UInt8), l.length ≤ n → ∀ x ∈ split u l, x.length ≤ l.length from H l.length l (Nat.le_refl _)
  intro n
  induction n with
  | zero =>
    intro l hl x hx
    have : l = [] := List.eq_nil_of_length_eq_zero (by omega)
    subst this
    rw [split_none _ _ rfl, List.mem_singleton] at hx
    subst hx; exact Nat.le_refl _
  | succ n ih =>
    intro l hl x hx
    rcases first_at u l with h | ⟨a, r, rfl, h⟩
    · rw [split_none _ _ h, List.mem_singleton] at hx
      subst hx; exact Nat.le_refl _
    · rw [split_app _ _ _ h] at hx
      simp only [List.length_append, List.length_cons] at hl ⊢
      rcases List.mem_cons.1 hx with rfl | hx
      · omega
      · have := ih r (by omega) x hx; omega
/-- Cut at the first such byte. -/
def cutF (c : UInt8) (l : List UInt8) : List UInt8 × List UInt8 × Bool := if l.contains c then (l.take (posB c l).toNat, l.drop ((posB c l).toNat + 1), true) else (l, [], false)
theorem cutF_none {c : UInt8} {l : List UInt8} (h : l.contains c = false) : cutF c l = (l, [], false) := by unfold cutF; rw [h]; rfl
theorem cutF_at {c : UInt8} {a r : List UInt8} (h : a.contains c = false) : cutF c (a ++ c :: r) = (a, r, true) := by
  unfold cutF
  have e : (a ++ c :: r).contains c = true := by simp
  rw [e, if_pos rfl, posB, index_at a r c h]
  simp
theorem cutF_len (c : UInt8) (l : List UInt8) : (cutF c l).1.length ≤ l.length ∧ (cutF c l).2.1.length ≤ l.length := by
  unfold cutF
  split
  · simp; omega
  · simp
theorem cut_v : ACalls Tryz.prog 33 [strT l, byteT c] (.tup [strT (cutF c l).1, strT (cutF c l).2.1, .bool (cutF c l).2.2]) := fun g N w vs hG hN hlen hv => by
  obtain ⟨vs⟩ := vs
  match vs, hlen with
  | [x0, x1], _ =>
    obtain ⟨rfl, h0⟩ := fz_str (hv 0 _ x0 rfl rfl)
    obtain ⟨rfl, _⟩ := fz_int (hv 1 _ x1 rfl rfl)
    refine (WordC.cut_any _ c w h0).mono fun e w' ⟨h1, h2⟩ => ⟨_, h1, h2, ?_⟩
    have e : WordC.cut c (str l).data.toList = cutF c l := by
      rw [str_toList]
      rcases first_at c l with h | ⟨a, r, rfl, h⟩
      · rw [WordC.cut_none h, cutF_none h]
      · rw [WordC.cut_at h, cutF_at h]
    have hc := cutF_len c l
    rw [str_size] at h0
    rw [e]
    refine .tup rfl fun i x y hx hy => ?_
    have hi : i < 3 := (List.getElem?_eq_some_iff.1 hx).1
    have : i = 0 ∨ i = 1 ∨ i = 2 := by omega
    rcases this with rfl | rfl | rfl <;> (cases hx; cases hy)
    · exact .str (by rw [str_size]; exact Nat.le_trans hc.1 h0)
    · exact .str (by rw [str_size]; exact Nat.le_trans hc.2 h0)
    · exact .bool
theorem shut_parts {f : FuncId} (hl : l.length ≤ 4398046511104) (h : ∀ (s : ByteArray) w, s.size ≤ 4398046511104 → Calls Tryz.prog f #[.string s, .int .u8 u.toNat] w (GivesRow w.heap.size 9 (split u s.data.toList).length (((split u s.data.toList).map str).map Value.string) w)) : ACalls Tryz.prog f [strT l, byteT u] (strsT (split u l)) := fun g N w vs hG hN hlen hv => by
  obtain ⟨vs⟩ := vs
  match vs, hlen with
  | [x0, x1], _ =>
    obtain ⟨rfl, h0⟩ := fz_str (hv 0 _ x0 rfl rfl)
    obtain ⟨rfl, _⟩ := fz_int (hv 1 _ x1 rfl rfl)
    refine (h _ w (by rw [str_size]; exact hl)).mono fun e w' ⟨v, h1, h2, h3⟩ => ⟨_, h1, h3, ?_⟩
    rw [str_toList, List.map_map] at h2
    refine fz_strs hN ?_ (fun x hx => ?_) h2
    · have := split_len u l; simp only [LIM]; omega
    · have := split_in (u := u) (l := l) (fun _ _ => trivial) x hx; simp only [SLIM]; omega
theorem parts_v (hl : l.length ≤ 4398046511104) : ACalls Tryz.prog 31 [strT l, byteT u] (strsT (split u l)) := shut_parts hl fun s w hs => WordR.parts_any s u w hs
end
end Go.Proofs.YtpffdbplcgmilaaGreatDoor.TreeW
end

section
namespace Go.Proofs.YtpffdbplcgmilaaGreatDoor.PathT
open Go.RowKit Mem Abs TreeW

/-! ### Beginnings -/
def pre (l m : List UInt8) : Bool := decide (l.take m.length = m)
theorem pre_iff (l m : List UInt8) : pre l m = true ↔ ∃ x, l = m ++ x := by
  unfold pre
  rw [decide_eq_true_eq]
  constructor
  · intro h
    exact ⟨l.drop m.length, by conv => { lhs; rw [← List.take_append_drop m.length l, h] }⟩
  · rintro ⟨x, rfl⟩
    simp
theorem pre_len {l m : List UInt8} (h : pre l m = true) : m.length ≤ l.length := by
  obtain ⟨x, rfl⟩ := (pre_iff l m).1 h
  simp
set_option maxRecDepth 100000 in
set_option maxHeartbeats 4000000 in
theorem hasPrefixL_v {l m : List UInt8} : ACalls Tryz.prog 93 [strT l, strT m] (.bool (pre l m)) := by
  refine fun2 tb_ok Tryz.func93 rfl Tryz.ntmps93 Tryz.results93 rfl fun N => ?_
  by_cases h0 : m.length ≤ l.length
  · have e : l.take ((m.length : Int)).toNat = l.take m.length := rfl
    by_cases h1 : l.take ((m.length : Int)).toNat = m
    · skip
      repeat' (first | refine zt ?_ | (refine isR ?_; first | refine zo ?_ | refine zL ?_ | refine zc4 ?_ | refine zc5 ?_ | refine zS ?_ | (refine zs4 ?_ ?_ <;> intro hc) | (refine zs5 ?_ ?_ <;> intro hc)) | refine awp_split rfl (fun hb => ?_) (fun hb => ?_) | refine zr ?_ | exact x_le)
      rw [show pre l m = true from decide_eq_true h1]; rfl
    · skip
      repeat' (first | refine zt ?_ | (refine isR ?_; first | refine zo ?_ | refine zL ?_ | refine zc4 ?_ | refine zc5 ?_ | refine zS ?_ | (refine zs4 ?_ ?_ <;> intro hc) | (refine zs5 ?_ ?_ <;> intro hc)) | refine awp_split rfl (fun hb => ?_) (fun hb => ?_) | refine zr ?_ | exact x_le)
      rw [show pre l m = false from decide_eq_false h1]; rfl
  · skip
    repeat' (first | refine zt ?_ | (refine isR ?_; first | refine zo ?_ | refine zL ?_ | refine zc4 ?_ | refine zc5 ?_ | refine zS ?_ | (refine zs4 ?_ ?_ <;> intro hc) | (refine zs5 ?_ ?_ <;> intro hc)) | refine awp_split rfl (fun hb => ?_) (fun hb => ?_) | refine zr ?_ | exact x_le)
    have : pre l m = false := by
      cases h : pre l m with
      | false => rfl
      | true => exact absurd (pre_len h) h0
    rw [this]; rfl
set_option maxRecDepth 100000 in
set_option maxHeartbeats 4000000 in
theorem hasPrefix_v {l m : List UInt8} : ACalls Tryz.prog 54 [strT l, strT m] (.bool (pre l m)) := by
  have c1 := hasPrefixL_v (l := l) (m := m)
  refine fun2 tb_ok Tryz.func54 rfl Tryz.ntmps54 Tryz.results54 rfl fun N => ?_
  repeat' (first | refine zt ?_ | (refine isR ?_; first | refine zo ?_ | refine zk c1 ?_) | refine awp_split rfl (fun hb => ?_) (fun hb => ?_) | refine zr ?_ | exact x_le)
  rfl
def cutP (l m : List UInt8) : List UInt8 × Bool := if pre l m then (l.drop m.length, true) else (l, false)
set_option maxRecDepth 100000 in
set_option maxHeartbeats 4000000 in
theorem cutPrefixL_v {l m : List UInt8} : ACalls Tryz.prog 69 [strT l, strT m] (.tup [strT (cutP l m).1, .bool (cutP l m).2]) := by
  have c1 := hasPrefixL_v (l := l) (m := m)
  cases hp : pre l m with
  | true =>
    have := pre_len hp
    have e : cutP l m = (l.drop m.length, true) := by unfold cutP; rw [hp]; rfl
    rw [e]
    rw [hp] at c1
    refine fun2 tb_ok Tryz.func69 rfl Tryz.ntmps69 Tryz.results69 rfl fun N => ?_
    repeat' (first | refine zt ?_ | (refine isR ?_; first | refine zo ?_ | refine zk c1 ?_ | refine zL ?_ | refine zS ?_) | refine awp_split rfl (fun hb => ?_) (fun hb => ?_) | refine zr ?_ | exact x_le)
    rfl
  | false =>
    have e : cutP l m = (l, false) := by unfold cutP; rw [hp]; rfl
    rw [e]
    rw [hp] at c1
    refine fun2 tb_ok Tryz.func69 rfl Tryz.ntmps69 Tryz.results69 rfl fun N => ?_
    repeat' (first | refine zt ?_ | (refine isR ?_; first | refine zo ?_ | refine zk c1 ?_ | refine zL ?_ | refine zS ?_) | refine awp_split rfl (fun hb => ?_) (fun hb => ?_) | refine zr ?_ | exact x_le)
    rfl
set_option maxRecDepth 100000 in
set_option maxHeartbeats 4000000 in
theorem cutPrefix_v {l m : List UInt8} : ACalls Tryz.prog 32 [strT l, strT m] (.tup [strT (cutP l m).1, .bool (cutP l m).2]) := by
  have c1 := cutPrefixL_v (l := l) (m := m)
  generalize cutP l m = p at *
  refine fun2 tb_ok Tryz.func32 rfl Tryz.ntmps32 Tryz.results32 rfl fun N => ?_
  repeat' (first | refine zt ?_ | (refine isR ?_; first | refine zo ?_ | refine zk c1 ?_) | refine awp_split rfl (fun hb => ?_) (fun hb => ?_) | refine zr ?_ | exact x_le)
  rfl
/-! ### Paths -/
def pathF (p o : List UInt8) : Bool := pre p o && (decide (p.drop o.length = []) || decide (o.getLast? = some 47) || decide ((p.drop o.length).head? = some 47))
end Go.Proofs.YtpffdbplcgmilaaGreatDoor.PathT
end

section
namespace Go.Proofs.YtpffdbplcgmilaaGreatDoor.Globs
open Go.RowKit Mem Abs TreeW

def Cells (f : Nat → Option Obj) (g : Nat) (cs : Array Value) : Prop := ∃ t fr, f g = some (.cells cs t fr)
def gN : Nat := max (max 2 3) 1 + 1
/-- strconv's two errors are errors; its table of powers is that. -/
def gStr : Glob := ⟨gN, fun f => (∃ v : Value, (v = .nilIface ∨ ∃ t p, v = .iface t p) ∧ Cells f 2 #[v]) ∧ (∃ v : Value, (v = .nilIface ∨ ∃ t p, v = .iface t p) ∧ Cells f 3 #[v]) ∧ Cells f 1 (Lib.pow10Tab.map fun z => Value.int .u64 z).toArray⟩
section
variable {X : Nat → Prop} {w : World} {l : List UInt8}
theorem at_cell {g : Nat} {cs : Array Value} (hg : g < gN) (h : Cells (fun i => if i < gN then w.heap[i]? else none) g cs) (i : Nat) : w.cell? ⟨g, i, none⟩ = cs[i]? := by
  obtain ⟨t, fr, h⟩ := h
  simp only [hg, if_true] at h
  unfold World.cell?
  simp only [h]
  rfl
theorem tab_is (h : GlOk gStr X w) : Lib.TabIs Tryz.prog w "internal/strconv.uint64pow10" .u64 Lib.pow10Tab := by
  obtain ⟨_, _, _, _, t, fr, h⟩ := h
  have e : Tryz.prog.globalNamed "internal/strconv.uint64pow10" = some 1 := by kernel_rfl
  unfold Lib.TabIs World.var?
  rw [e]
  have h : w.heap[1]? = _ := h
  simp only [Option.bind_some, h]
/-- A number's digits, and no others. -/
abbrev digits (n : Int) : List UInt8 := Lib.itoa n
theorem digits_len (n : Int) (h : InR .i64 n) : (digits n).length ≤ 21 := Lib.itoa_length_le n h.1 h.2
theorem itoa_v {n : Int} : ACallsG Tryz.prog gStr 50 [.int .i64 n] (strT (digits n)) := fun N w vs hG hN hlen hv => by
  obtain ⟨vs⟩ := vs
  match vs, hlen with
  | [x0], _ =>
    obtain ⟨rfl, h0⟩ := fz_int (hv 0 _ x0 rfl rfl)
    have h1 : -9223372036854775808 ≤ n ∧ n ≤ 9223372036854775807 := h0
    refine (Tryz.strconv_Itoa n h1.1 h1.2 w (tab_is hG)).mono fun e w' ⟨h2, k, os, h3⟩ => ⟨_, h2, ?_, .str ?_⟩
    · rw [h3]; exact Lib.below_grow _ _ (Nat.le_refl _) _ _
    · rw [str_size]; have := digits_len n h0; simp only [SLIM]; omega
/-- Atoi: the number, and whether there is one. -/
def atoiF (l : List UInt8) : Int × Bool := match Lib.atoiAll l with
  | .ok v => (v, true)
  | .range => (Lib.atoiSat l, false)
  | _ => (0, false)
/-- An error, or none. -/
def errT : Bool → Abs.V
  | true => .nili
  | false => .ifc 216 (.fp [] 0)
theorem atoi_in {v : Int} (h : Lib.atoiAll l = .ok v) : InR .i64 v := by
  unfold Lib.atoiAll at h
  split at h
  · cases h
  · dsimp only at h
    split at h
    · cases h
    · cases h
    · split at h
      · cases h
      · split at h
        · cases h
        · cases h
          constructor <;> simp only [rng] <;> split <;> omega
theorem sat_in (l : List UInt8) : InR .i64 (Lib.atoiSat l) := by
  unfold Lib.atoiSat
  split <;> exact ⟨by decide, by decide⟩
theorem atoi_v (hl : l.length ≤ 281474976710656) : ACallsG Tryz.prog gStr 105 [strT l] (.tup [.int .i64 (atoiF l).1, errT (atoiF l).2]) := fun N w vs hG hN hlen hv => by
  obtain ⟨vs⟩ := vs
  match vs, hlen with
  | [x0], _ =>
    obtain ⟨rfl, h0⟩ := fz_str (hv 0 _ x0 rfl rfl)
    obtain ⟨g1, g2, ⟨v1, i1, k1⟩, ⟨v2, i2, k2⟩, _⟩ := hG
    have sz : (str l).size ≤ 281474976710656 := by rw [str_size]; exact hl
    have two : ∀ {w' : World} {a b : Abs.V} {x y : Value}, Fz N w' a x → Fz N w' b y → Fz N w' (.tup [a, b]) (.tuple #[x, y]) := fun ha hb => .tup rfl fun i x c hx hc => by
      have hi : i < 2 := (List.getElem?_eq_some_iff.1 hx).1
      have : i = 0 ∨ i = 1 := by omega
      rcases this with rfl | rfl <;> (cases hx; cases hc)
      · exact ha
      · exact hb
    have far : ∀ {w' : World} {M : Nat} {o : Obj}, w.heap.size ≤ M → w'.heap[M]? = some o → Fz N w' (errT false) (.iface 216 (.pointer (some ⟨M, 0, none⟩))) := fun {w' M o} h1 h2 =>
      .ifc (.fp (cs := []) (o := 0) (fun _ => undef) (fun hx => by have := hN M hx; omega) (block_lt h2) (fun u hu => by cases hu) (fun j u hu => by simp at hu) (fun j u hu => by simp at hu))
    unfold atoiF
    rcases he : Lib.atoiAll l with v | _ | _
    · refine (Tryz.strconv_Atoi_ok (str l) (by omega) v (by rw [str_toList]; exact he) w).mono fun e w' ⟨h2, h3⟩ => ⟨_, h2, ?_, two (.int (atoi_in he)) .nili⟩
      rcases h3 with rfl | ⟨t, rfl⟩
      · exact Below.refl _ _
      · exact Lib.bytesWorld_below _ _ _
    · exact (Tryz.strconv_Atoi_syntax (str l) sz (by rw [str_toList, he]; exact ⟨fun v h => (by cases h), fun h => (by cases h)⟩) v1 w (at_cell (by decide) k1 0) i1).mono fun e w' ⟨M, h2, h3, h4, h5⟩ => ⟨_, h2, h5, two (.int (inR_zero _)) (far h3 h4)⟩
    · refine (Tryz.strconv_Atoi_range (str l) sz (by rw [str_toList]; exact he) v2 w (at_cell (by decide) k2 0) i2).mono fun e w' ⟨M, h2, h3, h4, h5⟩ => ⟨_, h2, h5, two ?_ (far h3 h4)⟩
      rw [str_toList]
      exact .int (sat_in l)
/-! ### Out of a row's condition -/
theorem laid_at {P : Program} {W : World} {n : String} {d : DataW Unit} : ∀ {l : List (String × DataW Unit)} {ps : List MemPlace}, DataW.LaidVars P W l ps → (n, d) ∈ l →
    ∃ g t cs fuel p, P.globalNamed n = some g ∧ (P.globals[g]?).map (·.type) = some t ∧ W.var? P n = some cs ∧ DataW.trod (fun _ => ()) P W 0 (fun _ => true) false fuel t cs.toList = some (d, p)
  | (m, e) :: r, ps, h, hm => by
    obtain ⟨g, t, cs, fuel, p, q, h1, h2, h3, h4, h5, _⟩ := h
    rcases List.mem_cons.1 hm with e | hm
    · cases e; exact ⟨g, t, cs, fuel, p, h1, h2, h3, h4⟩
    · exact laid_at h5 hm
theorem var_heap {P : Program} {W : World} {n : String} {g : Nat} {cs : Array Value} (hg : P.globalNamed n = some g) (h : W.var? P n = some cs) : ∃ t fr, W.heap[g]? = some (.cells cs t fr) := by
  unfold World.var? at h
  rw [hg] at h
  simp only [Option.bind_some] at h
  split at h
  · rename_i cs' t fr hh
    cases h
    exact ⟨t, fr, hh⟩
  · cases h
theorem trod_held {P : Program} {W : World} {fuel t ms : _} {cs : List Value} {d : DataW Unit} {p : List MemPlace} (ht : P.underlying t = some (.interface ms)) (h : DataW.trod (fun _ => ()) P W 0 (fun _ => true) false fuel t cs = some (d, p)) : ∃ v, cs = [v] ∧ (v = .nilIface ∨ ∃ u x, v = .iface u x) := by
  cases fuel with
  | zero => simp [DataW.trod] at h
  | succ fuel =>
    unfold DataW.trod at h
    rw [ht] at h
    split at h <;> first
      | (rename_i e1 e2; cases e2; exact ⟨_, rfl, .inl rfl⟩)
      | exact ⟨_, rfl, .inl rfl⟩
      | exact ⟨_, rfl, .inr ⟨_, _, rfl⟩⟩
      | (rename_i e; cases e)
      | cases h
theorem glob_of {laid : List (String × DataW Unit)} {d1 d2 : DataW Unit} {w : World} (h : laidMet Tryz.prog laid w) (m1 : ("strconv.ErrSyntax", d1) ∈ laid) (m2 : ("strconv.ErrRange", d2) ∈ laid) (m3 : ("internal/strconv.uint64pow10", Lib.tabData .u64 Lib.pow10Tab) ∈ laid) : GlOk gStr (fun _ => False) w := by
  obtain ⟨ps, h, _⟩ := h
  have ht : ∀ n g t, Tryz.prog.globalNamed n = some g → (Tryz.prog.globals[g]?).map (·.type) = some t → ∀ g' t', Tryz.prog.globalNamed n = some g' → (Tryz.prog.globals[g']?).map (·.type) = some t' → g' = g ∧ t' = t := fun n g t h1 h2 g' t' h3 h4 => by
    rw [h1] at h3; cases h3
    rw [h2] at h4; cases h4
    exact ⟨rfl, rfl⟩
  obtain ⟨g, t, cs, fuel, p, a1, a2, a3, a4⟩ := laid_at h m1
  obtain ⟨rfl, rfl⟩ := ht _ 2 85 (by kernel_rfl) (by kernel_rfl) g t a1 a2
  obtain ⟨v1, e1, i1⟩ := trod_held Tryz.underlying85 a4
  obtain ⟨t1, fr1, b1⟩ := var_heap a1 a3
  obtain ⟨g', t', cs', fuel', p', c1, c2, c3, c4⟩ := laid_at h m2
  obtain ⟨rfl, rfl⟩ := ht _ 3 85 (by kernel_rfl) (by kernel_rfl) g' t' c1 c2
  obtain ⟨v2, e2, i2⟩ := trod_held Tryz.underlying85 c4
  obtain ⟨t2, fr2, b2⟩ := var_heap c1 c3
  obtain ⟨g3, t3, cs3, fuel3, p3, k1, k2, k3, k4⟩ := laid_at h m3
  obtain ⟨rfl, rfl⟩ := ht _ 1 247 (by kernel_rfl) (by kernel_rfl) g3 t3 k1 k2
  obtain ⟨tt, fr3, b3⟩ := var_heap k1 k3
  have e3 := Lib.cells_of_tab Tryz.underlying247 Tryz.underlying204 (by kernel_rfl) (by kernel_rfl) k4
  have e1 : cs = #[v1] := by apply Array.ext'; simpa using e1
  have e2 : cs' = #[v2] := by apply Array.ext'; simpa using e2
  have e3 : cs3 = (Lib.pow10Tab.map fun z => Value.int .u64 z).toArray := by apply Array.ext'; simpa using e3
  have hsz : ∀ g o, w.heap[g]? = some o → g < w.heap.size := fun g o h => (Array.getElem?_eq_some_iff.1 h).1
  have z1 := hsz _ _ b1
  have z2 := hsz _ _ b2
  have z3 := hsz _ _ b3
  refine ⟨by show gN ≤ _; unfold gN; omega, fun b hb => hb.elim, ⟨v1, i1, t1, fr1, ?_⟩, ⟨v2, i2, t2, fr2, ?_⟩, ⟨tt, fr3, ?_⟩⟩
  · rw [← e1]; exact (if_pos (show 2 < gN by decide)).trans b1
  · rw [← e2]; exact (if_pos (show 3 < gN by decide)).trans b2
  · rw [← e3]; exact (if_pos (show 1 < gN by decide)).trans b3
end
end Go.Proofs.YtpffdbplcgmilaaGreatDoor.Globs
end

section
namespace Go.Proofs.YtpffdbplcgmilaaGreatDoor.HostP
open WordP WordS

def digB (c : UInt8) : Bool := decide (48 ≤ c.toNat) && decide (c.toNat ≤ 57)
def outerB (c : UInt8) : Bool := (decide (97 ≤ c.toNat) && decide (c.toNat ≤ 122)) || digB c
def hostB (c : UInt8) : Bool := outerB c || c.toNat == 45
/-- A label of a host. -/
def label (l : List UInt8) : Bool := !l.isEmpty && decide (l.length ≤ 63) && outerB (l.getD 0 0) && outerB (l.getD (l.length - 1) 0) && l.all hostB
def canonF (l : List UInt8) : List UInt8 × Nat := if 253 < l.length then ([], 2) else if (split 46 (fold l)).all label then (fold l, 0) else ([], 1)
def value (l : List UInt8) : Nat := l.foldl (fun n c => 10 * n + (c.toNat - 48)) 0
def octet (l : List UInt8) : Bool := decide (1 ≤ l.length) && decide (l.length ≤ 3) && l.all digB && decide (value l ≤ 255) && (decide (l.length ≤ 1) || !(l.getD 0 0 == 48))
def address (l : List UInt8) : Bool := decide ((split 46 l).length = 4) && (split 46 l).all octet
def endsB (l s : List UInt8) : Bool := decide (s.length ≤ l.length) && l.drop (l.length - s.length) == s
def matchF (h d : List UInt8) : Bool := h == d || (!address h && endsB h (46 :: d))
def after : List UInt8 → List (List UInt8)
  | [] => []
  | c :: r => if c = 46 then r :: after r else after r
def upsF (l : List UInt8) : List (List UInt8) := if l = [] then [] else if address l then [l] else l :: after l

theorem endsB_iff (l s : List UInt8) : endsB l s = true ↔ ∃ x, l = x ++ s := by
  unfold endsB
  constructor
  · intro h
    simp only [Bool.and_eq_true, decide_eq_true_eq, beq_iff_eq] at h
    refine ⟨l.take (l.length - s.length), ?_⟩
    conv => { lhs; rw [← List.take_append_drop (l.length - s.length) l, h.2] }
  · rintro ⟨x, rfl⟩
    simp
theorem canon_ok {l h : List UInt8} (e : canonF l = (h, 0)) : h = fold l ∧ l.length ≤ 253 ∧ (split 46 (fold l)).all label = true := by
  unfold canonF at e
  split at e
  · cases e
  · split at e
    · rename_i h1 h2
      cases e
      exact ⟨rfl, by omega, h2⟩
    · cases e
theorem mem_after (a : List UInt8) : ∀ l : List UInt8, a ∈ after l ↔ ∃ x, l = x ++ 46 :: a
  | [] => by simp [after]
  | c :: r => by
    have ih := mem_after a r
    unfold after
    constructor
    · intro h
      split at h
      · rename_i hc
        rcases List.mem_cons.1 h with rfl | h
        · exact ⟨[], by rw [hc]; rfl⟩
        · obtain ⟨x, rfl⟩ := ih.1 h
          exact ⟨c :: x, rfl⟩
      · obtain ⟨x, rfl⟩ := ih.1 h
        exact ⟨c :: x, rfl⟩
    · rintro ⟨x, hx⟩
      cases x with
      | nil =>
        simp at hx
        rw [if_pos hx.1, hx.2]; exact List.mem_cons_self
      | cons d x =>
        simp only [List.cons_append, List.cons.injEq] at hx
        have := ih.2 ⟨x, hx.2⟩
        split
        · exact List.mem_cons_of_mem _ this
        · exact this
theorem after_none (l : List UInt8) (h : l.contains 46 = false) : after l = [] := by
  induction l with
  | nil => rfl
  | cons c r ih =>
    simp only [List.contains_cons, Bool.or_eq_false_iff, beq_eq_false_iff_ne] at h
    unfold after
    rw [if_neg (fun e => h.1 e.symm), ih h.2]
theorem after_at (a r : List UInt8) (h : a.contains 46 = false) : after (a ++ 46 :: r) = r :: after r := by
  induction a with
  | nil => simp [after]
  | cons c a ih =>
    simp only [List.contains_cons, Bool.or_eq_false_iff, beq_eq_false_iff_ne] at h
    rw [List.cons_append, after, if_neg (fun e => h.1 e.symm), ih h.2]
theorem after_len (l : List UInt8) : (after l).length ≤ l.length := by
  induction l with
  | nil => exact Nat.le_refl _
  | cons c l ih => unfold after; split <;> simp <;> omega
end Go.Proofs.YtpffdbplcgmilaaGreatDoor.HostP
end
