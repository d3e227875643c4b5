/- Texts of the proof, joined: Wk, WordV, Shelf, WordC, Range. -/
import Derived.Test.YtlfdjpgghiemfaaGreatDoorG14
import Derived.Test.YtlfdjpgghiemfaaGreatDoorG11
import Derived.Test.YtlfdjpgghiemfaaGreatDoorG2
import Derived.Shelf.Small.Wraps
import Derived.Shelf.Strconv.Itoa3
import Derived.Shelf.Strconv.ErrVar
import Derived.Shelf.Strconv.ErrVarAll
import Derived.Shelf.Strconv.ParseInt10All
import Derived.Shelf.Strings.Shaped
import Derived.Shelf.Strings.LastIndex
import Derived.Shelf.GgClosure.StringsRunes
import Derived.Shelf.Unicode.Decode
import Derived.Shelf.Strings.FieldsFuncGrows
import Derived.Shelf.Strings.BuilderCap
import Derived.Shelf.Slices.Turned
import Derived.Shelf.Slices.Clone
import Derived.Shelf.Slices.SearchI
import Derived.Shelf.SlicesE.IndexFunc
import Derived.Shelf.Path.Small
import Derived.Shelf.Strings.SlTrimAscii
import Derived.RangeFuncNested
section
namespace Go.Proofs.YtlfdjpgghiemfaaGreatDoor.Abs
open Go.RowKit Mem
section
variable {p q q':Prop} {α:Prop}
theorem zt (k:q) (h:q→p:=by intro hk;first|(with_reducible first|exact iQ hk|exact eD hk|exact iB mixed hk|exact mr hk|exact iD hk|exact fE hk|exact iF hk|exact jf hk|exact fO hk|exact iy hk|exact rD hk|exact jy hk|exact ic hk|exact mg hk)|exact iC rfl hk|exact fJ rfl hk):p:=h k
theorem zr (k:q) (h:q→p:=by intro hk;first|exact rA hk):p:=h k
theorem zo (k:q) (h:q→p:=by intro hk;first|exact dP [] af rfl hk|exact qz hk|exact kP (by kernel_rfl) hk):p:=h k
theorem zn (k:q) (h:q→p:=by intro hk;first|exact qz hk|exact kP (by kernel_rfl) hk):p:=h k
theorem zA (k:q) (h:q→p:=by intro hk;first|exact mQ hk|exact sQ hk|exact mF hk|exact qQ hk|exact ab9 hk|exact qY hk):p:=h k
theorem zL (k:q) (h:q→p:=by intro hk;first|exact abo af hk|exact aa6 af hk|exact ZQ af hk|exact abP hk):p:=h k
theorem zI (k:q) (h:q→p:=by intro hk;first|exact acG af hk|exact ZH af hk|exact qO af hk|exact rX af hk|exact rq af hk|exact mR af hk):p:=h k
theorem zS (k:q) (h:q→p:=by intro hk;first|exact abH af hk|exact aaH af hk|exact aaF af hk|exact Tp af hk|exact abj af hk):p:=h k
theorem zB (k:q) (h:q→p:=by intro hk;first|exact yg af hk|exact BN af hk):p:=h k
theorem zM (k:q) (h:q→p:=by intro hk;first|exact ads hk|exact LD af hk|exact ME af hk|exact Uy af hk|exact Sm af hk):p:=h k
theorem zc1 (k:q) (h:q→p:=by intro hk;first|exact l5 hk|exact mq hk):p:=h k
theorem zc2 (k:q) (h:q→p:=by intro hk;first|exact aav hk|exact aaS hk):p:=h k
theorem zc3 (k:q) (h:q→p:=by intro hk;first|exact lZ hk|exact mM hk):p:=h k
theorem zc4 (k:q) (h:q→p:=by intro hk;first|exact aa9 hk|exact abu hk):p:=h k
theorem zc5 (k:q) (h:q→p:=by intro hk;first|exact DL hk|exact Eo hk|exact Cw hk|exact xW hk|exact xU hk|exact CZ af hk):p:=h k
theorem zc6 (k:q) (h:q→p:=by intro hk;first|exact abf hk|exact aaw hk|exact YV hk|exact XM hk|exact aaD hk|exact aaN hk|exact abx af hk):p:=h k
theorem zs1 (k:q) (k':q') (h:q→q'→p:=by intro hk hl;exact sM hk hl):p:=h k k'
theorem zs2 (k:q) (k':q') (h:q→q'→p:=by intro hk hl;exact ab5 hk hl):p:=h k k'
theorem zs3 (k:q) (k':q') (h:q→q'→p:=by intro hk hl;exact rE hk hl):p:=h k k'
theorem zs4 (k:q) (k':q') (h:q→q'→p:=by intro hk hl;exact acN hk hl):p:=h k k'
theorem zs5 (k:q) (k':q') (h:q→q'→p:=by intro hk hl;first|exact KD hk hl|exact Dz hk hl):p:=h k k'
theorem zs6 (k:q) (k':q') (h:q→q'→p:=by intro hk hl;first|exact ach hk hl|exact abn hk hl):p:=h k k'
theorem zk (c:α) (k:q) (h:α→q→p:=by intro hc hk;first|exact UG (hc _) hk|exact UG hc hk):p:=h c k
theorem zV (k:q) (h:q→p:=by intro hk;first|exact zt hk|exact isR (zo hk)):p:=h k
theorem zW (k:q) (h:q→p:=by intro hk;first|exact zt hk|(refine isR ?_;first|exact zo hk|exact zA hk|exact zL hk|exact zI hk|exact zS hk|exact zB hk|exact zc1 hk|exact zc2 hk|exact zc3 hk|exact zc4 hk|exact zc5 hk|exact zc6 hk|exact QX af hk)|exact zr hk):p:=h k
theorem zs (k:q) (k':q') (h:q→q'→p:=by intro hk hl;refine isR ?_;first|exact zs1 hk hl|exact zs2 hk hl|exact zs3 hk hl|exact zs4 hk hl|exact zs5 hk hl|exact zs6 hk hl):p:=h k k'
theorem zq (k:q) (k':q') (h:q→q'→p:=by intro hk hl;exact dB rfl hk hl):p:=h k k'
end
end Go.Proofs.YtlfdjpgghiemfaaGreatDoor.Abs
end
section
namespace Go.Proofs.YtlfdjpgghiemfaaGreatDoor.ac0
open Go.RowKit Mem bR yD oq cZ
end Go.Proofs.YtlfdjpgghiemfaaGreatDoor.ac0
end
section
namespace Go.Proofs
open Go.Shelf
def Tryz.KW:Go.Shelf.Ren:=⟨fun|160=>168|232=>216|231=>215|227=>217|234=>219|233=>218|236=>221|235=>220|228=>242|271=>245|151=>244|197=>243|120=>259|152=>258|260=>257|137=>71|119=>268|224=>261|225=>260|217=>103|266=>125|n=>n,fun|9=>9|4=>4|3=>3|5=>5|117=>267|116=>266|0=>0|124=>270|21=>21|105=>293|46=>255|119=>317|139=>320|138=>319|n=>n,fun|3=>6|4=>7|n=>n⟩
theorem Tryz.Oj:Go.Proofs.Lays.n160 Tryz.prog Tryz.KW:={
 mixed:=by kernel_rfl
 f119:=Tryz.func268.trans (congrArg some (by kernel_rfl))
 f120:=Tryz.func259.trans (congrArg some (by kernel_rfl))
 f137:=Tryz.func71.trans (congrArg some (by kernel_rfl))
 f151:=Tryz.func244.trans (congrArg some (by kernel_rfl))
 f152:=Tryz.func258.trans (congrArg some (by kernel_rfl))
 f160:=Tryz.func168.trans (congrArg some (by kernel_rfl))
 f197:=Tryz.func243.trans (congrArg some (by kernel_rfl))
 f217:=Tryz.func103.trans (congrArg some (by kernel_rfl))
 f224:=Tryz.func261.trans (congrArg some (by kernel_rfl))
 f225:=Tryz.func260.trans (congrArg some (by kernel_rfl))
 f227:=Tryz.func217.trans (congrArg some (by kernel_rfl))
 f228:=Tryz.func242.trans (congrArg some (by kernel_rfl))
 f231:=Tryz.func215.trans (congrArg some (by kernel_rfl))
 f232:=Tryz.func216.trans (congrArg some (by kernel_rfl))
 f233:=Tryz.func218.trans (congrArg some (by kernel_rfl))
 f234:=Tryz.func219.trans (congrArg some (by kernel_rfl))
 f235:=Tryz.func220.trans (congrArg some (by kernel_rfl))
 f236:=Tryz.func221.trans (congrArg some (by kernel_rfl))
 f260:=Tryz.func257.trans (congrArg some (by kernel_rfl))
 f266:=Tryz.func125.trans (congrArg some (by kernel_rfl))
 f271:=Tryz.func245.trans (congrArg some (by kernel_rfl))
 t0:=Tryz.underlying0
 a0:=Tryz.isAgg0
 z0:=Tryz.sizeOf0
 v0:=Tryz.zeroValue0
 t3:=Tryz.underlying3
 a3:=Tryz.isAgg3
 z3:=Tryz.sizeOf3
 v3:=Tryz.zeroValue3
 t4:=Tryz.underlying4
 a4:=Tryz.isAgg4
 z4:=Tryz.sizeOf4
 v4:=Tryz.zeroValue4
 t5:=Tryz.underlying5
 a5:=Tryz.isAgg5
 z5:=Tryz.sizeOf5
 v5:=Tryz.zeroValue5
 t9:=Tryz.underlying9
 a9:=Tryz.isAgg9
 z9:=Tryz.sizeOf9
 v9:=Tryz.zeroValue9
 t21:=Tryz.underlying21
 a21:=Tryz.isAgg21
 z21:=Tryz.sizeOf21
 v21:=Tryz.zeroValue21
 t46:=Tryz.underlying255
 a46:=Tryz.isAgg255
 z46:=Tryz.sizeOf255
 v46:=Tryz.zeroValue255
 t105:=Tryz.underlying293
 a105:=Tryz.isAgg293
 z105:=Tryz.sizeOf293
 v105:=Tryz.zeroValue293
 t116:=Tryz.underlying266
 a116:=Tryz.isAgg266
 z116:=Tryz.sizeOf266
 t117:=Tryz.underlying267
 a117:=Tryz.isAgg267
 z117:=Tryz.sizeOf267
 v117:=Tryz.zeroValue267
 t119:=Tryz.underlying317
 a119:=Tryz.isAgg317
 z119:=Tryz.sizeOf317
 t124:=Tryz.underlying270
 a124:=Tryz.isAgg270
 z124:=Tryz.sizeOf270
 v124:=Tryz.zeroValue270
 t138:=Tryz.underlying319
 a138:=Tryz.isAgg319
 z138:=Tryz.sizeOf319
 v138:=Tryz.zeroValue319
 t139:=Tryz.underlying320
 a139:=Tryz.isAgg320
 z139:=Tryz.sizeOf320
 v139:=Tryz.zeroValue320
 g3:=by kernel_rfl
 g4:=by kernel_rfl }
open Go.RowKit in
theorem Tryz.strings_Trim_one (s:ByteArray) (c:UInt8) (hc:c.toNat<128) (w:World) (hs:s.size≤9223372036854775807) :
  Calls Tryz.prog 168 #[.string s,.string ⟨#[c]⟩] w fun e w'=>e = .returned (.string ⟨(Lib.trimB s.data.toList c).toArray⟩)∧(w'=w∨w'=w.drew):=Any.strings_Trim_one Tryz.Oj s c hc w hs
def Tryz.JD:Go.Shelf.Ren:=⟨fun|137=>71|217=>103|266=>125|n=>n,fun|9=>9|5=>5|3=>3|n=>n,fun|n=>n⟩
theorem Tryz.Xb:Go.Proofs.Lays.n137 Tryz.prog Tryz.JD:={
 mixed:=by kernel_rfl
 f137:=Tryz.func71.trans (congrArg some (by kernel_rfl))
 f217:=Tryz.func103.trans (congrArg some (by kernel_rfl))
 f266:=Tryz.func125.trans (congrArg some (by kernel_rfl))
 t3:=Tryz.underlying3
 a3:=Tryz.isAgg3
 z3:=Tryz.sizeOf3
 v3:=Tryz.zeroValue3
 t5:=Tryz.underlying5
 a5:=Tryz.isAgg5
 z5:=Tryz.sizeOf5
 v5:=Tryz.zeroValue5
 t9:=Tryz.underlying9
 a9:=Tryz.isAgg9
 z9:=Tryz.sizeOf9
 v9:=Tryz.zeroValue9 }
open Go.RowKit in
theorem Tryz.strings_IndexByte (s:ByteArray) (c:Int) (w:World) :
  Calls Tryz.prog 71 #[.string s,.int .u8 c] w fun e w'=>e = .returned (.int .i64 (Lib.indexByte s.data.toList c.toNat.toUInt8))∧w'=w:=Any.strings_IndexByte Tryz.Xb s c w
def Tryz.GK:Go.Shelf.Ren:=⟨fun|171=>50|243=>87|246=>114|283=>150|284=>151|285=>152|286=>153|129=>206|317=>205|318=>207|319=>208|320=>209|337=>238|338=>239|n=>n,fun|3=>3|9=>9|2=>2|4=>4|171=>200|0=>0|53=>201|37=>98|5=>5|173=>204|212=>252|51=>253|20=>20|213=>254|46=>255|232=>308|233=>309|n=>n,fun|17=>1|18=>4|19=>5|n=>n⟩
theorem Tryz.Ul:Go.Proofs.LaysM.n171 Tryz.prog Tryz.GK:={
 mixed:=by kernel_rfl
 f129:=Tryz.func206.trans (congrArg some (by kernel_rfl))
 f171:=Tryz.func50.trans (congrArg some (by kernel_rfl))
 f243:=Tryz.func87.trans (congrArg some (by kernel_rfl))
 f246:=Tryz.func114.trans (congrArg some (by kernel_rfl))
 f283:=Tryz.func150.trans (congrArg some (by kernel_rfl))
 f284:=Tryz.func151.trans (congrArg some (by kernel_rfl))
 f285:=Tryz.func152.trans (congrArg some (by kernel_rfl))
 f286:=Tryz.func153.trans (congrArg some (by kernel_rfl))
 f317:=Tryz.func205.trans (congrArg some (by kernel_rfl))
 f318:=Tryz.func207.trans (congrArg some (by kernel_rfl))
 f319:=Tryz.func208.trans (congrArg some (by kernel_rfl))
 f320:=Tryz.func209.trans (congrArg some (by kernel_rfl))
 f337:=Tryz.func238.trans (congrArg some (by kernel_rfl))
 f338:=Tryz.func239.trans (congrArg some (by kernel_rfl))
 t0:=Tryz.underlying0
 a0:=Tryz.isAgg0
 z0:=Tryz.sizeOf0
 v0:=Tryz.zeroValue0
 t2:=Tryz.underlying2
 a2:=Tryz.isAgg2
 z2:=Tryz.sizeOf2
 v2:=Tryz.zeroValue2
 t3:=Tryz.underlying3
 a3:=Tryz.isAgg3
 z3:=Tryz.sizeOf3
 v3:=Tryz.zeroValue3
 t4:=Tryz.underlying4
 a4:=Tryz.isAgg4
 z4:=Tryz.sizeOf4
 v4:=Tryz.zeroValue4
 t5:=Tryz.underlying5
 a5:=Tryz.isAgg5
 z5:=Tryz.sizeOf5
 v5:=Tryz.zeroValue5
 t9:=Tryz.underlying9
 a9:=Tryz.isAgg9
 z9:=Tryz.sizeOf9
 v9:=Tryz.zeroValue9
 t20:=Tryz.underlying20
 a20:=Tryz.isAgg20
 z20:=Tryz.sizeOf20
 v20:=Tryz.zeroValue20
 t37:=Tryz.underlying98
 a37:=Tryz.isAgg98
 z37:=Tryz.sizeOf98
 v37:=Tryz.zeroValue98
 t46:=Tryz.underlying255
 a46:=Tryz.isAgg255
 z46:=Tryz.sizeOf255
 v46:=Tryz.zeroValue255
 t51:=Tryz.underlying253
 a51:=Tryz.isAgg253
 z51:=Tryz.sizeOf253
 v51:=Tryz.zeroValue253
 t53:=Tryz.underlying201
 a53:=Tryz.isAgg201
 z53:=Tryz.sizeOf201
 v53:=Tryz.zeroValue201
 t171:=Tryz.underlying200
 a171:=Tryz.isAgg200
 z171:=Tryz.sizeOf200
 v171:=Tryz.zeroValue200
 t173:=Tryz.underlying204
 a173:=Tryz.isAgg204
 z173:=Tryz.sizeOf204
 v173:=Tryz.zeroValue204
 t212:=Tryz.underlying252
 a212:=Tryz.isAgg252
 z212:=Tryz.sizeOf252
 v212:=Tryz.zeroValue252
 t213:=Tryz.underlying254
 a213:=Tryz.isAgg254
 z213:=Tryz.sizeOf254
 t232:=Tryz.underlying308
 a232:=Tryz.isAgg308
 z232:=Tryz.sizeOf308
 v232:=Tryz.zeroValue308
 t233:=Tryz.underlying309
 a233:=Tryz.isAgg309
 z233:=Tryz.sizeOf309
 v233:=Tryz.zeroValue309
 g17:=by kernel_rfl
 g18:=by kernel_rfl
 g19:=by kernel_rfl
 i0:=by kernel_rfl
 i2:=by kernel_rfl
 i3:=by kernel_rfl
 i4:=by kernel_rfl
 i5:=by kernel_rfl
 i9:=by kernel_rfl
 i20:=by kernel_rfl
 i37:=by kernel_rfl
 i46:=by kernel_rfl
 i51:=by kernel_rfl
 i53:=by kernel_rfl
 i171:=by kernel_rfl
 i173:=by kernel_rfl
 i212:=by kernel_rfl
 i232:=by kernel_rfl
 i233:=by kernel_rfl
 m17:=by kernel_rfl
 m18:=by kernel_rfl
 m19:=by kernel_rfl }
open Go.RowKit Go.Sort Go.Lib in
theorem Tryz.strconv_Itoa (n : Int) (h0 : -9223372036854775808 ≤ n) (h1 : n ≤ 9223372036854775807) (w : World) (htab : Lib.TabIs Tryz.prog w "internal/strconv.uint64pow10" .u64 Lib.pow10Tab) :
  Calls Tryz.prog 50 #[.int .i64 n] w fun e w'=>e = .returned (.string ⟨(Lib.itoa n).toArray⟩)∧∃ k os,w'=grow (w.drewN k) os:=Any.strconv_Itoa Tryz.Ul n h0 h1 w htab
def Tryz.I5:Go.Shelf.Ren:=⟨fun|172=>96|244=>122|245=>123|247=>160|279=>161|280=>162|281=>163|282=>164|287=>211|316=>212|171=>50|205=>213|321=>240|322=>241|243=>87|246=>114|283=>150|284=>151|285=>152|286=>153|129=>206|317=>205|318=>207|319=>208|320=>209|337=>238|338=>239|n=>n,fun|9=>9|3=>3|75=>102|76=>103|4=>4|5=>5|167=>209|37=>98|0=>0|85=>210|2=>2|168=>212|53=>201|175=>258|46=>255|210=>261|127=>141|145=>292|143=>290|21=>21|171=>200|173=>204|212=>252|51=>253|20=>20|213=>254|232=>308|233=>309|80=>106|n=>n,fun|15=>2|16=>3|17=>1|18=>4|19=>5|n=>n⟩
theorem Tryz.Ei:Go.Proofs.LaysC.n172 Tryz.prog Tryz.I5:={
 mixed:=by kernel_rfl
 f129:=Tryz.func206.trans (congrArg some (by kernel_rfl))
 f171:=Tryz.func50.trans (congrArg some (by kernel_rfl))
 f172:=Tryz.func96.trans (congrArg some (by kernel_rfl))
 f205:=Tryz.func213.trans (congrArg some (by kernel_rfl))
 f243:=Tryz.func87.trans (congrArg some (by kernel_rfl))
 f244:=Tryz.func122.trans (congrArg some (by kernel_rfl))
 f245:=Tryz.func123.trans (congrArg some (by kernel_rfl))
 f246:=Tryz.func114.trans (congrArg some (by kernel_rfl))
 f247:=Tryz.func160.trans (congrArg some (by kernel_rfl))
 f279:=Tryz.func161.trans (congrArg some (by kernel_rfl))
 f280:=Tryz.func162.trans (congrArg some (by kernel_rfl))
 f281:=Tryz.func163.trans (congrArg some (by kernel_rfl))
 f282:=Tryz.func164.trans (congrArg some (by kernel_rfl))
 f283:=Tryz.func150.trans (congrArg some (by kernel_rfl))
 f284:=Tryz.func151.trans (congrArg some (by kernel_rfl))
 f285:=Tryz.func152.trans (congrArg some (by kernel_rfl))
 f286:=Tryz.func153.trans (congrArg some (by kernel_rfl))
 f287:=Tryz.func211.trans (congrArg some (by kernel_rfl))
 f316:=Tryz.func212.trans (congrArg some (by kernel_rfl))
 f317:=Tryz.func205.trans (congrArg some (by kernel_rfl))
 f318:=Tryz.func207.trans (congrArg some (by kernel_rfl))
 f319:=Tryz.func208.trans (congrArg some (by kernel_rfl))
 f320:=Tryz.func209.trans (congrArg some (by kernel_rfl))
 f321:=Tryz.func240.trans (congrArg some (by kernel_rfl))
 f322:=Tryz.func241.trans (congrArg some (by kernel_rfl))
 f337:=Tryz.func238.trans (congrArg some (by kernel_rfl))
 f338:=Tryz.func239.trans (congrArg some (by kernel_rfl))
 t0:=Tryz.underlying0
 a0:=Tryz.isAgg0
 z0:=Tryz.sizeOf0
 v0:=Tryz.zeroValue0
 t2:=Tryz.underlying2
 a2:=Tryz.isAgg2
 z2:=Tryz.sizeOf2
 v2:=Tryz.zeroValue2
 t3:=Tryz.underlying3
 a3:=Tryz.isAgg3
 z3:=Tryz.sizeOf3
 v3:=Tryz.zeroValue3
 t4:=Tryz.underlying4
 a4:=Tryz.isAgg4
 z4:=Tryz.sizeOf4
 v4:=Tryz.zeroValue4
 t5:=Tryz.underlying5
 a5:=Tryz.isAgg5
 z5:=Tryz.sizeOf5
 v5:=Tryz.zeroValue5
 t9:=Tryz.underlying9
 a9:=Tryz.isAgg9
 z9:=Tryz.sizeOf9
 v9:=Tryz.zeroValue9
 t20:=Tryz.underlying20
 a20:=Tryz.isAgg20
 z20:=Tryz.sizeOf20
 v20:=Tryz.zeroValue20
 t21:=Tryz.underlying21
 a21:=Tryz.isAgg21
 z21:=Tryz.sizeOf21
 v21:=Tryz.zeroValue21
 t37:=Tryz.underlying98
 a37:=Tryz.isAgg98
 z37:=Tryz.sizeOf98
 v37:=Tryz.zeroValue98
 t46:=Tryz.underlying255
 a46:=Tryz.isAgg255
 z46:=Tryz.sizeOf255
 v46:=Tryz.zeroValue255
 t51:=Tryz.underlying253
 a51:=Tryz.isAgg253
 z51:=Tryz.sizeOf253
 v51:=Tryz.zeroValue253
 t53:=Tryz.underlying201
 a53:=Tryz.isAgg201
 z53:=Tryz.sizeOf201
 v53:=Tryz.zeroValue201
 t75:=Tryz.underlying102
 a75:=Tryz.isAgg102
 z75:=Tryz.sizeOf102
 v75:=Tryz.zeroValue102
 t76:=Tryz.underlying103
 a76:=Tryz.isAgg103
 z76:=Tryz.sizeOf103
 v76:=Tryz.zeroValue103
 t85:=Tryz.underlying210
 a85:=Tryz.isAgg210
 z85:=Tryz.sizeOf210
 v85:=Tryz.zeroValue210
 t127:=Tryz.underlying141
 a127:=Tryz.isAgg141
 z127:=Tryz.sizeOf141
 v127:=Tryz.zeroValue141
 t143:=Tryz.underlying290
 a143:=Tryz.isAgg290
 z143:=Tryz.sizeOf290
 v143:=Tryz.zeroValue290
 t145:=Tryz.underlying292
 a145:=Tryz.isAgg292
 z145:=Tryz.sizeOf292
 v145:=Tryz.zeroValue292
 t167:=Tryz.underlying209
 a167:=Tryz.isAgg209
 z167:=Tryz.sizeOf209
 v167:=Tryz.zeroValue209
 t168:=Tryz.underlying212
 a168:=Tryz.isAgg212
 z168:=Tryz.sizeOf212
 v168:=Tryz.zeroValue212
 t171:=Tryz.underlying200
 a171:=Tryz.isAgg200
 z171:=Tryz.sizeOf200
 v171:=Tryz.zeroValue200
 t173:=Tryz.underlying204
 a173:=Tryz.isAgg204
 z173:=Tryz.sizeOf204
 v173:=Tryz.zeroValue204
 t175:=Tryz.underlying258
 a175:=Tryz.isAgg258
 z175:=Tryz.sizeOf258
 v175:=Tryz.zeroValue258
 t210:=Tryz.underlying261
 a210:=Tryz.isAgg261
 z210:=Tryz.sizeOf261
 v210:=Tryz.zeroValue261
 t212:=Tryz.underlying252
 a212:=Tryz.isAgg252
 z212:=Tryz.sizeOf252
 v212:=Tryz.zeroValue252
 t213:=Tryz.underlying254
 a213:=Tryz.isAgg254
 z213:=Tryz.sizeOf254
 t232:=Tryz.underlying308
 a232:=Tryz.isAgg308
 z232:=Tryz.sizeOf308
 v232:=Tryz.zeroValue308
 t233:=Tryz.underlying309
 a233:=Tryz.isAgg309
 z233:=Tryz.sizeOf309
 v233:=Tryz.zeroValue309
 g15:=by kernel_rfl
 g16:=by kernel_rfl
 g17:=by kernel_rfl
 g18:=by kernel_rfl
 g19:=by kernel_rfl
 t80:=Tryz.underlying106
 a80:=Tryz.isAgg106
 z80:=Tryz.sizeOf106
 v80:=Tryz.zeroValue106
 i0:=by kernel_rfl
 i2:=by kernel_rfl
 i3:=by kernel_rfl
 i4:=by kernel_rfl
 i5:=by kernel_rfl
 i9:=by kernel_rfl
 i20:=by kernel_rfl
 i21:=by kernel_rfl
 i37:=by kernel_rfl
 i46:=by kernel_rfl
 i51:=by kernel_rfl
 i53:=by kernel_rfl
 i75:=by kernel_rfl
 i76:=by kernel_rfl
 i80:=by kernel_rfl
 i85:=by kernel_rfl
 i127:=by kernel_rfl
 i143:=by kernel_rfl
 i145:=by kernel_rfl
 i167:=by kernel_rfl
 i168:=by kernel_rfl
 i171:=by kernel_rfl
 i173:=by kernel_rfl
 i175:=by kernel_rfl
 i210:=by kernel_rfl
 i212:=by kernel_rfl
 i232:=by kernel_rfl
 i233:=by kernel_rfl
 m15:=by kernel_rfl
 m16:=by kernel_rfl
 m17:=by kernel_rfl
 m18:=by kernel_rfl
 m19:=by kernel_rfl
 c0:=by kernel_rfl
 c2:=by kernel_rfl
 c3:=by kernel_rfl
 c4:=by kernel_rfl
 c5:=by kernel_rfl
 c9:=by kernel_rfl
 c20:=by kernel_rfl
 c21:=by kernel_rfl
 c37:=by kernel_rfl
 c46:=by kernel_rfl
 c51:=by kernel_rfl
 c53:=by kernel_rfl
 c75:=by kernel_rfl
 c76:=by kernel_rfl
 c80:=by kernel_rfl
 c85:=by kernel_rfl
 c127:=by kernel_rfl
 c143:=by kernel_rfl
 c145:=by kernel_rfl
 c167:=by kernel_rfl
 c168:=by kernel_rfl
 c171:=by kernel_rfl
 c173:=by kernel_rfl
 c175:=by kernel_rfl
 c210:=by kernel_rfl
 c212:=by kernel_rfl
 c213:=by kernel_rfl
 c232:=by kernel_rfl
 c233:=by kernel_rfl }
open Go.RowKit in
theorem Tryz.strconv_Atoi_ok (s:ByteArray) (hmax:s.size≤9223372036854775806) (v:Int) (h:Lib.atoiAll s.data.toList = .ok v) (w:World) :
  Calls Tryz.prog 96 #[.string s] w fun e w'=>e = .returned (.tuple #[.int .i64 v,.nilIface])∧(w'=w∨∃ t,w'=Lib.bytesWorld w 5 t):=Any.strconv_Atoi_ok Tryz.Ei s hmax v h w
open Go.RowKit in
theorem Tryz.strconv_Atoi_syntax (s:ByteArray) (hlim:s.size≤281474976710656) (h:(∀ v,Lib.atoiAll s.data.toList ≠ .ok v)∧Lib.atoiAll s.data.toList ≠ .range) (ev:Value) (w:World) (hv:w.cell? ⟨2,0,none⟩=some ev) (hev:ev = .nilIface∨∃ te pe,ev = .iface te pe) :
  Calls Tryz.prog 96 #[.string s] w fun e w'=>∃ N,e = .returned (.tuple #[.int .i64 (0),.iface 212 (.pointer (some ⟨N,0,none⟩))])∧w.heap.size≤N∧w'.heap[N]? = some (.cells #[.string ⟨#[65,116,111,105]⟩,.string s,ev] 261 (0,0))∧Below w.heap.size w w':=Any.strconv_Atoi_syntax Tryz.Ei s hlim (by rcases he:Lib.atoiAll s.data.toList with v|_|_<;>first|rfl|exact absurd he (h.1 v)|exact absurd he h.2) ev w hv hev
open Go.RowKit in
theorem Tryz.strconv_Atoi_range (s:ByteArray) (hlim:s.size≤281474976710656) (h:Lib.atoiAll s.data.toList = .range) (ev:Value) (w:World) (hv:w.cell? ⟨3,0,none⟩=some ev) (hev:ev = .nilIface∨∃ te pe,ev = .iface te pe) :
  Calls Tryz.prog 96 #[.string s] w fun e w'=>∃ N,e = .returned (.tuple #[.int .i64 (Lib.atoiSat s.data.toList),.iface 212 (.pointer (some ⟨N,0,none⟩))])∧w.heap.size≤N∧w'.heap[N]? = some (.cells #[.string ⟨#[65,116,111,105]⟩,.string s,ev] 261 (0,0))∧Below w.heap.size w w':=Any.strconv_Atoi_range Tryz.Ei s hlim h ev w hv hev
def Tryz.Js:Go.Shelf.Ren:=⟨fun|143=>223|219=>246|217=>103|225=>260|224=>261|267=>262|266=>125|314=>269|n=>n,fun|9=>9|3=>3|4=>4|5=>5|46=>255|146=>321|51=>253|n=>n,fun|1=>0|n=>n⟩
theorem Tryz.XK:Go.Proofs.Lays.n143 Tryz.prog Tryz.Js:={
 mixed:=by kernel_rfl
 f143:=Tryz.func223.trans (congrArg some (by kernel_rfl))
 f217:=Tryz.func103.trans (congrArg some (by kernel_rfl))
 f219:=Tryz.func246.trans (congrArg some (by kernel_rfl))
 f224:=Tryz.func261.trans (congrArg some (by kernel_rfl))
 f225:=Tryz.func260.trans (congrArg some (by kernel_rfl))
 f266:=Tryz.func125.trans (congrArg some (by kernel_rfl))
 f267:=Tryz.func262.trans (congrArg some (by kernel_rfl))
 f314:=Tryz.func269.trans (congrArg some (by kernel_rfl))
 t3:=Tryz.underlying3
 a3:=Tryz.isAgg3
 z3:=Tryz.sizeOf3
 v3:=Tryz.zeroValue3
 t4:=Tryz.underlying4
 a4:=Tryz.isAgg4
 z4:=Tryz.sizeOf4
 v4:=Tryz.zeroValue4
 t5:=Tryz.underlying5
 a5:=Tryz.isAgg5
 z5:=Tryz.sizeOf5
 v5:=Tryz.zeroValue5
 t9:=Tryz.underlying9
 a9:=Tryz.isAgg9
 z9:=Tryz.sizeOf9
 v9:=Tryz.zeroValue9
 t46:=Tryz.underlying255
 a46:=Tryz.isAgg255
 z46:=Tryz.sizeOf255
 v46:=Tryz.zeroValue255
 t51:=Tryz.underlying253
 a51:=Tryz.isAgg253
 z51:=Tryz.sizeOf253
 v51:=Tryz.zeroValue253
 t146:=Tryz.underlying321
 a146:=Tryz.isAgg321
 z146:=Tryz.sizeOf321
 v146:=Tryz.zeroValue321
 g1:=by kernel_rfl }
open Go.RowKit Go.Lib in
theorem Tryz.strings_Index (s sub:ByteArray) (m:Int) (w:World) (hs:s.size<4294967281) (hm:w.cell? ⟨0,0,none⟩=some (.int .i64 m)) :
  Calls Tryz.prog 223 #[.string s,.string sub] w fun e w'=>e = .returned (.int .i64 (Lib.index s.data.toList sub.data.toList))∧w'=w:=Any.strings_Index Tryz.XK s sub m w hs hm
def Tryz.Kc:Go.Shelf.Ren:=⟨fun|144=>173|143=>223|219=>246|217=>103|225=>260|224=>261|267=>262|266=>125|314=>269|n=>n,fun|9=>9|4=>4|3=>3|5=>5|46=>255|146=>321|51=>253|n=>n,fun|1=>0|n=>n⟩
theorem Tryz.XT:Go.Proofs.Lays.n144 Tryz.prog Tryz.Kc:={
 mixed:=by kernel_rfl
 f143:=Tryz.func223.trans (congrArg some (by kernel_rfl))
 f144:=Tryz.func173.trans (congrArg some (by kernel_rfl))
 f217:=Tryz.func103.trans (congrArg some (by kernel_rfl))
 f219:=Tryz.func246.trans (congrArg some (by kernel_rfl))
 f224:=Tryz.func261.trans (congrArg some (by kernel_rfl))
 f225:=Tryz.func260.trans (congrArg some (by kernel_rfl))
 f266:=Tryz.func125.trans (congrArg some (by kernel_rfl))
 f267:=Tryz.func262.trans (congrArg some (by kernel_rfl))
 f314:=Tryz.func269.trans (congrArg some (by kernel_rfl))
 t3:=Tryz.underlying3
 a3:=Tryz.isAgg3
 z3:=Tryz.sizeOf3
 v3:=Tryz.zeroValue3
 t4:=Tryz.underlying4
 a4:=Tryz.isAgg4
 z4:=Tryz.sizeOf4
 v4:=Tryz.zeroValue4
 t5:=Tryz.underlying5
 a5:=Tryz.isAgg5
 z5:=Tryz.sizeOf5
 v5:=Tryz.zeroValue5
 t9:=Tryz.underlying9
 a9:=Tryz.isAgg9
 z9:=Tryz.sizeOf9
 v9:=Tryz.zeroValue9
 t46:=Tryz.underlying255
 a46:=Tryz.isAgg255
 z46:=Tryz.sizeOf255
 v46:=Tryz.zeroValue255
 t51:=Tryz.underlying253
 a51:=Tryz.isAgg253
 z51:=Tryz.sizeOf253
 v51:=Tryz.zeroValue253
 t146:=Tryz.underlying321
 a146:=Tryz.isAgg321
 z146:=Tryz.sizeOf321
 v146:=Tryz.zeroValue321
 g1:=by kernel_rfl }
open Go.RowKit Go.Lib in
theorem Tryz.strings_Contains_one (s:ByteArray) (c:UInt8) (w:World) :
  Calls Tryz.prog 173 #[.string s,.string ⟨#[c]⟩] w fun e w'=>e = .returned (.bool (decide (0≤Lib.indexByte s.data.toList c)))∧w'=w:=Any.strings_Contains_one Tryz.XT s c w
def Tryz.Ib:Go.Shelf.Ren:=⟨fun|219=>246|217=>103|225=>260|224=>261|267=>262|266=>125|314=>269|n=>n,fun|9=>9|3=>3|4=>4|5=>5|46=>255|146=>321|51=>253|n=>n,fun|1=>0|n=>n⟩
theorem Tryz.Sw:Go.Proofs.LaysM.n219 Tryz.prog Tryz.Ib:={
 mixed:=by kernel_rfl
 f217:=Tryz.func103.trans (congrArg some (by kernel_rfl))
 f219:=Tryz.func246.trans (congrArg some (by kernel_rfl))
 f224:=Tryz.func261.trans (congrArg some (by kernel_rfl))
 f225:=Tryz.func260.trans (congrArg some (by kernel_rfl))
 f266:=Tryz.func125.trans (congrArg some (by kernel_rfl))
 f267:=Tryz.func262.trans (congrArg some (by kernel_rfl))
 f314:=Tryz.func269.trans (congrArg some (by kernel_rfl))
 t3:=Tryz.underlying3
 a3:=Tryz.isAgg3
 z3:=Tryz.sizeOf3
 v3:=Tryz.zeroValue3
 t4:=Tryz.underlying4
 a4:=Tryz.isAgg4
 z4:=Tryz.sizeOf4
 v4:=Tryz.zeroValue4
 t5:=Tryz.underlying5
 a5:=Tryz.isAgg5
 z5:=Tryz.sizeOf5
 v5:=Tryz.zeroValue5
 t9:=Tryz.underlying9
 a9:=Tryz.isAgg9
 z9:=Tryz.sizeOf9
 v9:=Tryz.zeroValue9
 t46:=Tryz.underlying255
 a46:=Tryz.isAgg255
 z46:=Tryz.sizeOf255
 v46:=Tryz.zeroValue255
 t51:=Tryz.underlying253
 a51:=Tryz.isAgg253
 z51:=Tryz.sizeOf253
 v51:=Tryz.zeroValue253
 t146:=Tryz.underlying321
 a146:=Tryz.isAgg321
 z146:=Tryz.sizeOf321
 v146:=Tryz.zeroValue321
 g1:=by kernel_rfl
 i3:=by kernel_rfl
 i4:=by kernel_rfl
 i5:=by kernel_rfl
 i9:=by kernel_rfl
 i46:=by kernel_rfl
 i51:=by kernel_rfl
 i146:=by kernel_rfl
 m1:=by kernel_rfl
 s1_3:=fun w h=>Go.Proofs.cell_of_shapedOpen_int (zero := #[.int .i64 0]) (t:=3) h (of_decide_eq_true (by kernel_rfl)) (by kernel_rfl) rfl (by kernel_rfl) (by kernel_rfl) Tryz.underlying3 }
def Tryz.JO:Go.Shelf.Ren:=⟨fun|100=>93|207=>119|n=>n,fun|9=>9|4=>4|3=>3|n=>n,fun|n=>n⟩
theorem Tryz.Zi:Go.Proofs.Lays.n100 Tryz.prog Tryz.JO:={
 mixed:=by kernel_rfl
 f100:=Tryz.func93.trans (congrArg some (by kernel_rfl))
 f207:=Tryz.func119.trans (congrArg some (by kernel_rfl))
 t3:=Tryz.underlying3
 a3:=Tryz.isAgg3
 z3:=Tryz.sizeOf3
 v3:=Tryz.zeroValue3
 t4:=Tryz.underlying4
 a4:=Tryz.isAgg4
 z4:=Tryz.sizeOf4
 v4:=Tryz.zeroValue4
 t9:=Tryz.underlying9
 a9:=Tryz.isAgg9
 z9:=Tryz.sizeOf9
 v9:=Tryz.zeroValue9 }
open Go.RowKit Go.Lib in
theorem Tryz.strings_HasSuffix (s p:ByteArray) (w:World) (hs:s.size≤9223372036854775807) :
  Calls Tryz.prog 93 #[.string s,.string p] w fun e w'=>e = .returned (.bool (Lib.hasSuffix s.data.toList p.data.toList))∧w'=w:=Any.strings_HasSuffix Tryz.Zi s p w hs
def Tryz.Gz:Go.Shelf.Ren:=⟨fun|45=>224|n=>n,fun|9=>9|5=>5|3=>3|4=>4|n=>n,fun|n=>n⟩
theorem Tryz.U7:Go.Proofs.Lays.p45 Tryz.prog Tryz.Gz:={
 mixed:=by kernel_rfl
 f45:=Tryz.func224.trans (congrArg some (by kernel_rfl))
 t3:=Tryz.underlying3
 a3:=Tryz.isAgg3
 z3:=Tryz.sizeOf3
 v3:=Tryz.zeroValue3
 t4:=Tryz.underlying4
 a4:=Tryz.isAgg4
 z4:=Tryz.sizeOf4
 v4:=Tryz.zeroValue4
 t5:=Tryz.underlying5
 a5:=Tryz.isAgg5
 z5:=Tryz.sizeOf5
 v5:=Tryz.zeroValue5
 t9:=Tryz.underlying9
 a9:=Tryz.isAgg9
 z9:=Tryz.sizeOf9
 v9:=Tryz.zeroValue9 }
open Go.RowKit Go.Lib in
theorem Tryz.bytealg_LastIndexByteString (s:ByteArray) (c:UInt8) (w:World) (hs:s.size≤9223372036854775807) :
  Calls Tryz.prog 224 #[.string s,.int .u8 c.toNat] w fun e w'=>e = .returned (.int .i64 (Pa.lastIndexByte s.data.toList c))∧w'=w:=Any.bytealg_LastIndexByteString Tryz.U7 s c w hs
end Go.Proofs
end
section
namespace Go.Proofs.YtlfdjpgghiemfaaGreatDoor.uP
open Go.RowKit Mem bR yD oq cZ
variable {c:UInt8}
theorem Jh (s:ByteArray) (w:World) (hs:s.size≤4611686018427387904) :
  Calls Tryz.prog 168 #[.string s,.string ⟨#[32,9]⟩] w (Gives (.string (str (trim s.data.toList))) w):=by
 have h:=Any.strings_Trim_laid Tryz.Oj (by kernel_rfl) s ⟨#[32,9]⟩ w (by omega) (by decide) (ascii_of_all (by decide))
 rw [U6] at h
 exact h
theorem V3 (s:ByteArray) (w:World) (hs:s.size≤4611686018427387904) :
  Calls Tryz.prog 127 #[.string s] w (Gives (.string (str (trim s.data.toList))) w):=by
 have CT:=Lib.hid (fun w'=>Jh s w' hs)
 go_enter Tryz.func127,Tryz.ntmps127
 go_wp2_with fail
 with_reducible refine (CT.out _).mono ?_
 rintro e w1 ⟨rfl,hb1⟩
 go_wp2_with fail
 go_ret
 exact ⟨rfl,hb1⟩
theorem RN (s:ByteArray) (c:UInt8) (w:World) :
  Calls Tryz.prog 71 #[.string s,.int .u8 c.toNat] w (fun e w'=>e = .returned (.int .i64 (Lib.indexByte s.data.toList c))∧w=w'):=by
 have h:=Tryz.strings_IndexByte s c.toNat w
 have e:((c.toNat:Int)).toNat.toUInt8=c:=by simp
 rw [e] at h
 exact h.mono fun _ _ h=>⟨h.1,h.2.symm⟩
def cut (c:UInt8) (l:List UInt8):List UInt8 × List UInt8 × Bool :=
 if l.contains c then (l.take (Lib.indexByte l c).toNat,l.drop ((Lib.indexByte l c).toNat+1),true) else (l,[],false)
theorem sP {l:List UInt8} (h:l.contains c=false):cut c l=(l,[],false):=by unfold cut;rw [h];rfl
theorem pW {a r:List UInt8} (h:a.contains c=false):cut c (a++c::r)=(a,r,true):=by
 unfold cut
 rw [wC a r c h,if_pos (by simp)]
 simp
theorem Kr (s:ByteArray) (k:Nat):s.extract k s.size=str (s.data.toList.drop k):=by
 apply ByteArray.ext;apply Array.ext'
 simp [str,ByteArray.data_extract]
 exact List.take_of_length_le (by simp)
theorem Lx (s:ByteArray) (k:Nat):s.extract 0 k=str (s.data.toList.take k):=by
 apply ByteArray.ext;apply Array.ext'
 simp [str,ByteArray.data_extract]
def adl (p:List UInt8 × List UInt8 × Bool) (w:World) (e:Ending) (w':World):Prop:=e = .returned (.tuple #[.string (str p.1),.string (str p.2.1),.bool p.2.2])∧Below w.heap.size w w'
theorem Ai (s:ByteArray) (c:UInt8) (w:World) (hs:s.size≤4611686018427387904) :
  Calls Tryz.prog 42 #[.string s,.int .u8 c.toNat] w (adl (cut c s.data.toList) w):=by
 have CI:=Lib.hid (fun w'=>RN s c w')
 rcases mh c s.data.toList with h|⟨a,r,hl,h⟩
 ·rw [index_none _ _ h] at CI
  rw [sP h]
  have hst:str s.data.toList=s:=mkB s
  have HS:=Lib.hid hst
  clear h hst
  go_enter Tryz.func42,Tryz.ntmps42
  go_wp2_with fail
  with_reducible refine (CI.out _).mono ?_
  rintro e w1 ⟨rfl,rfl⟩
  go_wp2_with fail
  go_ret3
  refine ⟨?_,Below.refl _ _⟩
  show _=Ending.returned (.tuple #[.string (str s.data.toList),.string (str []),.bool false])
  rw [HS.out]
  rfl
 ·have hz:a.length+1+r.length=s.size:=by
   have:s.data.toList.length=s.size:=by simp
   rw [hl] at this;simp at this;omega
  have hix:Lib.indexByte s.data.toList c=(a.length:Int):=by rw [hl];exact wC a r c h
  have he1:s.extract 0 a.length=str a:=by rw [Lx,hl];simp
  have he2:s.extract (a.length+1) s.size=str r:=by rw [Kr,hl];simp
  have hcut:cut c s.data.toList=(a,r,true):=by rw [hl];exact pW h
  rw [hix] at CI
  rw [hcut]
  have H1:=Lib.hid he1;have H2:=Lib.hid he2
  clear he1 he2 hcut hix hl h
  generalize a.length=n at hz H1 H2 CI
  have hw1:(0:Int)≤(n:Int):=by omega
  have hw2:(n:Int)≤(s.size:Int):=by omega
  have hw3:(n:Int)+1≤(s.size:Int):=by omega
  go_enter Tryz.func42,Tryz.ntmps42
  go_wp2_with fail
  with_reducible refine (CI.out _).mono ?_
  rintro e w1 ⟨rfl,rfl⟩
  go_wp2_with fail
  go_quiet (fail)
  go_wp2_with fail
  go_ret3
  refine ⟨?_,⟨rfl,rfl,rfl,Nat.le_refl _,fun _ _=>rfl⟩⟩
  show _=Ending.returned (.tuple #[.string (str a),.string (str r),.bool true])
  rw [← H1.out,← H2.out]
  rfl
end Go.Proofs.YtlfdjpgghiemfaaGreatDoor.uP
end
section
namespace Go.Proofs.YtlfdjpgghiemfaaGreatDoor.Range
open Go.RowKit
section
variable {α:Type} {F:Fence} {n:Nat} {P:Program}
variable {b:Nat} {o:Obj} {k:Nat} {W:World} {xs:List α} {I:List α→World→Prop} {B:Nat}
def adx (b:Nat) (J:List α→World→Prop):Prop:=∀ xs W W' row,J xs W→W.grownBy W' row→(row=none∨row=some b)→J xs W'
def Hands (F:Fence) (n:Nat) (P:Program) (g:Nat) (lb:Array Value) (encs:α→Array Value) (b:Nat) (K:Nat→Prop) (S:List α→Prop) (N:Nat) (w:World):Prop :=
 ∀ (l:Nat) (J:List α→World→Prop) (W:World),(∀ k,K k→W.heap[k]? = w.heap[k]?)→w.heap.size≤W.heap.size→adx b J →
  (∀ pre x V,J pre V→pre.length<N→YieldAt F (n-1) P l (encs x) V fun e V'=>e = .returned (.bool true)∧J (pre++[x]) V'∧(∀ k,K k→V'.heap[k]? = V.heap[k]?)∧V.heap.size≤V'.heap.size) →
  J [] W→CallsIn F n P g (#[.func (.yield l) #[] #[]]++lb) W fun e W'=>(∃ v,e = .returned v)∧∃ xs,S xs∧J xs W'
def Mine (b B:Nat) (I:List α→World→Prop):Prop:=∀ xs W W' row,I xs W→W.grownBy W' row→(∀ r,row=some r→r=b∨(B≤r∧∃ o:Obj,W.heap[r]? = some o∧o.isCells=false))→I xs W'
def Round (K:Nat→Prop) (I:List α→World→Prop) (xs:List α) (W:World):Exit→Act→World→Prop
 | .normal,_,W'=>KeepsOthers W W'∧(∀ k,K k→W'.heap[k]? = W.heap[k]?)∧I xs W'
 | _,_,_=>False
theorem Mine.put {l:Nat} (h:Mine b B I) (o':Obj) (hi:I xs W) (hB:B≤l) (hl:W.heap[l]? = some o) (ho:o.isCells=false):I xs (W.putObj l o') :=
 h xs W _ (some l) hi (grownBy_putObj' W l o') (fun r e=>by cases e;exact .inr ⟨hB,o,hl,ho⟩)
theorem Mine.new (h:Mine b B I) (o:Obj) (hi:I xs W):I xs (W.alloc o) :=
 h xs W _ none hi (World.grownBy_alloc W o none) (fun r e=>by cases e)
theorem Ob {W':World} {row:Option Nat} (g:W.grownBy W' row) (hr:row=none∨row=some b) (hk:k<W.heap.size) (hb:k≠b):W'.heap[k]? = W.heap[k]? :=
 g.block k hk (fun e=>by rcases hr with h|h<;>rw [h] at e<;>cases e;exact hb rfl)
theorem Ot (h:W.heap[k]? = some o):k<W.heap.size:=(Array.getElem?_eq_some_iff.1 h).1
theorem zl {g:Operand} {ps:Array Tmp} {assign body:Code} {Q:Exit→Act→World→Prop} {a:Act} {w:World} (hro:F.round=none) (h1:1≤n) {gf:Nat} {lb:Array Value} (hg:a.eval g = .func (.func gf) #[] lb) (hFg:F.fn gf) (eg:∀ args w,(callFunc gf args).run P w = .ok (.enter gf args) w) {encs:α→Array Value} {K:Nat→Prop} {S:List α→Prop} {N:Nat} (hb:K b) (hK:∀ k,K k→k<w.heap.size) (hseq:Hands F (n-1) P gf lb encs b K S N w) (hps:∀ x,(encs x).size=ps.size) (I:List α→World→Prop) (hI:Mine b w.heap.size I) (h0:I [] w) (a₁:α→Act) (hassign:∀ (l:Nat) (x:α) (W:World) (K:Act→World→Prop),K (a₁ x) W →
   assign.wpIn (F.inRound l) (n-1-1) P (Exit.then K (fun _ _ _=>False)) { tmps:=(ps.zip (encs x)).foldl (fun t (p,v)=>t.setIfInBounds p v) a.tmps,defers:=[] } W) (hbody:∀ (l:Nat) (pre:List α) (x:α) (W:World),I pre W→pre.length<N→w.heap.size≤W.heap.size→body.wpIn (F.inRound l) (n-1-1) P (Round K I (pre++[x]) W) (a₁ x) W) (hdone:∀ (D:Nat) (xs:List α) (W:World),w.heap.size≤D→S xs→I xs W→W.heap[D]? = some (.deferred (some []))→Q .normal { a with defers:={ target:=.collected D,args := #[] }::a.defers } W):
  (Code.rangeFunc g ps assign body).wpIn F n P Q a w:=by
 refine wpIn_rangeFunc fun fn hfn=>?_
 rw [hro]
 have hbz:=hK b hb
 generalize hD:w.heap.size=D at hI hdone hbody
 have recE:∃ rec:LoopState→Option Code→Loop,rec=fun st pe=>{ state:=st,pending:=pe,fn,tmps:=a.tmps,params:=ps,assign,body,defers:=D }:=⟨_,rfl⟩
 obtain ⟨rec,hrec⟩:=recE
 obtain ⟨V,hV⟩:∃ V,V=(w.alloc (.deferred (some []))).alloc (.loop (rec .ready none)):=⟨_,rfl⟩
 have vD:V.heap[D]? = some (.deferred (some [])):=by
  rw [hV,← hD];exact (Below.heap_alloc _ _ _ (by simp)).trans (World.alloc_heap_new w _)
 have vL:V.heap[D+1]? = some (.loop (rec .ready none)):=by
  have h:=World.alloc_heap_new (w.alloc (.deferred (some []))) (.loop (rec .ready none))
  rw [World.size_alloc,hD] at h
  rw [hV];exact h
 have vI:I [] V:=by rw [hV];exact hI.new _ (hI.new _ h0)
 have vb:∀ k,K k→V.heap[k]? = w.heap[k]? := fun k hk=>by
  have hkz:=hK k hk
  rw [hV];exact (Below.heap_alloc _ _ _ (by simp;omega)).trans (Below.heap_alloc _ _ _ hkz)
 have vz:w.heap.size≤V.heap.size:=by rw [hV];simp;omega
 refine ⟨D+1,[{ target:=.collected D,args := #[] }],V,{ target:=.fn (.func gf) lb,args := #[.func (.yield (D+1)) #[] #[]] },V,gf,#[.func (.yield (D+1)) #[] #[]]++lb,V,?_,?_,?_,?_,fun _=>h1,?_⟩
 ·rw [hV,hrec,← hD];exact run_enterLoop_outer _ _ _ _ _
 ·simp only [resolve,hg]
  simp [go_sem]
 ·intro f' hf'
  simp [Target.leads] at hf'
  subst hf'
  exact hFg
 ·simp [invoke,go_sem,eg]
 have hbD:b<D:=by omega
 refine (hseq (D+1) (fun xs W=>(I xs W∧w.heap.size≤W.heap.size)∧W.heap[D+1]? = some (.loop (rec .ready none))∧W.heap[D]? = some (.deferred (some []))) V vb vz ?_ ?_ ⟨⟨vI,vz⟩,vL,vD⟩).mono ?_
 ·rintro xs A B row ⟨⟨hi,hz⟩,hl,hd⟩ gr hr
  refine ⟨⟨hI xs A B row hi gr (fun r e=>?_),Nat.le_trans hz gr.size⟩,?_,?_⟩
  ·rcases hr with h|h<;>rw [h] at e<;>cases e
   exact .inl rfl
  ·rw [Ob gr hr (Ot hl) (by omega)];exact hl
  ·rw [Ob gr hr (Ot hd) (by omega)];exact hd
 ·rintro pre x W ⟨⟨hi,hz⟩,hl,hd⟩ hlen
  have hlt:=Ot hl
  have hy:=run_yield (P:=P) (args:=encs x) hl (by rw [hrec];exact hps x)
  rw [hrec] at hy
  refine ⟨fn,_,assign,body,hy,roundIn_of_wpIn hfn (hassign _ x W _ ⟨_,run_beginRound hl (by rw [hrec]),?_⟩)⟩
  have b1:(W.putObj (D+1) (.loop { rec .ready none with state:=.busy })).heap[D+1]? = some (.loop { rec .ready none with state:=.busy }):=World.putObj_heap_same hlt
  have b2:(W.putObj (D+1) (.loop { rec .ready none with state:=.busy })).heap[D]? = some (.deferred (some [])):=(World.putObj_heap_other (by omega)).trans hd
  have b3:∀ k,K k→(W.putObj (D+1) (.loop { rec .ready none with state:=.busy })).heap[k]? = W.heap[k]? := fun k hk=>World.putObj_heap_other (by have:=hK k hk;omega)
  have b4:(W.putObj (D+1) (.loop { rec .ready none with state:=.busy })).heap.size=W.heap.size:=by simp
  refine wpIn_mono (hbody _ pre x _ (hI.put _ hi (by omega) hl rfl) hlen (by rw [b4];omega)) ?_
  rintro e a3 U hp
  cases e with
  | normal =>
   obtain ⟨hk,hub,hiu⟩:=hp
   have u1:=hk.same _ _ b1 rfl
   have u2:=hk.same _ _ b2 rfl
   have hend:=run_endRound (P:=P) none u1
   rw [hrec] at hend
   have hzU:=hk.size
   rw [b4] at hzU
   refine ⟨_,_,hend,rfl,⟨⟨hI.put _ hiu (by omega) u1 rfl,by simp;omega⟩,?_,(World.putObj_heap_other (by omega)).trans u2⟩,fun k hk=>(World.putObj_heap_other (by have:=hK k hk;omega)).trans ((hub k hk).trans (b3 k hk)),by simp;omega⟩
   have:=World.putObj_heap_same (o:=.loop (rec .ready none)) (Ot u1)
   rw [hrec] at this ⊢
   exact this
  | _=>exact hp.elim
 ·rintro e U ⟨⟨v,rfl⟩,xs,hS,⟨hi,hz⟩,hl,hd⟩
  have hend:=run_endLoop (P:=P) hl (by rw [hrec];simp)
  rw [hrec] at hend
  exact ⟨none,_,hend,hdone D xs _ (by omega) hS (hI.put _ hi (by omega) hl rfl) ((World.putObj_heap_other (by omega)).trans hd)⟩
end
end Go.Proofs.YtlfdjpgghiemfaaGreatDoor.Range
end
