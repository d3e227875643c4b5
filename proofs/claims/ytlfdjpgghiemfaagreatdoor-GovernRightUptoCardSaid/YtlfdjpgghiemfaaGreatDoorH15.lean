/- Texts of the proof, joined: Wk, WordV, Shelf, WordC. -/
import Derived.Test.YtlfdjpgghiemfaaGreatDoorH14
import Derived.Test.YtlfdjpgghiemfaaGreatDoorH11
import Derived.Test.YtlfdjpgghiemfaaGreatDoorH2
import Derived.Shelf.Small.Wraps
import Derived.Shelf.Strconv.Itoa3
import Derived.Shelf.Strconv.ErrVar
import Derived.Shelf.Strconv.ErrVarAll
import Derived.Shelf.Strconv.ParseInt10All
import Derived.Shelf.Strings.Shaped
import Derived.Shelf.Strings.LastIndex
import Derived.Shelf.GgClosure.StringsRunes
import Derived.Shelf.Unicode.Decode
import Derived.Shelf.Strings.FieldsFuncGrows
import Derived.Shelf.Strings.BuilderCap
import Derived.Shelf.Slices.Turned
import Derived.Shelf.Slices.Clone
import Derived.Shelf.Slices.SearchI
import Derived.Shelf.SlicesE.IndexFunc
import Derived.Shelf.Path.Small
import Derived.Shelf.Strings.SlTrimAscii
set_option maxHeartbeats 1000000
section
namespace Go.Proofs.YtlfdjpgghiemfaaGreatDoor.Abs
open Go.RowKit Mem
section
variable {p q q':Prop} {α:Prop}
theorem zt (k:q) (h:q→p:=by intro hk;first|(with_reducible first|exact iW hk|exact eP hk|exact iL mixed hk|exact mE hk|exact iH hk|exact gB hk|exact iM hk|exact jr hk|exact fM hk|exact iC hk|exact tJ hk|exact jo hk|exact iA hk|exact mI hk)|exact iD rfl hk|exact fZ rfl hk):p:=h k
theorem zr (k:q) (h:q→p:=by intro hk;first|exact sO hk):p:=h k
theorem zo (k:q) (h:q→p:=by intro hk;first|exact dQ [] af rfl hk|exact qJ hk|exact kX (by kernel_rfl) hk):p:=h k
theorem zn (k:q) (h:q→p:=by intro hk;first|exact qJ hk|exact kX (by kernel_rfl) hk):p:=h k
theorem zA (k:q) (h:q→p:=by intro hk;first|exact mq hk|exact rD hk|exact mX hk|exact sZ hk|exact ac7 hk|exact rV hk):p:=h k
theorem zL (k:q) (h:q→p:=by intro hk;first|exact abL af hk|exact acH af hk|exact abh af hk|exact aaP hk):p:=h k
theorem zI (k:q) (h:q→p:=by intro hk;first|exact adl af hk|exact aah af hk|exact sw af hk|exact tF af hk|exact qY af hk|exact mM af hk):p:=h k
theorem zS (k:q) (h:q→p:=by intro hk;first|exact abI af hk|exact ab9 af hk|exact acz af hk|exact UQ af hk|exact abQ af hk):p:=h k
theorem zB (k:q) (h:q→p:=by intro hk;first|exact xq af hk|exact Em af hk):p:=h k
theorem zM (k:q) (h:q→p:=by intro hk;first|exact adS hk|exact Oh af hk|exact NY af hk|exact VN af hk|exact Wy af hk):p:=h k
theorem zc1 (k:q) (h:q→p:=by intro hk;first|exact mG hk|exact mF hk):p:=h k
theorem zc2 (k:q) (h:q→p:=by intro hk;first|exact aaA hk|exact abl hk):p:=h k
theorem zc3 (k:q) (h:q→p:=by intro hk;first|exact l6 hk|exact ng hk):p:=h k
theorem zc4 (k:q) (h:q→p:=by intro hk;first|exact abz hk|exact aci hk):p:=h k
theorem zc5 (k:q) (h:q→p:=by intro hk;first|exact BJ hk|exact C8 hk|exact Cb hk|exact xD hk|exact xC hk|exact Ci af hk):p:=h k
theorem zc6 (k:q) (h:q→p:=by intro hk;first|exact ab5 hk|exact aaJ hk|exact Xw hk|exact XI hk|exact abY hk|exact acA hk|exact abZ af hk):p:=h k
theorem zs1 (k:q) (k':q') (h:q→q'→p:=by intro hk hl;exact rf hk hl):p:=h k k'
theorem zs2 (k:q) (k':q') (h:q→q'→p:=by intro hk hl;exact adK hk hl):p:=h k k'
theorem zs3 (k:q) (k':q') (h:q→q'→p:=by intro hk hl;exact rT hk hl):p:=h k k'
theorem zs4 (k:q) (k':q') (h:q→q'→p:=by intro hk hl;exact ado hk hl):p:=h k k'
theorem zs5 (k:q) (k':q') (h:q→q'→p:=by intro hk hl;first|exact Lv hk hl|exact Bt hk hl):p:=h k k'
theorem zs6 (k:q) (k':q') (h:q→q'→p:=by intro hk hl;first|exact adx hk hl|exact ach hk hl):p:=h k k'
theorem zk (c:α) (k:q) (h:α→q→p:=by intro hc hk;first|exact TL (hc _) hk|exact TL hc hk):p:=h c k
theorem zX (k:q) (h:q→p:=by intro hk;first|exact zc5 hk|exact zc6 hk|exact zL hk|exact zA hk|exact zc1 hk|exact zI hk|exact zc3 hk|exact zS hk|exact zc4 hk|exact zc2 hk|exact zB hk|exact MN af hk):p:=h k
theorem zs (k:q) (k':q') (h:q→q'→p:=by intro hk hl;first|exact zs5 hk hl|exact zs6 hk hl|exact zs1 hk hl|exact zs3 hk hl|exact zs4 hk hl|exact zs2 hk hl):p:=h k k'
theorem zq (k:q) (k':q') (h:q→q'→p:=by intro hk hl;exact fT rfl hk hl):p:=h k k'
end
end Go.Proofs.YtlfdjpgghiemfaaGreatDoor.Abs
end
section
namespace Go.Proofs.YtlfdjpgghiemfaaGreatDoor.aaj
open Go.RowKit Mem bX yP om dn
theorem L9 (s:ByteArray) (w:World) (hs:s.size≤4611686018427387904) :
  Calls Tryz.prog 115 #[.string s] w (Gives (.string (str (fold s.data.toList))) w):=by
 go_enter Tryz.func115,Tryz.ntmps115
 go_wp2_with fail
 go_loopw [3,4] (fun v i wr=>∃ k:Nat,k≤s.size∧i = .int .i64 k∧v = .string (str (fold (s.data.toList.take k)))∧Below w.heap.size w wr) (fun _ i _=>s.size-(intOf i).toNat)
 case atStart=>exact ⟨0,Nat.zero_le _,rfl,rfl,Below.refl _ _⟩
 case round =>
  obtain ⟨k,hk,rfl,rfl,hb⟩:=hrel
  by_cases hlt:k<s.size
  ·have htk:=qA s k hlt
   have hc256:s[k].toNat<256:=UInt8.toNat_lt _
   have hnat:=zb s[k]
   have hfs:str (fold (s.data.toList.take (k+1)))=str (fold (s.data.toList.take k))++⟨#[jK s[k]]⟩:=by rw [htk,KE,← Xt];rfl
   have hsz:(str (fold (s.data.toList.take k))).size≤s.size:=by rw [aM];simp [fold];omega
   have HFS:=Lib.hid hfs
   clear hfs htk
   have hk1:(0:Int)≤(k:Int):=by omega
   have hk2:(k:Int)<(s.size:Int):=by omega
   generalize str (fold (s.data.toList.take k))=acc at hsz HFS ⊢
   by_cases hup:65≤s[k].toNat∧s[k].toNat≤90
   ·rw [if_pos hup] at hnat
    have hof:UInt8.ofNat ((s[k].toNat:Int)+32).toNat=jK s[k]:=by
     apply UInt8.toNat_inj.1;rw [hnat,UInt8.toNat_ofNat'];omega
    have HOF:=Lib.hid hof
    obtain ⟨u1,u2⟩:=hup
    clear hof hnat
    go_wp2_with fail
    with_reducible refine (rW _ _ (by omega) (by omega)).mono ?_
    rintro e w1 ⟨rfl,hb1⟩
    rw [HOF.out]
    go_wp2_with fail
    go_roundw
    case rel=>exact ⟨k+1,by omega,by go_num,by rw [HFS.out],ig hb hb1⟩
    case measure=>simp [intOf];omega
   ·rw [if_neg hup] at hnat
    have hof:UInt8.ofNat ((s[k].toNat:Int)).toNat=jK s[k]:=by
     apply UInt8.toNat_inj.1;rw [hnat,UInt8.toNat_ofNat'];omega
    have HOF:=Lib.hid hof
    clear hof hnat
    by_cases u1:65≤s[k].toNat
    ·have u2:¬ s[k].toNat≤90:=fun h=>hup ⟨u1,h⟩
     clear hup
     go_wp2_with fail
     with_reducible refine (rW _ _ (by omega) (by omega)).mono ?_
     rintro e w1 ⟨rfl,hb1⟩
     rw [HOF.out]
     go_wp2_with fail
     go_roundw
     case rel=>exact ⟨k+1,by omega,by go_num,by rw [HFS.out],ig hb hb1⟩
     case measure=>simp [intOf];omega
    ·have u3:decide ((65:Int)≤(s[k].toNat:Int))=false:=by simp;omega
     clear hup
     go_wp2_with fail
     with_reducible refine (rW _ _ (by omega) (by omega)).mono ?_
     rintro e w1 ⟨rfl,hb1⟩
     rw [HOF.out]
     go_wp2_with fail
     go_roundw
     case rel=>exact ⟨k+1,by omega,by go_num,by rw [HFS.out],ig hb hb1⟩
     case measure=>simp [intOf];omega
  ·obtain rfl:k=s.size:=by omega
   rw [List.take_of_length_le (by simp)]
   go_wp2_with fail
   go_ret
   exact ⟨rfl,hb⟩
end Go.Proofs.YtlfdjpgghiemfaaGreatDoor.aaj
end
section
namespace Go.Proofs
open Go.Shelf
def Tryz.Kj:Go.Shelf.Ren:=⟨fun|160=>168|232=>216|231=>215|227=>217|234=>219|233=>218|236=>221|235=>220|228=>242|271=>245|151=>244|197=>243|120=>259|152=>258|260=>257|137=>71|119=>268|224=>261|225=>260|217=>103|266=>125|n=>n,fun|9=>9|4=>4|3=>3|5=>5|117=>267|116=>266|0=>0|124=>270|21=>21|105=>293|46=>255|119=>317|139=>320|138=>319|n=>n,fun|3=>6|4=>7|n=>n⟩
theorem Tryz.Qb:Go.Proofs.Lays.n160 Tryz.prog Tryz.Kj:={
 mixed:=by kernel_rfl
 f119:=Tryz.func268.trans (congrArg some (by kernel_rfl))
 f120:=Tryz.func259.trans (congrArg some (by kernel_rfl))
 f137:=Tryz.func71.trans (congrArg some (by kernel_rfl))
 f151:=Tryz.func244.trans (congrArg some (by kernel_rfl))
 f152:=Tryz.func258.trans (congrArg some (by kernel_rfl))
 f160:=Tryz.func168.trans (congrArg some (by kernel_rfl))
 f197:=Tryz.func243.trans (congrArg some (by kernel_rfl))
 f217:=Tryz.func103.trans (congrArg some (by kernel_rfl))
 f224:=Tryz.func261.trans (congrArg some (by kernel_rfl))
 f225:=Tryz.func260.trans (congrArg some (by kernel_rfl))
 f227:=Tryz.func217.trans (congrArg some (by kernel_rfl))
 f228:=Tryz.func242.trans (congrArg some (by kernel_rfl))
 f231:=Tryz.func215.trans (congrArg some (by kernel_rfl))
 f232:=Tryz.func216.trans (congrArg some (by kernel_rfl))
 f233:=Tryz.func218.trans (congrArg some (by kernel_rfl))
 f234:=Tryz.func219.trans (congrArg some (by kernel_rfl))
 f235:=Tryz.func220.trans (congrArg some (by kernel_rfl))
 f236:=Tryz.func221.trans (congrArg some (by kernel_rfl))
 f260:=Tryz.func257.trans (congrArg some (by kernel_rfl))
 f266:=Tryz.func125.trans (congrArg some (by kernel_rfl))
 f271:=Tryz.func245.trans (congrArg some (by kernel_rfl))
 t0:=Tryz.underlying0
 a0:=Tryz.isAgg0
 z0:=Tryz.sizeOf0
 v0:=Tryz.zeroValue0
 t3:=Tryz.underlying3
 a3:=Tryz.isAgg3
 z3:=Tryz.sizeOf3
 v3:=Tryz.zeroValue3
 t4:=Tryz.underlying4
 a4:=Tryz.isAgg4
 z4:=Tryz.sizeOf4
 v4:=Tryz.zeroValue4
 t5:=Tryz.underlying5
 a5:=Tryz.isAgg5
 z5:=Tryz.sizeOf5
 v5:=Tryz.zeroValue5
 t9:=Tryz.underlying9
 a9:=Tryz.isAgg9
 z9:=Tryz.sizeOf9
 v9:=Tryz.zeroValue9
 t21:=Tryz.underlying21
 a21:=Tryz.isAgg21
 z21:=Tryz.sizeOf21
 v21:=Tryz.zeroValue21
 t46:=Tryz.underlying255
 a46:=Tryz.isAgg255
 z46:=Tryz.sizeOf255
 v46:=Tryz.zeroValue255
 t105:=Tryz.underlying293
 a105:=Tryz.isAgg293
 z105:=Tryz.sizeOf293
 v105:=Tryz.zeroValue293
 t116:=Tryz.underlying266
 a116:=Tryz.isAgg266
 z116:=Tryz.sizeOf266
 t117:=Tryz.underlying267
 a117:=Tryz.isAgg267
 z117:=Tryz.sizeOf267
 v117:=Tryz.zeroValue267
 t119:=Tryz.underlying317
 a119:=Tryz.isAgg317
 z119:=Tryz.sizeOf317
 t124:=Tryz.underlying270
 a124:=Tryz.isAgg270
 z124:=Tryz.sizeOf270
 v124:=Tryz.zeroValue270
 t138:=Tryz.underlying319
 a138:=Tryz.isAgg319
 z138:=Tryz.sizeOf319
 v138:=Tryz.zeroValue319
 t139:=Tryz.underlying320
 a139:=Tryz.isAgg320
 z139:=Tryz.sizeOf320
 v139:=Tryz.zeroValue320
 g3:=by kernel_rfl
 g4:=by kernel_rfl }
open Go.RowKit in
theorem Tryz.strings_Trim_one (s:ByteArray) (c:UInt8) (hc:c.toNat<128) (w:World) (hs:s.size≤9223372036854775807) :
 Calls Tryz.prog 168 #[.string s,.string ⟨#[c]⟩] w fun e w'=>e = .returned (.string ⟨(Lib.trimB s.data.toList c).toArray⟩)∧(w'=w∨w'=w.drew):=Any.strings_Trim_one Tryz.Qb s c hc w hs
def Tryz.Kn:Go.Shelf.Ren:=⟨fun|137=>71|217=>103|266=>125|n=>n,fun|9=>9|5=>5|3=>3|n=>n,fun|n=>n⟩
theorem Tryz.YQ:Go.Proofs.Lays.n137 Tryz.prog Tryz.Kn:={
 mixed:=by kernel_rfl
 f137:=Tryz.func71.trans (congrArg some (by kernel_rfl))
 f217:=Tryz.func103.trans (congrArg some (by kernel_rfl))
 f266:=Tryz.func125.trans (congrArg some (by kernel_rfl))
 t3:=Tryz.underlying3
 a3:=Tryz.isAgg3
 z3:=Tryz.sizeOf3
 v3:=Tryz.zeroValue3
 t5:=Tryz.underlying5
 a5:=Tryz.isAgg5
 z5:=Tryz.sizeOf5
 v5:=Tryz.zeroValue5
 t9:=Tryz.underlying9
 a9:=Tryz.isAgg9
 z9:=Tryz.sizeOf9
 v9:=Tryz.zeroValue9 }
open Go.RowKit in
theorem Tryz.strings_IndexByte (s:ByteArray) (c:Int) (w:World) :
 Calls Tryz.prog 71 #[.string s,.int .u8 c] w fun e w'=>e = .returned (.int .i64 (Lib.indexByte s.data.toList c.toNat.toUInt8))∧w'=w:=Any.strings_IndexByte Tryz.YQ s c w
def Tryz.Gw:Go.Shelf.Ren:=⟨fun|171=>50|243=>87|246=>114|283=>150|284=>151|285=>152|286=>153|129=>206|317=>205|318=>207|319=>208|320=>209|337=>238|338=>239|n=>n,fun|3=>3|9=>9|2=>2|4=>4|171=>200|0=>0|53=>201|37=>98|5=>5|173=>204|212=>252|51=>253|20=>20|213=>254|46=>255|232=>308|233=>309|n=>n,fun|17=>1|18=>4|19=>5|n=>n⟩
theorem Tryz.UR:Go.Proofs.LaysM.n171 Tryz.prog Tryz.Gw:={
 mixed:=by kernel_rfl
 f129:=Tryz.func206.trans (congrArg some (by kernel_rfl))
 f171:=Tryz.func50.trans (congrArg some (by kernel_rfl))
 f243:=Tryz.func87.trans (congrArg some (by kernel_rfl))
 f246:=Tryz.func114.trans (congrArg some (by kernel_rfl))
 f283:=Tryz.func150.trans (congrArg some (by kernel_rfl))
 f284:=Tryz.func151.trans (congrArg some (by kernel_rfl))
 f285:=Tryz.func152.trans (congrArg some (by kernel_rfl))
 f286:=Tryz.func153.trans (congrArg some (by kernel_rfl))
 f317:=Tryz.func205.trans (congrArg some (by kernel_rfl))
 f318:=Tryz.func207.trans (congrArg some (by kernel_rfl))
 f319:=Tryz.func208.trans (congrArg some (by kernel_rfl))
 f320:=Tryz.func209.trans (congrArg some (by kernel_rfl))
 f337:=Tryz.func238.trans (congrArg some (by kernel_rfl))
 f338:=Tryz.func239.trans (congrArg some (by kernel_rfl))
 t0:=Tryz.underlying0
 a0:=Tryz.isAgg0
 z0:=Tryz.sizeOf0
 v0:=Tryz.zeroValue0
 t2:=Tryz.underlying2
 a2:=Tryz.isAgg2
 z2:=Tryz.sizeOf2
 v2:=Tryz.zeroValue2
 t3:=Tryz.underlying3
 a3:=Tryz.isAgg3
 z3:=Tryz.sizeOf3
 v3:=Tryz.zeroValue3
 t4:=Tryz.underlying4
 a4:=Tryz.isAgg4
 z4:=Tryz.sizeOf4
 v4:=Tryz.zeroValue4
 t5:=Tryz.underlying5
 a5:=Tryz.isAgg5
 z5:=Tryz.sizeOf5
 v5:=Tryz.zeroValue5
 t9:=Tryz.underlying9
 a9:=Tryz.isAgg9
 z9:=Tryz.sizeOf9
 v9:=Tryz.zeroValue9
 t20:=Tryz.underlying20
 a20:=Tryz.isAgg20
 z20:=Tryz.sizeOf20
 v20:=Tryz.zeroValue20
 t37:=Tryz.underlying98
 a37:=Tryz.isAgg98
 z37:=Tryz.sizeOf98
 v37:=Tryz.zeroValue98
 t46:=Tryz.underlying255
 a46:=Tryz.isAgg255
 z46:=Tryz.sizeOf255
 v46:=Tryz.zeroValue255
 t51:=Tryz.underlying253
 a51:=Tryz.isAgg253
 z51:=Tryz.sizeOf253
 v51:=Tryz.zeroValue253
 t53:=Tryz.underlying201
 a53:=Tryz.isAgg201
 z53:=Tryz.sizeOf201
 v53:=Tryz.zeroValue201
 t171:=Tryz.underlying200
 a171:=Tryz.isAgg200
 z171:=Tryz.sizeOf200
 v171:=Tryz.zeroValue200
 t173:=Tryz.underlying204
 a173:=Tryz.isAgg204
 z173:=Tryz.sizeOf204
 v173:=Tryz.zeroValue204
 t212:=Tryz.underlying252
 a212:=Tryz.isAgg252
 z212:=Tryz.sizeOf252
 v212:=Tryz.zeroValue252
 t213:=Tryz.underlying254
 a213:=Tryz.isAgg254
 z213:=Tryz.sizeOf254
 t232:=Tryz.underlying308
 a232:=Tryz.isAgg308
 z232:=Tryz.sizeOf308
 v232:=Tryz.zeroValue308
 t233:=Tryz.underlying309
 a233:=Tryz.isAgg309
 z233:=Tryz.sizeOf309
 v233:=Tryz.zeroValue309
 g17:=by kernel_rfl
 g18:=by kernel_rfl
 g19:=by kernel_rfl
 i0:=by kernel_rfl
 i2:=by kernel_rfl
 i3:=by kernel_rfl
 i4:=by kernel_rfl
 i5:=by kernel_rfl
 i9:=by kernel_rfl
 i20:=by kernel_rfl
 i37:=by kernel_rfl
 i46:=by kernel_rfl
 i51:=by kernel_rfl
 i53:=by kernel_rfl
 i171:=by kernel_rfl
 i173:=by kernel_rfl
 i212:=by kernel_rfl
 i232:=by kernel_rfl
 i233:=by kernel_rfl
 m17:=by kernel_rfl
 m18:=by kernel_rfl
 m19:=by kernel_rfl }
open Go.RowKit Go.Sort Go.Lib in
theorem Tryz.strconv_Itoa (n : Int) (h0 : -9223372036854775808 ≤ n) (h1 : n ≤ 9223372036854775807) (w : World) (htab : Lib.TabIs Tryz.prog w "internal/strconv.uint64pow10" .u64 Lib.pow10Tab) :
 Calls Tryz.prog 50 #[.int .i64 n] w fun e w'=>e = .returned (.string ⟨(Lib.itoa n).toArray⟩)∧∃ k os,w'=grow (w.drewN k) os:=Any.strconv_Itoa Tryz.UR n h0 h1 w htab
def Tryz.Jc:Go.Shelf.Ren:=⟨fun|172=>96|244=>122|245=>123|247=>160|279=>161|280=>162|281=>163|282=>164|287=>211|316=>212|171=>50|205=>213|321=>240|322=>241|243=>87|246=>114|283=>150|284=>151|285=>152|286=>153|129=>206|317=>205|318=>207|319=>208|320=>209|337=>238|338=>239|n=>n,fun|9=>9|3=>3|75=>102|76=>103|4=>4|5=>5|167=>209|37=>98|0=>0|85=>210|2=>2|168=>212|53=>201|175=>258|46=>255|210=>261|127=>141|145=>292|143=>290|21=>21|171=>200|173=>204|212=>252|51=>253|20=>20|213=>254|232=>308|233=>309|80=>106|n=>n,fun|15=>2|16=>3|17=>1|18=>4|19=>5|n=>n⟩
theorem Tryz.DL:Go.Proofs.LaysC.n172 Tryz.prog Tryz.Jc:={
 mixed:=by kernel_rfl
 f129:=Tryz.func206.trans (congrArg some (by kernel_rfl))
 f171:=Tryz.func50.trans (congrArg some (by kernel_rfl))
 f172:=Tryz.func96.trans (congrArg some (by kernel_rfl))
 f205:=Tryz.func213.trans (congrArg some (by kernel_rfl))
 f243:=Tryz.func87.trans (congrArg some (by kernel_rfl))
 f244:=Tryz.func122.trans (congrArg some (by kernel_rfl))
 f245:=Tryz.func123.trans (congrArg some (by kernel_rfl))
 f246:=Tryz.func114.trans (congrArg some (by kernel_rfl))
 f247:=Tryz.func160.trans (congrArg some (by kernel_rfl))
 f279:=Tryz.func161.trans (congrArg some (by kernel_rfl))
 f280:=Tryz.func162.trans (congrArg some (by kernel_rfl))
 f281:=Tryz.func163.trans (congrArg some (by kernel_rfl))
 f282:=Tryz.func164.trans (congrArg some (by kernel_rfl))
 f283:=Tryz.func150.trans (congrArg some (by kernel_rfl))
 f284:=Tryz.func151.trans (congrArg some (by kernel_rfl))
 f285:=Tryz.func152.trans (congrArg some (by kernel_rfl))
 f286:=Tryz.func153.trans (congrArg some (by kernel_rfl))
 f287:=Tryz.func211.trans (congrArg some (by kernel_rfl))
 f316:=Tryz.func212.trans (congrArg some (by kernel_rfl))
 f317:=Tryz.func205.trans (congrArg some (by kernel_rfl))
 f318:=Tryz.func207.trans (congrArg some (by kernel_rfl))
 f319:=Tryz.func208.trans (congrArg some (by kernel_rfl))
 f320:=Tryz.func209.trans (congrArg some (by kernel_rfl))
 f321:=Tryz.func240.trans (congrArg some (by kernel_rfl))
 f322:=Tryz.func241.trans (congrArg some (by kernel_rfl))
 f337:=Tryz.func238.trans (congrArg some (by kernel_rfl))
 f338:=Tryz.func239.trans (congrArg some (by kernel_rfl))
 t0:=Tryz.underlying0
 a0:=Tryz.isAgg0
 z0:=Tryz.sizeOf0
 v0:=Tryz.zeroValue0
 t2:=Tryz.underlying2
 a2:=Tryz.isAgg2
 z2:=Tryz.sizeOf2
 v2:=Tryz.zeroValue2
 t3:=Tryz.underlying3
 a3:=Tryz.isAgg3
 z3:=Tryz.sizeOf3
 v3:=Tryz.zeroValue3
 t4:=Tryz.underlying4
 a4:=Tryz.isAgg4
 z4:=Tryz.sizeOf4
 v4:=Tryz.zeroValue4
 t5:=Tryz.underlying5
 a5:=Tryz.isAgg5
 z5:=Tryz.sizeOf5
 v5:=Tryz.zeroValue5
 t9:=Tryz.underlying9
 a9:=Tryz.isAgg9
 z9:=Tryz.sizeOf9
 v9:=Tryz.zeroValue9
 t20:=Tryz.underlying20
 a20:=Tryz.isAgg20
 z20:=Tryz.sizeOf20
 v20:=Tryz.zeroValue20
 t21:=Tryz.underlying21
 a21:=Tryz.isAgg21
 z21:=Tryz.sizeOf21
 v21:=Tryz.zeroValue21
 t37:=Tryz.underlying98
 a37:=Tryz.isAgg98
 z37:=Tryz.sizeOf98
 v37:=Tryz.zeroValue98
 t46:=Tryz.underlying255
 a46:=Tryz.isAgg255
 z46:=Tryz.sizeOf255
 v46:=Tryz.zeroValue255
 t51:=Tryz.underlying253
 a51:=Tryz.isAgg253
 z51:=Tryz.sizeOf253
 v51:=Tryz.zeroValue253
 t53:=Tryz.underlying201
 a53:=Tryz.isAgg201
 z53:=Tryz.sizeOf201
 v53:=Tryz.zeroValue201
 t75:=Tryz.underlying102
 a75:=Tryz.isAgg102
 z75:=Tryz.sizeOf102
 v75:=Tryz.zeroValue102
 t76:=Tryz.underlying103
 a76:=Tryz.isAgg103
 z76:=Tryz.sizeOf103
 v76:=Tryz.zeroValue103
 t85:=Tryz.underlying210
 a85:=Tryz.isAgg210
 z85:=Tryz.sizeOf210
 v85:=Tryz.zeroValue210
 t127:=Tryz.underlying141
 a127:=Tryz.isAgg141
 z127:=Tryz.sizeOf141
 v127:=Tryz.zeroValue141
 t143:=Tryz.underlying290
 a143:=Tryz.isAgg290
 z143:=Tryz.sizeOf290
 v143:=Tryz.zeroValue290
 t145:=Tryz.underlying292
 a145:=Tryz.isAgg292
 z145:=Tryz.sizeOf292
 v145:=Tryz.zeroValue292
 t167:=Tryz.underlying209
 a167:=Tryz.isAgg209
 z167:=Tryz.sizeOf209
 v167:=Tryz.zeroValue209
 t168:=Tryz.underlying212
 a168:=Tryz.isAgg212
 z168:=Tryz.sizeOf212
 v168:=Tryz.zeroValue212
 t171:=Tryz.underlying200
 a171:=Tryz.isAgg200
 z171:=Tryz.sizeOf200
 v171:=Tryz.zeroValue200
 t173:=Tryz.underlying204
 a173:=Tryz.isAgg204
 z173:=Tryz.sizeOf204
 v173:=Tryz.zeroValue204
 t175:=Tryz.underlying258
 a175:=Tryz.isAgg258
 z175:=Tryz.sizeOf258
 v175:=Tryz.zeroValue258
 t210:=Tryz.underlying261
 a210:=Tryz.isAgg261
 z210:=Tryz.sizeOf261
 v210:=Tryz.zeroValue261
 t212:=Tryz.underlying252
 a212:=Tryz.isAgg252
 z212:=Tryz.sizeOf252
 v212:=Tryz.zeroValue252
 t213:=Tryz.underlying254
 a213:=Tryz.isAgg254
 z213:=Tryz.sizeOf254
 t232:=Tryz.underlying308
 a232:=Tryz.isAgg308
 z232:=Tryz.sizeOf308
 v232:=Tryz.zeroValue308
 t233:=Tryz.underlying309
 a233:=Tryz.isAgg309
 z233:=Tryz.sizeOf309
 v233:=Tryz.zeroValue309
 g15:=by kernel_rfl
 g16:=by kernel_rfl
 g17:=by kernel_rfl
 g18:=by kernel_rfl
 g19:=by kernel_rfl
 t80:=Tryz.underlying106
 a80:=Tryz.isAgg106
 z80:=Tryz.sizeOf106
 v80:=Tryz.zeroValue106
 i0:=by kernel_rfl
 i2:=by kernel_rfl
 i3:=by kernel_rfl
 i4:=by kernel_rfl
 i5:=by kernel_rfl
 i9:=by kernel_rfl
 i20:=by kernel_rfl
 i21:=by kernel_rfl
 i37:=by kernel_rfl
 i46:=by kernel_rfl
 i51:=by kernel_rfl
 i53:=by kernel_rfl
 i75:=by kernel_rfl
 i76:=by kernel_rfl
 i80:=by kernel_rfl
 i85:=by kernel_rfl
 i127:=by kernel_rfl
 i143:=by kernel_rfl
 i145:=by kernel_rfl
 i167:=by kernel_rfl
 i168:=by kernel_rfl
 i171:=by kernel_rfl
 i173:=by kernel_rfl
 i175:=by kernel_rfl
 i210:=by kernel_rfl
 i212:=by kernel_rfl
 i232:=by kernel_rfl
 i233:=by kernel_rfl
 m15:=by kernel_rfl
 m16:=by kernel_rfl
 m17:=by kernel_rfl
 m18:=by kernel_rfl
 m19:=by kernel_rfl
 c0:=by kernel_rfl
 c2:=by kernel_rfl
 c3:=by kernel_rfl
 c4:=by kernel_rfl
 c5:=by kernel_rfl
 c9:=by kernel_rfl
 c20:=by kernel_rfl
 c21:=by kernel_rfl
 c37:=by kernel_rfl
 c46:=by kernel_rfl
 c51:=by kernel_rfl
 c53:=by kernel_rfl
 c75:=by kernel_rfl
 c76:=by kernel_rfl
 c80:=by kernel_rfl
 c85:=by kernel_rfl
 c127:=by kernel_rfl
 c143:=by kernel_rfl
 c145:=by kernel_rfl
 c167:=by kernel_rfl
 c168:=by kernel_rfl
 c171:=by kernel_rfl
 c173:=by kernel_rfl
 c175:=by kernel_rfl
 c210:=by kernel_rfl
 c212:=by kernel_rfl
 c213:=by kernel_rfl
 c232:=by kernel_rfl
 c233:=by kernel_rfl }
open Go.RowKit in
theorem Tryz.strconv_Atoi_ok (s:ByteArray) (hmax:s.size≤9223372036854775806) (v:Int) (h:Lib.atoiAll s.data.toList = .ok v) (w:World) :
 Calls Tryz.prog 96 #[.string s] w fun e w'=>e = .returned (.tuple #[.int .i64 v,.nilIface])∧(w'=w∨∃ t,w'=Lib.bytesWorld w 5 t):=Any.strconv_Atoi_ok Tryz.DL s hmax v h w
open Go.RowKit in
theorem Tryz.strconv_Atoi_syntax (s:ByteArray) (hlim:s.size≤281474976710656) (h:(∀ v,Lib.atoiAll s.data.toList ≠ .ok v)∧Lib.atoiAll s.data.toList ≠ .range) (ev:Value) (w:World) (hv:w.cell? ⟨2,0,none⟩=some ev) (hev:ev = .nilIface∨∃ te pe,ev = .iface te pe) :
 Calls Tryz.prog 96 #[.string s] w fun e w'=>∃ N,e = .returned (.tuple #[.int .i64 (0),.iface 212 (.pointer (some ⟨N,0,none⟩))])∧w.heap.size≤N∧w'.heap[N]? = some (.cells #[.string ⟨#[65,116,111,105]⟩,.string s,ev] 261 (0,0))∧Below w.heap.size w w':=Any.strconv_Atoi_syntax Tryz.DL s hlim (by rcases he:Lib.atoiAll s.data.toList with v|_|_<;>first|rfl|exact absurd he (h.1 v)|exact absurd he h.2) ev w hv hev
open Go.RowKit in
theorem Tryz.strconv_Atoi_range (s:ByteArray) (hlim:s.size≤281474976710656) (h:Lib.atoiAll s.data.toList = .range) (ev:Value) (w:World) (hv:w.cell? ⟨3,0,none⟩=some ev) (hev:ev = .nilIface∨∃ te pe,ev = .iface te pe) :
 Calls Tryz.prog 96 #[.string s] w fun e w'=>∃ N,e = .returned (.tuple #[.int .i64 (Lib.atoiSat s.data.toList),.iface 212 (.pointer (some ⟨N,0,none⟩))])∧w.heap.size≤N∧w'.heap[N]? = some (.cells #[.string ⟨#[65,116,111,105]⟩,.string s,ev] 261 (0,0))∧Below w.heap.size w w':=Any.strconv_Atoi_range Tryz.DL s hlim h ev w hv hev
def Tryz.KA:Go.Shelf.Ren:=⟨fun|143=>223|219=>246|217=>103|225=>260|224=>261|267=>262|266=>125|314=>269|n=>n,fun|9=>9|3=>3|4=>4|5=>5|46=>255|146=>321|51=>253|n=>n,fun|1=>0|n=>n⟩
theorem Tryz.Y5:Go.Proofs.Lays.n143 Tryz.prog Tryz.KA:={
 mixed:=by kernel_rfl
 f143:=Tryz.func223.trans (congrArg some (by kernel_rfl))
 f217:=Tryz.func103.trans (congrArg some (by kernel_rfl))
 f219:=Tryz.func246.trans (congrArg some (by kernel_rfl))
 f224:=Tryz.func261.trans (congrArg some (by kernel_rfl))
 f225:=Tryz.func260.trans (congrArg some (by kernel_rfl))
 f266:=Tryz.func125.trans (congrArg some (by kernel_rfl))
 f267:=Tryz.func262.trans (congrArg some (by kernel_rfl))
 f314:=Tryz.func269.trans (congrArg some (by kernel_rfl))
 t3:=Tryz.underlying3
 a3:=Tryz.isAgg3
 z3:=Tryz.sizeOf3
 v3:=Tryz.zeroValue3
 t4:=Tryz.underlying4
 a4:=Tryz.isAgg4
 z4:=Tryz.sizeOf4
 v4:=Tryz.zeroValue4
 t5:=Tryz.underlying5
 a5:=Tryz.isAgg5
 z5:=Tryz.sizeOf5
 v5:=Tryz.zeroValue5
 t9:=Tryz.underlying9
 a9:=Tryz.isAgg9
 z9:=Tryz.sizeOf9
 v9:=Tryz.zeroValue9
 t46:=Tryz.underlying255
 a46:=Tryz.isAgg255
 z46:=Tryz.sizeOf255
 v46:=Tryz.zeroValue255
 t51:=Tryz.underlying253
 a51:=Tryz.isAgg253
 z51:=Tryz.sizeOf253
 v51:=Tryz.zeroValue253
 t146:=Tryz.underlying321
 a146:=Tryz.isAgg321
 z146:=Tryz.sizeOf321
 v146:=Tryz.zeroValue321
 g1:=by kernel_rfl }
open Go.RowKit Go.Lib in
theorem Tryz.strings_Index (s sub:ByteArray) (m:Int) (w:World) (hs:s.size<4294967281) (hm:w.cell? ⟨0,0,none⟩=some (.int .i64 m)) :
 Calls Tryz.prog 223 #[.string s,.string sub] w fun e w'=>e = .returned (.int .i64 (Lib.index s.data.toList sub.data.toList))∧w'=w:=Any.strings_Index Tryz.Y5 s sub m w hs hm
def Tryz.J3:Go.Shelf.Ren:=⟨fun|144=>173|143=>223|219=>246|217=>103|225=>260|224=>261|267=>262|266=>125|314=>269|n=>n,fun|9=>9|4=>4|3=>3|5=>5|46=>255|146=>321|51=>253|n=>n,fun|1=>0|n=>n⟩
theorem Tryz.Zz:Go.Proofs.Lays.n144 Tryz.prog Tryz.J3:={
 mixed:=by kernel_rfl
 f143:=Tryz.func223.trans (congrArg some (by kernel_rfl))
 f144:=Tryz.func173.trans (congrArg some (by kernel_rfl))
 f217:=Tryz.func103.trans (congrArg some (by kernel_rfl))
 f219:=Tryz.func246.trans (congrArg some (by kernel_rfl))
 f224:=Tryz.func261.trans (congrArg some (by kernel_rfl))
 f225:=Tryz.func260.trans (congrArg some (by kernel_rfl))
 f266:=Tryz.func125.trans (congrArg some (by kernel_rfl))
 f267:=Tryz.func262.trans (congrArg some (by kernel_rfl))
 f314:=Tryz.func269.trans (congrArg some (by kernel_rfl))
 t3:=Tryz.underlying3
 a3:=Tryz.isAgg3
 z3:=Tryz.sizeOf3
 v3:=Tryz.zeroValue3
 t4:=Tryz.underlying4
 a4:=Tryz.isAgg4
 z4:=Tryz.sizeOf4
 v4:=Tryz.zeroValue4
 t5:=Tryz.underlying5
 a5:=Tryz.isAgg5
 z5:=Tryz.sizeOf5
 v5:=Tryz.zeroValue5
 t9:=Tryz.underlying9
 a9:=Tryz.isAgg9
 z9:=Tryz.sizeOf9
 v9:=Tryz.zeroValue9
 t46:=Tryz.underlying255
 a46:=Tryz.isAgg255
 z46:=Tryz.sizeOf255
 v46:=Tryz.zeroValue255
 t51:=Tryz.underlying253
 a51:=Tryz.isAgg253
 z51:=Tryz.sizeOf253
 v51:=Tryz.zeroValue253
 t146:=Tryz.underlying321
 a146:=Tryz.isAgg321
 z146:=Tryz.sizeOf321
 v146:=Tryz.zeroValue321
 g1:=by kernel_rfl }
open Go.RowKit Go.Lib in
theorem Tryz.strings_Contains_one (s:ByteArray) (c:UInt8) (w:World) :
 Calls Tryz.prog 173 #[.string s,.string ⟨#[c]⟩] w fun e w'=>e = .returned (.bool (decide (0≤Lib.indexByte s.data.toList c)))∧w'=w:=Any.strings_Contains_one Tryz.Zz s c w
def Tryz.Hr:Go.Shelf.Ren:=⟨fun|219=>246|217=>103|225=>260|224=>261|267=>262|266=>125|314=>269|n=>n,fun|9=>9|3=>3|4=>4|5=>5|46=>255|146=>321|51=>253|n=>n,fun|1=>0|n=>n⟩
theorem Tryz.Tj:Go.Proofs.LaysM.n219 Tryz.prog Tryz.Hr:={
 mixed:=by kernel_rfl
 f217:=Tryz.func103.trans (congrArg some (by kernel_rfl))
 f219:=Tryz.func246.trans (congrArg some (by kernel_rfl))
 f224:=Tryz.func261.trans (congrArg some (by kernel_rfl))
 f225:=Tryz.func260.trans (congrArg some (by kernel_rfl))
 f266:=Tryz.func125.trans (congrArg some (by kernel_rfl))
 f267:=Tryz.func262.trans (congrArg some (by kernel_rfl))
 f314:=Tryz.func269.trans (congrArg some (by kernel_rfl))
 t3:=Tryz.underlying3
 a3:=Tryz.isAgg3
 z3:=Tryz.sizeOf3
 v3:=Tryz.zeroValue3
 t4:=Tryz.underlying4
 a4:=Tryz.isAgg4
 z4:=Tryz.sizeOf4
 v4:=Tryz.zeroValue4
 t5:=Tryz.underlying5
 a5:=Tryz.isAgg5
 z5:=Tryz.sizeOf5
 v5:=Tryz.zeroValue5
 t9:=Tryz.underlying9
 a9:=Tryz.isAgg9
 z9:=Tryz.sizeOf9
 v9:=Tryz.zeroValue9
 t46:=Tryz.underlying255
 a46:=Tryz.isAgg255
 z46:=Tryz.sizeOf255
 v46:=Tryz.zeroValue255
 t51:=Tryz.underlying253
 a51:=Tryz.isAgg253
 z51:=Tryz.sizeOf253
 v51:=Tryz.zeroValue253
 t146:=Tryz.underlying321
 a146:=Tryz.isAgg321
 z146:=Tryz.sizeOf321
 v146:=Tryz.zeroValue321
 g1:=by kernel_rfl
 i3:=by kernel_rfl
 i4:=by kernel_rfl
 i5:=by kernel_rfl
 i9:=by kernel_rfl
 i46:=by kernel_rfl
 i51:=by kernel_rfl
 i146:=by kernel_rfl
 m1:=by kernel_rfl
 s1_3:=fun w h=>Go.Proofs.cell_of_shapedOpen_int (zero := #[.int .i64 0]) (t:=3) h (of_decide_eq_true (by kernel_rfl)) (by kernel_rfl) rfl (by kernel_rfl) (by kernel_rfl) Tryz.underlying3 }
def Tryz.Lh:Go.Shelf.Ren:=⟨fun|100=>93|207=>119|n=>n,fun|9=>9|4=>4|3=>3|n=>n,fun|n=>n⟩
theorem Tryz.Xx:Go.Proofs.Lays.n100 Tryz.prog Tryz.Lh:={
 mixed:=by kernel_rfl
 f100:=Tryz.func93.trans (congrArg some (by kernel_rfl))
 f207:=Tryz.func119.trans (congrArg some (by kernel_rfl))
 t3:=Tryz.underlying3
 a3:=Tryz.isAgg3
 z3:=Tryz.sizeOf3
 v3:=Tryz.zeroValue3
 t4:=Tryz.underlying4
 a4:=Tryz.isAgg4
 z4:=Tryz.sizeOf4
 v4:=Tryz.zeroValue4
 t9:=Tryz.underlying9
 a9:=Tryz.isAgg9
 z9:=Tryz.sizeOf9
 v9:=Tryz.zeroValue9 }
open Go.RowKit Go.Lib in
theorem Tryz.strings_HasSuffix (s p:ByteArray) (w:World) (hs:s.size≤9223372036854775807) :
 Calls Tryz.prog 93 #[.string s,.string p] w fun e w'=>e = .returned (.bool (Lib.hasSuffix s.data.toList p.data.toList))∧w'=w:=Any.strings_HasSuffix Tryz.Xx s p w hs
def Tryz.IQ:Go.Shelf.Ren:=⟨fun|45=>224|n=>n,fun|9=>9|5=>5|3=>3|4=>4|n=>n,fun|n=>n⟩
theorem Tryz.Wl:Go.Proofs.Lays.p45 Tryz.prog Tryz.IQ:={
 mixed:=by kernel_rfl
 f45:=Tryz.func224.trans (congrArg some (by kernel_rfl))
 t3:=Tryz.underlying3
 a3:=Tryz.isAgg3
 z3:=Tryz.sizeOf3
 v3:=Tryz.zeroValue3
 t4:=Tryz.underlying4
 a4:=Tryz.isAgg4
 z4:=Tryz.sizeOf4
 v4:=Tryz.zeroValue4
 t5:=Tryz.underlying5
 a5:=Tryz.isAgg5
 z5:=Tryz.sizeOf5
 v5:=Tryz.zeroValue5
 t9:=Tryz.underlying9
 a9:=Tryz.isAgg9
 z9:=Tryz.sizeOf9
 v9:=Tryz.zeroValue9 }
open Go.RowKit Go.Lib in
theorem Tryz.bytealg_LastIndexByteString (s:ByteArray) (c:UInt8) (w:World) (hs:s.size≤9223372036854775807) :
 Calls Tryz.prog 224 #[.string s,.int .u8 c.toNat] w fun e w'=>e = .returned (.int .i64 (Pa.lastIndexByte s.data.toList c))∧w'=w:=Any.bytealg_LastIndexByteString Tryz.Wl s c w hs
end Go.Proofs
end
section
namespace Go.Proofs.YtlfdjpgghiemfaaGreatDoor.vk
open Go.RowKit Mem bX yP om dn
variable {c:UInt8}
theorem K4 (s:ByteArray) (w:World) (hs:s.size≤4611686018427387904) :
  Calls Tryz.prog 168 #[.string s,.string ⟨#[32,9]⟩] w (Gives (.string (str (trim s.data.toList))) w):=by
 have h:=Any.strings_Trim_laid Tryz.Qb (by kernel_rfl) s ⟨#[32,9]⟩ w (by omega) (by decide) (ascii_of_all (by decide))
 rw [VE] at h
 exact h
theorem VJ (s:ByteArray) (w:World) (hs:s.size≤4611686018427387904) :
  Calls Tryz.prog 127 #[.string s] w (Gives (.string (str (trim s.data.toList))) w):=by
 have CT:=Lib.hid (fun w'=>K4 s w' hs)
 go_enter Tryz.func127,Tryz.ntmps127
 go_wp2_with fail
 with_reducible refine (CT.out _).mono ?_
 rintro e w1 ⟨rfl,hb1⟩
 go_wp2_with fail
 go_ret
 exact ⟨rfl,hb1⟩
theorem Q6 (s:ByteArray) (c:UInt8) (w:World) :
  Calls Tryz.prog 71 #[.string s,.int .u8 c.toNat] w (fun e w'=>e = .returned (.int .i64 (Lib.indexByte s.data.toList c))∧w=w'):=by
 have h:=Tryz.strings_IndexByte s c.toNat w
 have e:((c.toNat:Int)).toNat.toUInt8=c:=by simp
 rw [e] at h
 exact h.mono fun _ _ h=>⟨h.1,h.2.symm⟩
def cut (c:UInt8) (l:List UInt8):List UInt8 × List UInt8 × Bool :=
 if l.contains c then (l.take (Lib.indexByte l c).toNat,l.drop ((Lib.indexByte l c).toNat+1),true) else (l,[],false)
theorem su {l:List UInt8} (h:l.contains c=false):cut c l=(l,[],false):=by unfold cut;rw [h];rfl
theorem pQ {a r:List UInt8} (h:a.contains c=false):cut c (a++c::r)=(a,r,true):=by
 unfold cut
 rw [xY a r c h,if_pos (by simp)]
 simp
theorem Ez (s:ByteArray) (k:Nat):s.extract k s.size=str (s.data.toList.drop k):=by
 apply ByteArray.ext;apply Array.ext'
 simp [str,ByteArray.data_extract]
 exact List.take_of_length_le (by simp)
theorem Et (s:ByteArray) (k:Nat):s.extract 0 k=str (s.data.toList.take k):=by
 apply ByteArray.ext;apply Array.ext'
 simp [str,ByteArray.data_extract]
def adW (p:List UInt8 × List UInt8 × Bool) (w:World) (e:Ending) (w':World):Prop:=e = .returned (.tuple #[.string (str p.1),.string (str p.2.1),.bool p.2.2])∧Below w.heap.size w w'
theorem Bj (s:ByteArray) (c:UInt8) (w:World) (hs:s.size≤4611686018427387904) :
  Calls Tryz.prog 42 #[.string s,.int .u8 c.toNat] w (adW (cut c s.data.toList) w):=by
 have CI:=Lib.hid (fun w'=>Q6 s c w')
 rcases mW c s.data.toList with h|⟨a,r,hl,h⟩
 ·rw [index_none _ _ h] at CI
  rw [su h]
  have hst:str s.data.toList=s:=mkB s
  have HS:=Lib.hid hst
  clear h hst
  go_enter Tryz.func42,Tryz.ntmps42
  go_wp2_with fail
  with_reducible refine (CI.out _).mono ?_
  rintro e w1 ⟨rfl,rfl⟩
  go_wp2_with fail
  go_ret3
  refine ⟨?_,Below.refl _ _⟩
  show _=Ending.returned (.tuple #[.string (str s.data.toList),.string (str []),.bool false])
  rw [HS.out]
  rfl
 ·have hz:a.length+1+r.length=s.size:=by
   have:s.data.toList.length=s.size:=by simp
   rw [hl] at this;simp at this;omega
  have hix:Lib.indexByte s.data.toList c=(a.length:Int):=by rw [hl];exact xY a r c h
  have he1:s.extract 0 a.length=str a:=by rw [Et,hl];simp
  have he2:s.extract (a.length+1) s.size=str r:=by rw [Ez,hl];simp
  have hcut:cut c s.data.toList=(a,r,true):=by rw [hl];exact pQ h
  rw [hix] at CI
  rw [hcut]
  have H1:=Lib.hid he1;have H2:=Lib.hid he2
  clear he1 he2 hcut hix hl h
  generalize a.length=n at hz H1 H2 CI
  have hw1:(0:Int)≤(n:Int):=by omega
  have hw2:(n:Int)≤(s.size:Int):=by omega
  have hw3:(n:Int)+1≤(s.size:Int):=by omega
  go_enter Tryz.func42,Tryz.ntmps42
  go_wp2_with fail
  with_reducible refine (CI.out _).mono ?_
  rintro e w1 ⟨rfl,rfl⟩
  go_wp2_with fail
  go_quiet (fail)
  go_wp2_with fail
  go_ret3
  refine ⟨?_,⟨rfl,rfl,rfl,Nat.le_refl _,fun _ _=>rfl⟩⟩
  show _=Ending.returned (.tuple #[.string (str a),.string (str r),.bool true])
  rw [← H1.out,← H2.out]
  rfl
end Go.Proofs.YtlfdjpgghiemfaaGreatDoor.vk
end
