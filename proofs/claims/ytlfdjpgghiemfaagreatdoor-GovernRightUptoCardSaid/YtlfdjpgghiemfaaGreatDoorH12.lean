/- Texts of the proof, joined: Ty. -/
import Derived.Test.YtlfdjpgghiemfaaGreatDoorH10
import Derived.Test.YtlfdjpgghiemfaaGreatDoorH11
set_option maxRecDepth 100000
namespace Go.Proofs.YtlfdjpgghiemfaaGreatDoor
namespace Abs
open Go.RowKit
variable {n:Nat} {okL:TypeId→Nat→Prop} {us:List V} {okS:Nat→Prop}
structure ai where
 name:List UInt8
 value:List UInt8
 domain:List UInt8
 path:List UInt8
 hostOnly:Bool
 secure:Bool
 httpOnly:Bool
 lasting:Bool
 site:Int
 expiry:Int
 created:Int
 used:Int
 no:Int
abbrev ai.v (x:ai):V:=.agg [.str (str x.name),.str (str x.value),.str (str x.domain),.str (str x.path),.bool x.hostOnly,.bool x.secure,.bool x.httpOnly,.bool x.lasting,.int .i64 x.site,.int .i64 x.expiry,.int .i64 x.created,.int .i64 x.used,.int .i64 x.no]
def ai.Ok (okS:Nat→Prop) (okL:TypeId→Nat→Prop) (x:ai):Prop:=okS x.name.length∧okS x.value.length∧okS x.domain.length∧okS x.path.length∧okS=okS∧okL=okL∧x=x
theorem ai.of (h:Typed Tryz.prog okS okL n 46 us):∃ x:ai,V.agg us=x.v∧x.Ok okS okL:=by
 obtain ⟨q,hl,hf⟩:=iO Tryz.underlying46 h
 have e:Tryz.prog.cellsOf 46=13:=by kernel_rfl
 rw [e] at hl
 match us,hl with
 | [c0,c1,c2,c3,c4,c5,c6,c7,c8,c9,c10,c11,c12],_ =>
  have h0:=aQ hf 0 0 1 9 rfl rfl rfl (by kernel_rfl)
  obtain ⟨a0,e0,o0⟩:=lM Tryz.underlying9 h0
  cases e0
  have h1:=aQ hf 1 1 1 9 rfl rfl rfl (by kernel_rfl)
  obtain ⟨a1,e1,o1⟩:=lM Tryz.underlying9 h1
  cases e1
  have h2:=aQ hf 2 2 1 9 rfl rfl rfl (by kernel_rfl)
  obtain ⟨a2,e2,o2⟩:=lM Tryz.underlying9 h2
  cases e2
  have h3:=aQ hf 3 3 1 9 rfl rfl rfl (by kernel_rfl)
  obtain ⟨a3,e3,o3⟩:=lM Tryz.underlying9 h3
  cases e3
  have h4:=aQ hf 4 4 1 4 rfl rfl rfl (by kernel_rfl)
  obtain ⟨a4,e4⟩:=fu Tryz.underlying4 h4
  cases e4
  have h5:=aQ hf 5 5 1 4 rfl rfl rfl (by kernel_rfl)
  obtain ⟨a5,e5⟩:=fu Tryz.underlying4 h5
  cases e5
  have h6:=aQ hf 6 6 1 4 rfl rfl rfl (by kernel_rfl)
  obtain ⟨a6,e6⟩:=fu Tryz.underlying4 h6
  cases e6
  have h7:=aQ hf 7 7 1 4 rfl rfl rfl (by kernel_rfl)
  obtain ⟨a7,e7⟩:=fu Tryz.underlying4 h7
  cases e7
  have h8:=aQ hf 8 8 1 3 rfl rfl rfl (by kernel_rfl)
  obtain ⟨a8,e8⟩:=dG Tryz.underlying3 h8
  cases e8
  have h9:=aQ hf 9 9 1 3 rfl rfl rfl (by kernel_rfl)
  obtain ⟨a9,e9⟩:=dG Tryz.underlying3 h9
  cases e9
  have h10:=aQ hf 10 10 1 3 rfl rfl rfl (by kernel_rfl)
  obtain ⟨a10,e10⟩:=dG Tryz.underlying3 h10
  cases e10
  have h11:=aQ hf 11 11 1 3 rfl rfl rfl (by kernel_rfl)
  obtain ⟨a11,e11⟩:=dG Tryz.underlying3 h11
  cases e11
  have h12:=aQ hf 12 12 1 3 rfl rfl rfl (by kernel_rfl)
  obtain ⟨a12,e12⟩:=dG Tryz.underlying3 h12
  cases e12
  exact ⟨⟨a0,a1,a2,a3,a4,a5,a6,a7,a8,a9,a10,a11,a12⟩,rfl,o0,o1,o2,o3,rfl,rfl,rfl⟩
structure Jar where
 cookies:List ai
 next:Int
abbrev Jar.v (x:Jar):V:=.agg [.fro (x.cookies.map ai.v),.int .i64 x.next]
def Jar.Ok (okS:Nat→Prop) (okL:TypeId→Nat→Prop) (x:Jar):Prop:=(∃ c,x.cookies.length≤c∧(c=0∨okL 46 c))∧(∀ y∈x.cookies,ai.Ok okS okL y)∧okS=okS∧okL=okL∧x=x
theorem Jar.of (h:Typed Tryz.prog okS okL n 25 us):∃ x:Jar,V.agg us=x.v∧x.Ok okS okL:=by
 obtain ⟨q,hl,hf⟩:=iO Tryz.underlying25 h
 have e:Tryz.prog.cellsOf 25=2:=by kernel_rfl
 rw [e] at hl
 match us,hl with
 | [c0,c1],_ =>
  have h0:=aQ hf 0 0 1 23 rfl rfl rfl (by kernel_rfl)
  obtain ⟨a0,e0,o0,b0⟩:=wP ai.v (fun a=>ai.Ok okS okL a) Tryz.underlying23 h0 (fun m x hx=>by obtain ⟨a,h1,h2⟩:=ai.of hx;exact ⟨a,by rw [Ed (by kernel_rfl)];exact h1,h2⟩)
  cases e0
  have h1:=aQ hf 1 1 1 3 rfl rfl rfl (by kernel_rfl)
  obtain ⟨a1,e1⟩:=dG Tryz.underlying3 h1
  cases e1
  exact ⟨⟨a0,a1⟩,rfl,b0,o0,rfl,rfl,rfl⟩
structure Rule where
 kind:Int
 text:List UInt8
 purpose:Int
 vendor:Int
abbrev Rule.v (x:Rule):V:=.agg [.int .i64 x.kind,.str (str x.text),.int .i64 x.purpose,.int .i64 x.vendor]
def Rule.Ok (okS:Nat→Prop) (okL:TypeId→Nat→Prop) (x:Rule):Prop:=okS x.text.length∧okS=okS∧okL=okL∧x=x
theorem Rule.of (h:Typed Tryz.prog okS okL n 110 us):∃ x:Rule,V.agg us=x.v∧x.Ok okS okL:=by
 obtain ⟨q,hl,hf⟩:=iO Tryz.underlying110 h
 have e:Tryz.prog.cellsOf 110=4:=by kernel_rfl
 rw [e] at hl
 match us,hl with
 | [c0,c1,c2,c3],_ =>
  have h0:=aQ hf 0 0 1 3 rfl rfl rfl (by kernel_rfl)
  obtain ⟨a0,e0⟩:=dG Tryz.underlying3 h0
  cases e0
  have h1:=aQ hf 1 1 1 9 rfl rfl rfl (by kernel_rfl)
  obtain ⟨a1,e1,o1⟩:=lM Tryz.underlying9 h1
  cases e1
  have h2:=aQ hf 2 2 1 3 rfl rfl rfl (by kernel_rfl)
  obtain ⟨a2,e2⟩:=dG Tryz.underlying3 h2
  cases e2
  have h3:=aQ hf 3 3 1 3 rfl rfl rfl (by kernel_rfl)
  obtain ⟨a3,e3⟩:=dG Tryz.underlying3 h3
  cases e3
  exact ⟨⟨a0,a1,a2,a3⟩,rfl,o1,rfl,rfl,rfl⟩
structure jb where
 rules:List Rule
 dflt:Int
 caps:Nat→Int
abbrev jb.v (x:jb):V:=.agg [.fro (x.rules.map Rule.v),.int .i64 x.dflt,.int .i64 ((x.caps 0)),.int .i64 ((x.caps 1)),.int .i64 ((x.caps 2)),.int .i64 ((x.caps 3)),.int .i64 ((x.caps 4)),.int .i64 ((x.caps 5)),.int .i64 ((x.caps 6)),.int .i64 ((x.caps 7)),.int .i64 ((x.caps 8)),.int .i64 ((x.caps 9)),.int .i64 ((x.caps 10))]
def jb.Ok (okS:Nat→Prop) (okL:TypeId→Nat→Prop) (x:jb):Prop:=(∃ c,x.rules.length≤c∧(c=0∨okL 110 c))∧(∀ y∈x.rules,Rule.Ok okS okL y)∧okS=okS∧okL=okL∧x=x
theorem jb.of (h:Typed Tryz.prog okS okL n 29 us):∃ x:jb,V.agg us=x.v∧x.Ok okS okL:=by
 obtain ⟨q,hl,hf⟩:=iO Tryz.underlying29 h
 have e:Tryz.prog.cellsOf 29=13:=by kernel_rfl
 rw [e] at hl
 match us,hl with
 | [c0,c1,c2,c3,c4,c5,c6,c7,c8,c9,c10,c11,c12],_ =>
  have h0:=aQ hf 0 0 1 26 rfl rfl rfl (by kernel_rfl)
  obtain ⟨a0,e0,o0,b0⟩:=wP Rule.v (fun a=>Rule.Ok okS okL a) Tryz.underlying26 h0 (fun m x hx=>by obtain ⟨a,h1,h2⟩:=Rule.of hx;exact ⟨a,by rw [Ed (by kernel_rfl)];exact h1,h2⟩)
  cases e0
  have h1:=aQ hf 1 1 1 3 rfl rfl rfl (by kernel_rfl)
  obtain ⟨a1,e1⟩:=dG Tryz.underlying3 h1
  cases e1
  have h2:=aQ hf 2 2 11 27 rfl rfl rfl (by kernel_rfl)
  obtain ⟨q2,_,g2⟩:=Kt Tryz.underlying27 h2
  have g2_0:=g2 0 (by decide)
  rw [show Tryz.prog.cellsOf 3=1 from by kernel_rfl] at g2_0
  obtain ⟨a2_0,e2_0⟩:=dG Tryz.underlying3 g2_0
  cases e2_0
  have g2_1:=g2 1 (by decide)
  rw [show Tryz.prog.cellsOf 3=1 from by kernel_rfl] at g2_1
  obtain ⟨a2_1,e2_1⟩:=dG Tryz.underlying3 g2_1
  cases e2_1
  have g2_2:=g2 2 (by decide)
  rw [show Tryz.prog.cellsOf 3=1 from by kernel_rfl] at g2_2
  obtain ⟨a2_2,e2_2⟩:=dG Tryz.underlying3 g2_2
  cases e2_2
  have g2_3:=g2 3 (by decide)
  rw [show Tryz.prog.cellsOf 3=1 from by kernel_rfl] at g2_3
  obtain ⟨a2_3,e2_3⟩:=dG Tryz.underlying3 g2_3
  cases e2_3
  have g2_4:=g2 4 (by decide)
  rw [show Tryz.prog.cellsOf 3=1 from by kernel_rfl] at g2_4
  obtain ⟨a2_4,e2_4⟩:=dG Tryz.underlying3 g2_4
  cases e2_4
  have g2_5:=g2 5 (by decide)
  rw [show Tryz.prog.cellsOf 3=1 from by kernel_rfl] at g2_5
  obtain ⟨a2_5,e2_5⟩:=dG Tryz.underlying3 g2_5
  cases e2_5
  have g2_6:=g2 6 (by decide)
  rw [show Tryz.prog.cellsOf 3=1 from by kernel_rfl] at g2_6
  obtain ⟨a2_6,e2_6⟩:=dG Tryz.underlying3 g2_6
  cases e2_6
  have g2_7:=g2 7 (by decide)
  rw [show Tryz.prog.cellsOf 3=1 from by kernel_rfl] at g2_7
  obtain ⟨a2_7,e2_7⟩:=dG Tryz.underlying3 g2_7
  cases e2_7
  have g2_8:=g2 8 (by decide)
  rw [show Tryz.prog.cellsOf 3=1 from by kernel_rfl] at g2_8
  obtain ⟨a2_8,e2_8⟩:=dG Tryz.underlying3 g2_8
  cases e2_8
  have g2_9:=g2 9 (by decide)
  rw [show Tryz.prog.cellsOf 3=1 from by kernel_rfl] at g2_9
  obtain ⟨a2_9,e2_9⟩:=dG Tryz.underlying3 g2_9
  cases e2_9
  have g2_10:=g2 10 (by decide)
  rw [show Tryz.prog.cellsOf 3=1 from by kernel_rfl] at g2_10
  obtain ⟨a2_10,e2_10⟩:=dG Tryz.underlying3 g2_10
  cases e2_10
  exact ⟨⟨a0,a1,fun i=>[a2_0,a2_1,a2_2,a2_3,a2_4,a2_5,a2_6,a2_7,a2_8,a2_9,a2_10].getD i 0⟩,rfl,b0,o0,rfl,rfl,rfl⟩
structure lI where
 given:Int
 purposes:Nat→Bool
 vendors:List Int
abbrev lI.v (x:lI):V:=.agg [.int .i64 x.given,.bool ((x.purposes 0)),.bool ((x.purposes 1)),.bool ((x.purposes 2)),.bool ((x.purposes 3)),.bool ((x.purposes 4)),.bool ((x.purposes 5)),.bool ((x.purposes 6)),.bool ((x.purposes 7)),.bool ((x.purposes 8)),.bool ((x.purposes 9)),.fro (x.vendors.map (V.int .i64))]
def lI.Ok (okS:Nat→Prop) (okL:TypeId→Nat→Prop) (x:lI):Prop:=(∃ c,x.vendors.length≤c∧(c=0∨okL 3 c))∧okS=okS∧okL=okL∧x=x
theorem lI.of (h:Typed Tryz.prog okS okL n 33 us):∃ x:lI,V.agg us=x.v∧x.Ok okS okL:=by
 obtain ⟨q,hl,hf⟩:=iO Tryz.underlying33 h
 have e:Tryz.prog.cellsOf 33=12:=by kernel_rfl
 rw [e] at hl
 match us,hl with
 | [c0,c1,c2,c3,c4,c5,c6,c7,c8,c9,c10,c11],_ =>
  have h0:=aQ hf 0 0 1 3 rfl rfl rfl (by kernel_rfl)
  obtain ⟨a0,e0⟩:=dG Tryz.underlying3 h0
  cases e0
  have h1:=aQ hf 1 1 10 30 rfl rfl rfl (by kernel_rfl)
  obtain ⟨q1,_,g1⟩:=Kt Tryz.underlying30 h1
  have g1_0:=g1 0 (by decide)
  rw [show Tryz.prog.cellsOf 4=1 from by kernel_rfl] at g1_0
  obtain ⟨a1_0,e1_0⟩:=fu Tryz.underlying4 g1_0
  cases e1_0
  have g1_1:=g1 1 (by decide)
  rw [show Tryz.prog.cellsOf 4=1 from by kernel_rfl] at g1_1
  obtain ⟨a1_1,e1_1⟩:=fu Tryz.underlying4 g1_1
  cases e1_1
  have g1_2:=g1 2 (by decide)
  rw [show Tryz.prog.cellsOf 4=1 from by kernel_rfl] at g1_2
  obtain ⟨a1_2,e1_2⟩:=fu Tryz.underlying4 g1_2
  cases e1_2
  have g1_3:=g1 3 (by decide)
  rw [show Tryz.prog.cellsOf 4=1 from by kernel_rfl] at g1_3
  obtain ⟨a1_3,e1_3⟩:=fu Tryz.underlying4 g1_3
  cases e1_3
  have g1_4:=g1 4 (by decide)
  rw [show Tryz.prog.cellsOf 4=1 from by kernel_rfl] at g1_4
  obtain ⟨a1_4,e1_4⟩:=fu Tryz.underlying4 g1_4
  cases e1_4
  have g1_5:=g1 5 (by decide)
  rw [show Tryz.prog.cellsOf 4=1 from by kernel_rfl] at g1_5
  obtain ⟨a1_5,e1_5⟩:=fu Tryz.underlying4 g1_5
  cases e1_5
  have g1_6:=g1 6 (by decide)
  rw [show Tryz.prog.cellsOf 4=1 from by kernel_rfl] at g1_6
  obtain ⟨a1_6,e1_6⟩:=fu Tryz.underlying4 g1_6
  cases e1_6
  have g1_7:=g1 7 (by decide)
  rw [show Tryz.prog.cellsOf 4=1 from by kernel_rfl] at g1_7
  obtain ⟨a1_7,e1_7⟩:=fu Tryz.underlying4 g1_7
  cases e1_7
  have g1_8:=g1 8 (by decide)
  rw [show Tryz.prog.cellsOf 4=1 from by kernel_rfl] at g1_8
  obtain ⟨a1_8,e1_8⟩:=fu Tryz.underlying4 g1_8
  cases e1_8
  have g1_9:=g1 9 (by decide)
  rw [show Tryz.prog.cellsOf 4=1 from by kernel_rfl] at g1_9
  obtain ⟨a1_9,e1_9⟩:=fu Tryz.underlying4 g1_9
  cases e1_9
  have h2:=aQ hf 2 11 1 31 rfl rfl rfl (by kernel_rfl)
  obtain ⟨a2,e2,o2,b2⟩:=wP (V.int .i64) (fun _=>True) Tryz.underlying31 h2 (fun m x hx=>by obtain ⟨a,rfl⟩:=dG Tryz.underlying3 hx;exact ⟨a,mk_one (by kernel_rfl),trivial⟩)
  cases e2
  exact ⟨⟨a0,fun i=>[a1_0,a1_1,a1_2,a1_3,a1_4,a1_5,a1_6,a1_7,a1_8,a1_9].getD i false,a2⟩,rfl,b2,rfl,rfl,rfl⟩
structure aG where
 kind:Int
 name:List UInt8
abbrev aG.v (x:aG):V:=.agg [.int .i64 x.kind,.str (str x.name)]
def aG.Ok (okS:Nat→Prop) (okL:TypeId→Nat→Prop) (x:aG):Prop:=okS x.name.length∧okS=okS∧okL=okL∧x=x
theorem aG.of (h:Typed Tryz.prog okS okL n 108 us):∃ x:aG,V.agg us=x.v∧x.Ok okS okL:=by
 obtain ⟨q,hl,hf⟩:=iO Tryz.underlying108 h
 have e:Tryz.prog.cellsOf 108=2:=by kernel_rfl
 rw [e] at hl
 match us,hl with
 | [c0,c1],_ =>
  have h0:=aQ hf 0 0 1 3 rfl rfl rfl (by kernel_rfl)
  obtain ⟨a0,e0⟩:=dG Tryz.underlying3 h0
  cases e0
  have h1:=aQ hf 1 1 1 9 rfl rfl rfl (by kernel_rfl)
  obtain ⟨a1,e1,o1⟩:=lM Tryz.underlying9 h1
  cases e1
  exact ⟨⟨a0,a1⟩,rfl,o1,rfl,rfl,rfl⟩
structure State where
 suffixes:List aG
 jar:Jar
 policy:jb
 consent:lI
 clock:Int
abbrev State.v (x:State):V:=.agg [.fro (x.suffixes.map aG.v),.fro (x.jar.cookies.map ai.v),.int .i64 x.jar.next,.fro (x.policy.rules.map Rule.v),.int .i64 x.policy.dflt,.int .i64 ((x.policy.caps 0)),.int .i64 ((x.policy.caps 1)),.int .i64 ((x.policy.caps 2)),.int .i64 ((x.policy.caps 3)),.int .i64 ((x.policy.caps 4)),.int .i64 ((x.policy.caps 5)),.int .i64 ((x.policy.caps 6)),.int .i64 ((x.policy.caps 7)),.int .i64 ((x.policy.caps 8)),.int .i64 ((x.policy.caps 9)),.int .i64 ((x.policy.caps 10)),.int .i64 x.consent.given,.bool ((x.consent.purposes 0)),.bool ((x.consent.purposes 1)),.bool ((x.consent.purposes 2)),.bool ((x.consent.purposes 3)),.bool ((x.consent.purposes 4)),.bool ((x.consent.purposes 5)),.bool ((x.consent.purposes 6)),.bool ((x.consent.purposes 7)),.bool ((x.consent.purposes 8)),.bool ((x.consent.purposes 9)),.fro (x.consent.vendors.map (V.int .i64)),.int .i64 x.clock]
def State.Ok (okS:Nat→Prop) (okL:TypeId→Nat→Prop) (x:State):Prop:=(∃ c,x.suffixes.length≤c∧(c=0∨okL 108 c))∧(∀ y∈x.suffixes,aG.Ok okS okL y)∧Jar.Ok okS okL x.jar∧jb.Ok okS okL x.policy∧lI.Ok okS okL x.consent∧okS=okS∧okL=okL∧x=x
theorem State.of (h:Typed Tryz.prog okS okL n 35 us):∃ x:State,V.agg us=x.v∧x.Ok okS okL:=by
 obtain ⟨q,hl,hf⟩:=iO Tryz.underlying35 h
 have e:Tryz.prog.cellsOf 35=29:=by kernel_rfl
 rw [e] at hl
 match us,hl with
 | [c0,c1,c2,c3,c4,c5,c6,c7,c8,c9,c10,c11,c12,c13,c14,c15,c16,c17,c18,c19,c20,c21,c22,c23,c24,c25,c26,c27,c28],_ =>
  have h0:=aQ hf 0 0 1 22 rfl rfl rfl (by kernel_rfl)
  obtain ⟨a0,e0,o0,b0⟩:=wP aG.v (fun a=>aG.Ok okS okL a) Tryz.underlying22 h0 (fun m x hx=>by obtain ⟨a,h1,h2⟩:=aG.of hx;exact ⟨a,by rw [Ed (by kernel_rfl)];exact h1,h2⟩)
  cases e0
  have h1:=aQ hf 1 1 2 25 rfl rfl rfl (by kernel_rfl)
  obtain ⟨a1,e1,o1⟩:=Jar.of h1
  obtain ⟨a1_0,a1_1⟩:=a1
  cases e1
  have h2:=aQ hf 2 3 13 29 rfl rfl rfl (by kernel_rfl)
  obtain ⟨a2,e2,o2⟩:=jb.of h2
  obtain ⟨a2_0,a2_1,a2_2⟩:=a2
  cases e2
  have h3:=aQ hf 3 16 12 33 rfl rfl rfl (by kernel_rfl)
  obtain ⟨a3,e3,o3⟩:=lI.of h3
  obtain ⟨a3_0,a3_1,a3_2⟩:=a3
  cases e3
  have h4:=aQ hf 4 28 1 3 rfl rfl rfl (by kernel_rfl)
  obtain ⟨a4,e4⟩:=dG Tryz.underlying3 h4
  cases e4
  exact ⟨⟨a0,⟨a1_0,a1_1⟩,⟨a2_0,a2_1,a2_2⟩,⟨a3_0,a3_1,a3_2⟩,a4⟩,rfl,b0,o0,o1,o2,o3,rfl,rfl,rfl⟩
structure From where
 host:List UInt8
 path:List UInt8
 secure:Bool
 script:Bool
 abroad:Bool
abbrev From.v (x:From):V:=.agg [.str (str x.host),.str (str x.path),.bool x.secure,.bool x.script,.bool x.abroad]
def From.Ok (okS:Nat→Prop) (okL:TypeId→Nat→Prop) (x:From):Prop:=okS x.host.length∧okS x.path.length∧okS=okS∧okL=okL∧x=x
theorem From.of (h:Typed Tryz.prog okS okL n 37 us):∃ x:From,V.agg us=x.v∧x.Ok okS okL:=by
 obtain ⟨q,hl,hf⟩:=iO Tryz.underlying37 h
 have e:Tryz.prog.cellsOf 37=5:=by kernel_rfl
 rw [e] at hl
 match us,hl with
 | [c0,c1,c2,c3,c4],_ =>
  have h0:=aQ hf 0 0 1 9 rfl rfl rfl (by kernel_rfl)
  obtain ⟨a0,e0,o0⟩:=lM Tryz.underlying9 h0
  cases e0
  have h1:=aQ hf 1 1 1 9 rfl rfl rfl (by kernel_rfl)
  obtain ⟨a1,e1,o1⟩:=lM Tryz.underlying9 h1
  cases e1
  have h2:=aQ hf 2 2 1 4 rfl rfl rfl (by kernel_rfl)
  obtain ⟨a2,e2⟩:=fu Tryz.underlying4 h2
  cases e2
  have h3:=aQ hf 3 3 1 4 rfl rfl rfl (by kernel_rfl)
  obtain ⟨a3,e3⟩:=fu Tryz.underlying4 h3
  cases e3
  have h4:=aQ hf 4 4 1 4 rfl rfl rfl (by kernel_rfl)
  obtain ⟨a4,e4⟩:=fu Tryz.underlying4 h4
  cases e4
  exact ⟨⟨a0,a1,a2,a3,a4⟩,rfl,o0,o1,rfl,rfl,rfl⟩
structure Event where
 kind:Int
 now:Int
 text:List UInt8
 src:From
 policy:jb
abbrev Event.v (x:Event):V:=.agg [.int .i64 x.kind,.int .i64 x.now,.str (str x.text),.str (str x.src.host),.str (str x.src.path),.bool x.src.secure,.bool x.src.script,.bool x.src.abroad,.fro (x.policy.rules.map Rule.v),.int .i64 x.policy.dflt,.int .i64 ((x.policy.caps 0)),.int .i64 ((x.policy.caps 1)),.int .i64 ((x.policy.caps 2)),.int .i64 ((x.policy.caps 3)),.int .i64 ((x.policy.caps 4)),.int .i64 ((x.policy.caps 5)),.int .i64 ((x.policy.caps 6)),.int .i64 ((x.policy.caps 7)),.int .i64 ((x.policy.caps 8)),.int .i64 ((x.policy.caps 9)),.int .i64 ((x.policy.caps 10))]
def Event.Ok (okS:Nat→Prop) (okL:TypeId→Nat→Prop) (x:Event):Prop:=okS x.text.length∧From.Ok okS okL x.src∧jb.Ok okS okL x.policy∧okS=okS∧okL=okL∧x=x
theorem Event.of (h:Typed Tryz.prog okS okL n 39 us):∃ x:Event,V.agg us=x.v∧x.Ok okS okL:=by
 obtain ⟨q,hl,hf⟩:=iO Tryz.underlying39 h
 have e:Tryz.prog.cellsOf 39=21:=by kernel_rfl
 rw [e] at hl
 match us,hl with
 | [c0,c1,c2,c3,c4,c5,c6,c7,c8,c9,c10,c11,c12,c13,c14,c15,c16,c17,c18,c19,c20],_ =>
  have h0:=aQ hf 0 0 1 3 rfl rfl rfl (by kernel_rfl)
  obtain ⟨a0,e0⟩:=dG Tryz.underlying3 h0
  cases e0
  have h1:=aQ hf 1 1 1 3 rfl rfl rfl (by kernel_rfl)
  obtain ⟨a1,e1⟩:=dG Tryz.underlying3 h1
  cases e1
  have h2:=aQ hf 2 2 1 9 rfl rfl rfl (by kernel_rfl)
  obtain ⟨a2,e2,o2⟩:=lM Tryz.underlying9 h2
  cases e2
  have h3:=aQ hf 3 3 5 37 rfl rfl rfl (by kernel_rfl)
  obtain ⟨a3,e3,o3⟩:=From.of h3
  obtain ⟨a3_0,a3_1,a3_2,a3_3,a3_4⟩:=a3
  cases e3
  have h4:=aQ hf 4 8 13 29 rfl rfl rfl (by kernel_rfl)
  obtain ⟨a4,e4,o4⟩:=jb.of h4
  obtain ⟨a4_0,a4_1,a4_2⟩:=a4
  cases e4
  exact ⟨⟨a0,a1,a2,⟨a3_0,a3_1,a3_2,a3_3,a3_4⟩,⟨a4_0,a4_1,a4_2⟩⟩,rfl,o2,o3,o4,rfl,rfl,rfl⟩
structure Attr where
 name:List UInt8
 value:List UInt8
abbrev Attr.v (x:Attr):V:=.agg [.str (str x.name),.str (str x.value)]
structure Raw where
 name:List UInt8
 value:List UInt8
 attrs:List Attr
abbrev Raw.v (x:Raw):V:=.agg [.str (str x.name),.str (str x.value),.fro (x.attrs.map Attr.v)]
structure Time where
 y:Int
 mon:Int
 d:Int
 h:Int
 min:Int
 s:Int
end Abs
end Go.Proofs.YtlfdjpgghiemfaaGreatDoor
