/- Texts of the proof, joined: GovC, Bld, LineC. -/
import Derived.Test.YtlfdjpgghiemfaaGreatDoorG33
set_option maxHeartbeats 4000000
set_option maxRecDepth 100000
namespace Go.Proofs.YtlfdjpgghiemfaaGreatDoor
namespace ab7
open Go.RowKit Mem Abs fw dh iw eB Rdy Scan bP bR cZ gy gY iW iY iV mX pG su NZ QK xB z8 En Eu RjP Es I6 Jg nT oC
open mY (gK gL)
variable {l s a:List UInt8}
abbrev tX:List UInt8:=([105,100,61,55,59,32,100,111,109,97,105,110,61,115,104,111,112,46,99,111,109,59,32,115,101,99,117,114,101]:List UInt8)
abbrev a1:Attr:=⟨([100,111,109,97,105,110]:List UInt8),([115,104,111,112,46,99,111,109]:List UInt8)⟩
abbrev a2:Attr:=⟨([115,101,99,117,114,101]:List UInt8),[]⟩
abbrev r0:Raw:=⟨([105,100]:List UInt8),([55]:List UInt8),[a1,a2]⟩
abbrev fX:From:=⟨([119,119,119,46,115,104,111,112,46,99,111,109]:List UInt8),([47,99,97,114,116,47,97,100,100]:List UInt8),true,false,false⟩
abbrev S0:List aG:=[⟨1,([99,111,109]:List UInt8)⟩,⟨1,([99,111,46,117,107]:List UInt8)⟩,⟨2,([99,107]:List UInt8)⟩,⟨3,([119,119,119,46,99,107]:List UInt8)⟩]
def acT:Nat→Int
 | 0=>100
 | 4=>50
 | _=>60
def pR:iU:=⟨[⟨2,([97,100,95]:List UInt8),4,9⟩,⟨4,([97,100,115,46,99,111,109]:List UInt8),2,3⟩,⟨1,([105,100]:List UInt8),0,0⟩],1,acT⟩
def PA (i:Nat):Bool:=i==0||i==3
abbrev UA:List Int:=[2,3,4,9]
theorem pW {b:List UInt8} {q:Bool} (h:gX 61 l=(a,b,q)):aj Tryz.prog 42 [au l,bB 61] (.tup [au a,au b,.bool q]):=by
 have:=Ki (c:=61) (l:=l)
 rw [h] at this
 exact this
theorem pF (h:trim l=a):aj Tryz.prog 127 [au l] (au a):=h ▸ sS
theorem fold_at (h:fold l=a):aj Tryz.prog 120 [au l] (au a):=h ▸ qm
theorem V5 (h:mJ l=true):aj Tryz.prog 126 [au l] (.bool true):=h ▸ EY
theorem RY {c:UInt8} (h:l.contains c=false):aj Tryz.prog 173 [au l,au [c]] (.bool false):=h ▸ eU
abbrev pX:List (List UInt8):=[([105,100,61,55]:List UInt8),([32,100,111,109,97,105,110,61,115,104,111,112,46,99,111,109]:List UInt8),([32,115,101,99,117,114,101]:List UInt8)]
theorem aay:aj Tryz.prog 106 [au tX] (.tup [r0.v,.int .i64 0]):=by
 have c1:=V5 (l:=tX) (by decide +kernel)
 have c2:=tO (u:=59) (l:=tX) (by decide)
 rw [show split 59 tX=pX by decide +kernel] at c2
 have d1:=pW (l:=([105,100,61,55]:List UInt8)) (a:=([105,100]:List UInt8)) (b:=([55]:List UInt8)) (q:=true) (by decide +kernel)
 have d2:=pW (l:=([32,100,111,109,97,105,110,61,115,104,111,112,46,99,111,109]:List UInt8)) (a:=([32,100,111,109,97,105,110]:List UInt8)) (b:=([115,104,111,112,46,99,111,109]:List UInt8)) (q:=true) (by decide +kernel)
 have d3:=pW (l:=([32,115,101,99,117,114,101]:List UInt8)) (a:=([32,115,101,99,117,114,101]:List UInt8)) (b:=[]) (q:=false) (by decide +kernel)
 have e1:=pF (l:=([105,100]:List UInt8)) (a:=([105,100]:List UInt8)) (by decide +kernel)
 have e2:=pF (l:=([55]:List UInt8)) (a:=([55]:List UInt8)) (by decide +kernel)
 have e3:=pF (l:=([32,100,111,109,97,105,110]:List UInt8)) (a:=([100,111,109,97,105,110]:List UInt8)) (by decide +kernel)
 have e4:=pF (l:=([115,104,111,112,46,99,111,109]:List UInt8)) (a:=([115,104,111,112,46,99,111,109]:List UInt8)) (by decide +kernel)
 have e5:=pF (l:=([32,115,101,99,117,114,101]:List UInt8)) (a:=([115,101,99,117,114,101]:List UInt8)) (by decide +kernel)
 have e6:=pF (l:=[]) (a:=[]) (by decide +kernel)
 have g1:=fold_at (l:=([100,111,109,97,105,110]:List UInt8)) (a:=([100,111,109,97,105,110]:List UInt8)) (by decide +kernel)
 have g2:=fold_at (l:=([115,101,99,117,114,101]:List UInt8)) (a:=([115,101,99,117,114,101]:List UInt8)) (by decide +kernel)
 have hl:tX.length=29:=rfl
 have hl2:pX.length=3:=rfl
 have hl3:((List.drop ((1:Int)).toNat pX).map au).length=2:=rfl
 have h1:([au ([105,100,61,55]:List UInt8),au ([32,100,111,109,97,105,110,61,115,104,111,112,46,99,111,109]:List UInt8),au ([32,115,101,99,117,114,101]:List UInt8)]:List Abs.V)[(0:Int).toNat]? = some (au ([105,100,61,55]:List UInt8)):=rfl
 have n0:¬ (([105,100]:List UInt8):List UInt8)=[]:=by decide
 have n1:(([100,111,109,97,105,110]:List UInt8):List UInt8)≠[]:=by decide
 have n2:(([115,101,99,117,114,101]:List UInt8):List UInt8)≠[]:=by decide
 have hl4:([a1,a2]:List Attr).length=2:=rfl
 have hl6:([]:List Attr).length=0:=rfl
 have hl7:([a1]:List Attr).length=1:=rfl
 have hl5:(([a1]:List Attr)++[a2]).length=2:=rfl
 refine aW af Tryz.func106 rfl Tryz.ntmps106 Tryz.results106 rfl fun N=>?_
 repeat' (first|refine zV ?_|(refine isR ?_;first|refine zk c1 ?_|refine zk c2 ?_|refine zk d1 ?_|refine zk e1 ?_|refine zk e2 ?_|refine Tp (L:=pX) (f:=au) af ?_)|refine zW ?_|exact ai)
 all_goals first|(exfalso;omega)|skip
 refine jT 0 2 60 2 rfl rfl (by decide) rfl ?_
 repeat' (first|with_reducible refine aQ ?_|with_reducible refine aO 3 ?_|refine zV ?_|(refine isR ?_;first|refine zk d2 ?_|refine zk d3 ?_|refine zk e3 ?_|refine zk e4 ?_|refine zk e5 ?_|refine zk e6 ?_|refine zk g1 ?_|refine zk g2 ?_|refine kr Attr.v (L:=[]) (a1:=a1) af ?_ (hby:=by show _*(_:Nat)≤_;simp)|refine kr Attr.v (L:=[a1]) (a1:=a2) af ?_ (hby:=by show _*(_:Nat)≤_;simp))|refine zW ?_|exact ai)
 all_goals first|rfl|(exfalso;omega)
theorem og (h1:trim s=s) (h2:mJ s=true) (h3:s.contains 59=false):aj Tryz.prog 171 [au s] (.bool true):=by
 have c1:=pF h1
 have c2:=V5 h2
 have c3:=RY h3
 refine aW af Tryz.func171 rfl Tryz.ntmps171 Tryz.results171 rfl fun N=>?_
 repeat' (first|refine zV ?_|(refine isR ?_;first|refine zk c1 ?_|refine zk c2 ?_|refine zk c3 ?_)|refine zW ?_|exact ai)
 all_goals first|rfl|(exfalso;simp_all;done)
theorem BK (h0:s≠[]) (hp:aj Tryz.prog 171 [au s] (.bool true)) (h3:s.contains 61=false):aj Tryz.prog 170 [au s] (.bool true):=by
 have c3:=RY h3
 refine aW af Tryz.func170 rfl Tryz.ntmps170 Tryz.results170 rfl fun N=>?_
 repeat' (first|refine zV ?_|(refine isR ?_;first|refine zk hp ?_|refine zk c3 ?_)|refine zW ?_|exact ai)
 all_goals first|rfl|(exfalso;simp_all;done)
theorem U4 {a:Attr} (h1:aj Tryz.prog 170 [au a.name] (.bool true)) (h2:fold a.name=a.name) (h3:aj Tryz.prog 171 [au a.value] (.bool true)):aj Tryz.prog 169 [a.v] (.bool false):=by
 have c1:=fold_at h2
 refine aW af Tryz.func169 rfl Tryz.ntmps169 Tryz.results169 rfl fun N=>?_
 repeat' (first|refine zV ?_|(refine isR ?_;first|refine zk h1 ?_|refine zk c1 ?_|refine zk h3 ?_)|refine zW ?_|exact ai)
 all_goals first|rfl|(exfalso;simp_all;done)
theorem pl1:aj Tryz.prog 171 [au ([105,100]:List UInt8)] (.bool true):=og (by decide +kernel) (by decide +kernel) (by decide +kernel)
theorem pl2:aj Tryz.prog 171 [au ([55]:List UInt8)] (.bool true):=og (by decide +kernel) (by decide +kernel) (by decide +kernel)
theorem pl3:aj Tryz.prog 171 [au ([100,111,109,97,105,110]:List UInt8)] (.bool true):=og (by decide +kernel) (by decide +kernel) (by decide +kernel)
theorem pl4:aj Tryz.prog 171 [au ([115,104,111,112,46,99,111,109]:List UInt8)] (.bool true):=og (by decide +kernel) (by decide +kernel) (by decide +kernel)
theorem pl5:aj Tryz.prog 171 [au ([115,101,99,117,114,101]:List UInt8)] (.bool true):=og (by decide +kernel) (by decide +kernel) (by decide +kernel)
theorem pl6:aj Tryz.prog 171 [au []] (.bool true):=og (by decide +kernel) (by decide +kernel) (by decide +kernel)
abbrev fnH:Abs.V:=.fn (.func 169) [] []
theorem ado:aj Tryz.prog 222 [.fro [a1.v,a2.v],fnH] (.int .i64 (-1)):=by
 have b1:=U4 (a:=a1) (BK (by decide) pl3 (by decide +kernel)) (by decide +kernel) pl4
 have b2:=U4 (a:=a2) (BK (by decide) pl5 (by decide +kernel)) (by decide +kernel) pl6
 have hl:([a1.v,a2.v]:List Abs.V).length=2:=rfl
 refine aX af Tryz.func222 rfl Tryz.ntmps222 Tryz.results222 rfl fun N=>?_
 repeat' (first|with_reducible refine aQ ?_|with_reducible refine aO 3 ?_|refine zV ?_|(refine isR ?_;first|refine ak (b1 _) ?_|refine ak (b1) ?_|refine ak (b2 _) ?_|refine ak (b2) ?_)|refine zW ?_|exact ai)
 all_goals first|rfl|(exfalso;omega)
theorem adv:aj Tryz.prog 172 [.fro [a1.v,a2.v],fnH] (.bool false):=by
 have c1:=ado
 refine aX af Tryz.func172 rfl Tryz.ntmps172 Tryz.results172 rfl fun N=>?_
 repeat' (first|refine zV ?_|(refine isR ?_;refine zk c1 ?_)|refine zW ?_|exact ai)
 all_goals first|rfl|(exfalso;omega)
theorem aac:aj Tryz.prog 130 [r0.v] (.int .i64 0):=by
 have c1:=BK (s:=([105,100]:List UInt8)) (by decide) pl1 (by decide +kernel)
 have c2:=pl2
 have c3:=adv
 have hl:(r0.attrs.map Attr.v).length=2:=rfl
 refine aW af Tryz.func130 rfl Tryz.ntmps130 Tryz.results130 rfl fun N=>?_
 repeat' (first|refine zV ?_|(refine isR ?_;first|refine zk c1 ?_|refine zk c2 ?_|refine zk c3 ?_)|refine zW ?_|exact ai)
 all_goals first|rfl|(exfalso;omega)
abbrev TM:Nat:=181
abbrev mkC (d:List UInt8) (sec told:Bool):List Abs.V:=[au ([105,100]:List UInt8),au ([55]:List UInt8),au d,au ([47,99,97,114,116]:List UInt8),.bool false,.bool sec,.bool false,.bool false,.int .i64 0,.int .i64 253402300799,.int .i64 1000,.int .i64 1000,.int .i64 0,au ([119,119,119,46,115,104,111,112,46,99,111,109]:List UInt8),au ([47,99,97,114,116,47,97,100,100]:List UInt8),.bool true,.bool false,.bool false,.int .i64 1000,.bool false,.bool told,.bool false]
abbrev rM (d:List UInt8) (sec told:Bool):Blk:=.els TM 22 [.agg (mkC d sec told)]
abbrev k0:ah:=⟨([105,100]:List UInt8),([55]:List UInt8),([115,104,111,112,46,99,111,109]:List UInt8),([47,99,97,114,116]:List UInt8),false,true,false,false,0,253402300799,1000,1000,0⟩
abbrev k1:ah:=⟨([105,100]:List UInt8),([55]:List UInt8),([115,104,111,112,46,99,111,109]:List UInt8),([47,99,97,114,116]:List UInt8),false,true,false,false,0,1100,1000,1000,0⟩
theorem YX:aj Tryz.prog 230 [au ([115,104,111,112,46,99,111,109]:List UInt8),au ([46]:List UInt8)] (au ([115,104,111,112,46,99,111,109]:List UInt8)):=by
 have c1:=lg (l:=([115,104,111,112,46,99,111,109]:List UInt8)) (m:=([46]:List UInt8))
 rw [show pre ([115,104,111,112,46,99,111,109]:List UInt8) ([46]:List UInt8)=false by decide +kernel] at c1
 refine aX af Tryz.func230 rfl Tryz.ntmps230 Tryz.results230 rfl fun N=>?_
 repeat' (first|refine zV ?_|(refine isR ?_;refine zk c1 ?_)|refine zW ?_|exact ai)
 all_goals rfl
theorem trim_c:aj Tryz.prog 177 [au ([115,104,111,112,46,99,111,109]:List UInt8),au ([46]:List UInt8)] (au ([115,104,111,112,46,99,111,109]:List UInt8)):=by
 have c1:=YX
 refine aX af Tryz.func177 rfl Tryz.ntmps177 Tryz.results177 rfl fun N=>?_
 repeat' (first|refine zV ?_|(refine isR ?_;refine zk c1 ?_)|refine zW ?_|exact ai)
 all_goals rfl
theorem XP:aK Tryz.prog 134 [.loc 0 0 0,a1.v] [rM [] false false] (.tup []) [some (rM ([115,104,111,112,46,99,111,109]:List UInt8) false true)]:=by
 have c1:=trim_c
 have c2:=fold_at (l:=([115,104,111,112,46,99,111,109]:List UInt8)) (a:=([115,104,111,112,46,99,111,109]:List UInt8)) (by decide +kernel)
 refine bL af Tryz.func134 rfl Tryz.ntmps134 Tryz.results134 rfl rfl rfl rfl fun N pl=>?_
 repeat' (first|refine zV ?_|(refine isR ?_;first|refine zk c1 ?_|refine zk c2 ?_)|refine zW ?_|refine aA [0] ?_ ?_|(refine zs ?_ ?_<;>intro hc)|exact ai)
 all_goals first|rfl|exact .on (.ren rfl) .nil|(exfalso;simp_all;done)
theorem YK:aK Tryz.prog 134 [.loc 0 0 0,a2.v] [rM ([115,104,111,112,46,99,111,109]:List UInt8) false true] (.tup []) [some (rM ([115,104,111,112,46,99,111,109]:List UInt8) true true)]:=by
 refine bL af Tryz.func134 rfl Tryz.ntmps134 Tryz.results134 rfl rfl rfl rfl fun N pl=>?_
 repeat' (first|refine zW ?_|refine aA [0] ?_ ?_|(refine zs ?_ ?_<;>intro hc)|exact ai)
 all_goals first|rfl|exact .on (.ren rfl) .nil|(exfalso;simp_all;done)
theorem hS:fT.bA S0=0:=by kernel_rfl
theorem KC:aR Tryz.prog bG 135 [.loc 0 0 0,.fro (S0.map aG.v)] [rM ([115,104,111,112,46,99,111,109]:List UInt8) true true] (.int .i64 0) [some (rM ([115,104,111,112,46,99,111,109]:List UInt8) true true)]:=by
 have c1:=Rdy.vJ (l:=([115,104,111,112,46,99,111,109]:List UInt8))
 rw [show Rdy.cu ([115,104,111,112,46,99,111,109]:List UInt8)=true by kernel_rfl] at c1
 have c2:=aam.Fe (fT.sH hS).1 ((fT.qL ([115,104,111,112,46,99,111,109]:List UInt8)).1 (by kernel_rfl))
 rw [show fT.xV S0 ([115,104,111,112,46,99,111,109]:List UInt8)=([99,111,109]:List UInt8) by kernel_rfl] at c2
 have c3:=Ao (l:=([119,119,119,46,115,104,111,112,46,99,111,109]:List UInt8)) (m:=([115,104,111,112,46,99,111,109]:List UInt8)) (by decide) (by decide)
 rw [show kK ([119,119,119,46,115,104,111,112,46,99,111,109]:List UInt8) ([115,104,111,112,46,99,111,109]:List UInt8)=true by kernel_rfl] at c3
 have n0:¬ (([99,111,109]:List UInt8):List UInt8)=([115,104,111,112,46,99,111,109]:List UInt8):=by decide
 refine bJ af Tryz.func135 rfl Tryz.ntmps135 Tryz.results135 rfl rfl rfl rfl fun N pl=>?_
 repeat' (first|refine zV ?_|(refine isR ?_;first|refine zk c1 ?_|refine zk c2 ?_|refine zk c3 ?_)|refine zW ?_|refine aA [0] ?_ ?_|exact ai)
 all_goals first|rfl|exact .on (.ren rfl) .nil
theorem Un:aK Tryz.prog 136 [.loc 0 0 0] [rM ([115,104,111,112,46,99,111,109]:List UInt8) true true] (.bool false) [some (rM ([115,104,111,112,46,99,111,109]:List UInt8) true true)]:=by
 have c1:=fold_at (l:=([105,100]:List UInt8)) (a:=([105,100]:List UInt8)) (by decide +kernel)
 have c2:=fZ (l:=([105,100]:List UInt8)) (m:=([95,95,115,101,99,117,114,101,45]:List UInt8))
 rw [show pre ([105,100]:List UInt8) ([95,95,115,101,99,117,114,101,45]:List UInt8)=false by decide +kernel] at c2
 have c3:=fZ (l:=([105,100]:List UInt8)) (m:=([95,95,104,111,115,116,45]:List UInt8))
 rw [show pre ([105,100]:List UInt8) ([95,95,104,111,115,116,45]:List UInt8)=false by decide +kernel] at c3
 refine bL af Tryz.func136 rfl Tryz.ntmps136 Tryz.results136 rfl rfl rfl rfl fun N pl=>?_
 repeat' (first|refine zt ?_|(refine isR ?_;first|refine zo ?_|refine zk c1 ?_|refine zk c2 ?_|refine zk c3 ?_)|refine aA [0] ?_ ?_|exact ai)
 all_goals first|rfl|exact .on (.ren rfl) .nil|(exfalso;simp_all;done)
theorem Rl:aj Tryz.prog 133 [au ([47,99,97,114,116,47,97,100,100]:List UInt8)] (au ([47,99,97,114,116]:List UInt8)):=fun g N w vs hG hN hlen hv=>by
 obtain ⟨vs⟩:=vs
 match vs,hlen with
 | [x0],_ =>
  obtain ⟨rfl,h0⟩:=iG (hv 0 _ x0 rfl rfl)
  refine (rY.zf (str ([47,99,97,114,116,47,97,100,100]:List UInt8)) w (by rw [aM];decide)).mono fun e w' ⟨he,hbel⟩=>⟨_,he,hbel ▸ Below.refl _ _,?_⟩
  rw [bf,show rY.dflt ([47,99,97,114,116,47,97,100,100]:List UInt8)=([47,99,97,114,116]:List UInt8) by kernel_rfl]
  exact .str (by rw [aM];decide)
theorem ac9:av Tryz.prog bG 128 [.fp [.fro (S0.map aG.v)] 0] (.int .i64 0):=by
 have c1:=Ab.lq (L:=S0)
 rw [hS] at c1
 refine mV af Tryz.func128 rfl Tryz.ntmps128 Tryz.results128 rfl fun N=>?_
 repeat' (first|refine zV ?_|(refine isR ?_;refine zk c1 ?_)|refine zW ?_|exact ai)
 all_goals rfl
theorem acW:aj Tryz.prog 129 [.fp r0.v.cells 0] (.int .i64 0):=by
 have c1:=aac
 refine aW af Tryz.func129 rfl Tryz.ntmps129 Tryz.results129 rfl fun N=>?_
 repeat' (first|refine zV ?_|(refine isR ?_;refine zk c1 ?_)|refine zW ?_|exact ai)
 all_goals rfl
theorem ac7:aj Tryz.prog 131 [.fp fX.v.cells 0,.fp [.int .i64 1000] 0] (.int .i64 0):=by
 have c1:=xX (f:=fX) (now:=1000)
 rw [show fH fX 1000=0 by kernel_rfl] at c1
 refine aX af Tryz.func131 rfl Tryz.ntmps131 Tryz.results131 rfl fun N=>?_
 repeat' (first|refine zV ?_|(refine isR ?_;refine zk c1 ?_)|refine zW ?_|exact ai)
 all_goals rfl
theorem aaQ:av Tryz.prog bG 107 [.fro (S0.map aG.v),r0.v,fX.v,.int .i64 1000] (.tup [k0.v,.int .i64 0]):=by
 have b1:=ac9
 have b2:=acW
 have b3:=ac7
 have c0:=Rl
 have c1:=XP
 have c2:=YK
 have c3:=KC
 have c4:=Un
 have hl:(r0.attrs.map Attr.v).length=2:=rfl
 refine JN af Tryz.func107 rfl Tryz.ntmps107 Tryz.results107 rfl fun N=>?_
 repeat' (first|with_reducible refine aQ ?_|with_reducible refine aO 4 ?_|refine zt ?_|(refine isR ?_;first|refine dP [44] af rfl ?_|refine zn ?_|refine ak (b1 _) ?_|refine ak (b1) ?_|refine ak (b2 _) ?_|refine ak (b2) ?_|refine ak (b3 _) ?_|refine ak (b3) ?_|refine zk c0 ?_|refine x_m [1] [] (c1 _) ?_|refine x_m [1] [] (c1) ?_|refine x_m [1] [] (c2 _) ?_|refine x_m [1] [] (c2) ?_|refine x_m [1] [] (c3 _) ?_|refine x_m [1] [] (c3) ?_|refine x_m [1] [] (c4 _) ?_|refine x_m [1] [] (c4) ?_|refine zA ?_|refine zL ?_|refine zc1 ?_|refine zc6 ?_|refine zI ?_)|refine zr ?_|exact ai)
 all_goals first|rfl|(exfalso;omega)
theorem hP:gB pR=0:=by kernel_rfl
theorem hR:jP pR 1000 UA=0:=by kernel_rfl
theorem abd:av Tryz.prog bG 108 [kC pR,gK 1000 PA UA,k0.v] (.tup [k1.v,.int .i64 0]):=by
 have h:=Ky (p:=pR) (g:=1000) (P:=PA) (U:=UA) (c:=k0) (gG hP) hR rfl (by decide) (by kernel_rfl)
 rw [show gV pR k0=k1 by kernel_rfl] at h
 exact h
theorem acy:aj Tryz.prog 109 [dI [] 0,k1.v,.int .i64 1000] (.tup [dI [k1] 1,.int .i64 0]):=by
 have h:=Nr (L:=[]) (nx:=0) (c:=k1) (now:=1000) (by decide +kernel)
 rw [show rZ [] 0 k1 1000=([k1],1) by rfl] at h
 exact h
theorem hD:∀ c∈[k1],c.domain.length≤4398046511104:=fun c hc=>by
 obtain rfl:=List.mem_singleton.1 hc
 decide
theorem hM:∀ c∈[k1],isJ c.created=true:=fun c hc=>by
 obtain rfl:=List.mem_singleton.1 hc
 rfl
theorem acF:aR Tryz.prog bG 82 [.loc 0 0 0,evV 1 1000 tX fX] [rG S0 [] 0 pR 1000 PA UA 1000 []] (.int .i64 0) [some (rG S0 [k1] 1 pR 1000 PA UA 1000 [])]:=by
 have c1:=aay
 have c2:=aaQ
 have c3:=abd
 have c4:=acy
 have c5:=lS (S:=S0) (L:=[k1]) (nx:=1) (p:=pR) (g:=1000) (P:=PA) (U:=UA) (t:=1000) (gG hP) (by decide) hD hM
 rw [show dF pR PA UA 1000 [k1]=[k1] by kernel_rfl] at c5
 refine bJ af Tryz.func82 rfl Tryz.ntmps82 Tryz.results82 rfl rfl rfl rfl fun N pl=>?_
 repeat' (first|refine zV ?_|(refine isR ?_;first|refine zk c1 ?_|refine zk c2 ?_|refine zk c3 ?_|refine zk c4 ?_|refine zk c5 ?_)|refine zW ?_|refine aA [0] ?_ ?_|exact ai)
 all_goals first|rfl|exact .on (.ren rfl) .nil|(exfalso;omega)
theorem ack:aR Tryz.prog bG 45 [.loc 0 0 0,evV 1 1000 tX fX] [rG S0 [] 0 pR 1000 PA UA 1000 []] (.int .i64 0) [some (rG S0 [k1] 1 pR 1000 PA UA 1000 [])]:=by
 have c1:=acF
 have c5:=lS (S:=S0) (L:=[]) (nx:=0) (p:=pR) (g:=1000) (P:=PA) (U:=UA) (t:=1000) (gG hP) (by decide) (fun c hc=>by cases hc) (fun c hc=>by cases hc)
 rw [show dF pR PA UA 1000 []=[] by kernel_rfl] at c5
 refine bJ af Tryz.func45 rfl Tryz.ntmps45 Tryz.results45 rfl rfl rfl rfl fun N pl=>?_
 repeat' (first|refine zV ?_|(refine isR ?_;first|refine zk c5 ?_|refine eG [0] [] (c1 _) ?_|refine eG [0] [] (c1) ?_)|refine zW ?_|refine aA [0] ?_ ?_|exact ai)
 all_goals first|rfl|exact .on (.ren rfl) .nil
end ab7
namespace Bld
open Go.RowKit Mem Abs
variable {p q:List UInt8}
theorem Vw (y:Value) (w:World):(callFunc 113 #[y]).run Tryz.prog w = .ok (.value y) w:=by
 rw [run_callFunc_extern Tryz.func113 (by kernel_rfl) (by kernel_rfl) (by kernel_rfl) (e:=Extern.AbiNoEscape.same) (by kernel_rfl)]
 rfl
abbrev fresh:Blk:=.els 100 2 [.agg [.nilp,.nils]]
abbrev used (n m:Nat) (p:List UInt8):Blk:=.els 100 2 [.agg [.loc n 0 0,.own m 0 p.length]]
abbrev qP (p:List UInt8):Blk:=.els 5 1 (p.map bB)
theorem R6:aK Tryz.prog 86 [.loc 0 0 0] [fresh] (.tup []) [some (.els 100 2 [.agg [.loc 0 0 0,.nils]])]:=by
 refine bL af Tryz.func86 rfl Tryz.ntmps86 Tryz.results86 rfl rfl rfl rfl fun N pl=>?_
 repeat' (first|refine zt ?_|(refine isR ?_;first|refine zo ?_|refine Zj ?_|refine aaW Vw ?_|refine acA af ?_|refine YS af ?_)|refine aA [0] ?_ ?_|exact ai)
 ·rfl
 ·exact .on (.ren rfl) .nil
theorem UR:aK Tryz.prog 86 [.loc 0 0 0] [used 0 1 p,qP p] (.tup []) [some (used 0 1 p),some (qP p)]:=by
 refine bL af Tryz.func86 rfl Tryz.ntmps86 Tryz.results86 rfl rfl rfl rfl fun N pl=>?_
 repeat' (first|refine zt ?_|(refine isR ?_;first|refine zo ?_|refine WQ ?_|refine YP ?_)|refine aA [0,1] ?_ ?_|exact ai)
 ·rfl
 ·exact .on (.ren rfl) (.on (.same (aT fun _=>rfl)) .nil)
theorem Uk (hq:q.length≤140737488355328):aK Tryz.prog 49 [.loc 0 0 0,au q] [fresh] (.tup [.int .i64 q.length,.nili]) [some (used 0 1 q),some (qP q)]:=by
 refine bL af Tryz.func49 rfl Tryz.ntmps49 Tryz.results49 rfl rfl rfl rfl fun N pl=>?_
 repeat' (first|refine zV ?_|(refine isR ?_;first|refine x_m [0] [] (R6 _) ?_|refine x_m [0] [] (R6) ?_|refine Zf af ?_)|refine zW ?_|refine aA [0,1] ?_ ?_|exact ai)
 ·rfl
 ·exact .on (.ren rfl) (.on (.same (aT fun _=>rfl)) .nil)
theorem yP (hq:p.length+q.length≤140737488355328):aK Tryz.prog 49 [.loc 0 0 0,au q] [used 0 1 p,qP p] (.tup [.int .i64 q.length,.nili]) [some (used 0 2 (p++q)),none,some (qP (p++q))]:=by
 refine bL af Tryz.func49 rfl Tryz.ntmps49 Tryz.results49 rfl rfl rfl rfl fun N pl=>?_
 repeat' (first|refine zV ?_|(refine isR ?_;first|refine x_m [0,1] [] (UR _) ?_|refine x_m [0,1] [] (UR) ?_|refine aa4 af ?_)|refine zW ?_|refine aA [0,1,2] ?_ ?_|exact ai)
 ·rfl
 ·exact .on (.ren rfl) (.no (.on (.same (aT fun _=>rfl)) .nil))
theorem Yh:aK Tryz.prog 51 [.loc 0 0 0] [fresh] (au []) [some fresh]:=by
 refine bL af Tryz.func51 rfl Tryz.ntmps51 Tryz.results51 rfl rfl rfl rfl fun N pl=>?_
 repeat' (first|refine zV ?_|(refine isR ?_;first|refine SH ?_|refine WY ?_)|refine zW ?_|refine aA [0] ?_ ?_|exact ai)
 ·rfl
 ·exact .on (.ren rfl) .nil
theorem Pw (hp:p≠[]):aK Tryz.prog 51 [.loc 0 0 0] [used 0 1 p,qP p] (au p) [some (used 0 1 p),none]:=by
 refine bL af Tryz.func51 rfl Tryz.ntmps51 Tryz.results51 rfl rfl rfl rfl fun N pl=>?_
 repeat' (first|refine zV ?_|(refine isR ?_;first|refine Yv ?_|refine abw ?_)|refine zW ?_|refine aA [0,1] ?_ ?_|exact ai)
 ·rfl
 ·exact .on (.ren rfl) (.no .nil)
end Bld
namespace VJ
open Go.RowKit Mem Abs bP cZ eB nU oL SortM OZ zP nT oC Bld
variable {L:List ah}
theorem WC {k:Nat} {c:ah} (h:L[k]? = some c):eO (L.take (k+1))=if k=0 then ckT c else (eO (L.take k)++[59,32])++ckT c:=by
 obtain ⟨hk,rfl⟩:=List.getElem?_eq_some_iff.1 h
 rw [List.take_succ_eq_append_getElem hk,CB]
 by_cases h0:k=0
 ·subst h0;simp
 ·rw [if_neg h0,if_neg (by intro e;have:=congrArg List.length e;rw [List.length_take,List.length_nil] at this;omega)]
theorem Mg (h:NS L) (k:Nat):(eO (L.take k)).length≤2199026401280:=by
 have h1:=FI (L:=L.take k) fun c hc=>h.2 c (List.mem_of_mem_take hc)
 have h2:(L.take k).length≤1048576:=by have:=h.1;simp;omega
 have h3:(L.take k).length*2097155≤1048576*2097155:=Nat.mul_le_mul_right _ h2
 omega
def stW (L:List ah):Nat→S
 | 0=>⟨[(3,.loc 0 0 0),(6,.fro (L.map ah.v)),(7,.int .i64 (L.map ah.v).length),(8,.int .i64 ((0:Nat):Int))],[(0,some fresh)],1,25⟩
 | k+1=>⟨[(3,.loc 0 0 0),(6,.fro (L.map ah.v)),(7,.int .i64 (L.map ah.v).length),(8,.int .i64 ((k+1:Nat):Int))],[(0,some (used 0 1 (eO (L.take (k+1))))),(1,some (qP (eO (L.take (k+1)))))],2,25⟩
theorem OV (hs:NS L):aj Tryz.prog 111 [.fro (L.map ah.v)] (au (eO L)):=by
 have hx:((L.map ah.v).length:Int)=(L.length:Int):=by simp
 have hsz:=hs.1
 have hsm:=Mg hs
 have hall:=hs.2
 have hend:eO (L.take L.length)=eO L:=by rw [List.take_length]
 have hne:∀ k,k<L.length→eO (L.take (k+1))≠[]:=fun k hk=>VH (by intro e;have:=congrArg List.length e;rw [List.length_take,List.length_nil] at this;omega)
 have hon:=fun k c=>WC (L:=L) (k:=k) (c:=c)
 have hz:eO (L.take 0)=[]:=by simp [eO]
 rw [← hend]
 have hst:∀ k,stW L (k+1)=⟨[(3,.loc 0 0 0),(6,.fro (L.map ah.v)),(7,.int .i64 (L.map ah.v).length),(8,.int .i64 ((k+1:Nat):Int))],[(0,some (used 0 1 (eO (L.take (k+1))))),(1,some (qP (eO (L.take (k+1)))))],2,25⟩:=fun _=>rfl
 have hst0:stW L 0=⟨[(3,.loc 0 0 0),(6,.fro (L.map ah.v)),(7,.int .i64 (L.map ah.v).length),(8,.int .i64 ((0:Nat):Int))],[(0,some fresh)],1,25⟩:=rfl
 clear hs
 generalize hacc:(fun k=>eO (L.take k))=acc at *
 have ha:∀ k,eO (L.take k)=acc k:=fun k=>by rw [← hacc]
 simp only [ha] at *
 generalize stW L=st at *
 refine aW af Tryz.func111 rfl Tryz.ntmps111 Tryz.results111 rfl fun N=>?_
 repeat' (first|refine zt ?_|(refine isR ?_;first|refine dP [3] af rfl ?_|refine zn ?_|refine zA ?_|refine zL ?_|refine zc1 ?_|refine zc3 ?_|refine zI ?_)|refine zr ?_|exact ai)
 refine fI st (fun k=>k≤L.length) L.length 0 (by rw [hst0];exact (by exact ai)) (Nat.zero_le _) ?_
 intro k hk
 rcases k with _|k
 ·rw [hst0,hst 0]
  by_cases hk2:0<L.length
  ·have e1:(L.map ah.v)[0]? = some (L[0]).v:=by simp [hk2]
   have e2:L[0]? = some L[0]:=by simp [hk2]
   have e3:=hon 0 L[0] e2
   rw [if_pos rfl] at e3
   have s4:=hall L[0] (List.getElem_mem hk2)
   rw [e3]
   generalize L[0]=c at *
   obtain ⟨c1,c2,c3,c4,c5,c6,c7,c8,c9,c10,c11,c12,c13⟩:=c
   unfold ckT
   dsimp only at *
   have w0:=Uk (q:=(c1++[61])++c2) (by simp;omega)
   repeat' (first|refine zV ?_|(refine isR ?_;first|refine x_m [0] [2] (w0 _) ?_|refine x_m [0] [2] (w0) ?_)|refine zW ?_|exact ai)
   refine ⟨by omega,hk2,?_⟩
   exact (by exact x_len [0,2])
  ·have hl:L.length=0:=by omega
   rw [hl,hz]
   have w3:=Yh
   repeat' (first|refine zV ?_|(refine isR ?_;first|refine x_m [0] [] (w3 _) ?_|refine x_m [0] [] (w3) ?_)|refine zW ?_|exact ai)
   rfl
 ·rw [hst k,hst (k+1)]
  have hlk:=hsm (k+1)
  by_cases hk2:k+1<L.length
  ·have e1:(L.map ah.v)[k+1]? = some (L[k+1]).v:=by simp [hk2]
   have e2:L[k+1]? = some L[k+1]:=by simp [hk2]
   have e3:=hon (k+1) L[k+1] e2
   rw [if_neg (by omega)] at e3
   have s4:=hall L[k+1] (List.getElem_mem hk2)
   rw [e3]
   generalize L[k+1]=c at *
   generalize acc (k+1)=p at *
   obtain ⟨c1,c2,c3,c4,c5,c6,c7,c8,c9,c10,c11,c12,c13⟩:=c
   unfold ckT
   dsimp only at *
   have w1:=yP (p:=p) (q:=[59,32]) (by simp;omega)
   have w2:=yP (p:=p++[59,32]) (q:=(c1++[61])++c2) (by simp;omega)
   repeat' (first|refine zV ?_|(refine isR ?_;first|refine x_m [0,1] [3] (w1 _) ?_|refine x_m [0,1] [3] (w1) ?_|refine x_m [0,3] [4] (w2 _) ?_|refine x_m [0,3] [4] (w2) ?_)|refine zW ?_|exact ai)
   refine ⟨by omega,hk2,?_⟩
   exact (by exact x_len [0,4])
  ·have hl:L.length=k+1:=by omega
   have hn:=hne k (by omega)
   rw [hl]
   generalize acc (k+1)=p at *
   have w4:=Pw (p:=p) hn
   repeat' (first|refine zV ?_|(refine isR ?_;first|refine x_m [0,1] [] (w4 _) ?_|refine x_m [0,1] [] (w4) ?_)|refine zW ?_|exact ai)
   rfl
end VJ
end Go.Proofs.YtlfdjpgghiemfaaGreatDoor
