/- Texts of the proof, joined: GovC, Bld, LineC. -/
import Derived.Test.YtlfdjpgghiemfaaGreatDoorH35
set_option maxHeartbeats 4000000
set_option maxRecDepth 100000
namespace Go.Proofs.YtlfdjpgghiemfaaGreatDoor
namespace ady
open Go.RowKit Mem Abs eO cu gV dV Rdy Scan bH bX dn fI gF iG iP iQ kY nu oZ Kc Oq uR yh yO Aq RjP Aw Cy EW nA mZ
open lG (gD gu)
variable {a l s:List UInt8}
abbrev tX:List UInt8:=([105,100,61,55,59,32,100,111,109,97,105,110,61,115,104,111,112,46,99,111,109,59,32,115,101,99,117,114,101]:List UInt8)
abbrev a1:Attr:=⟨([100,111,109,97,105,110]:List UInt8),([115,104,111,112,46,99,111,109]:List UInt8)⟩
abbrev a2:Attr:=⟨([115,101,99,117,114,101]:List UInt8),[]⟩
abbrev r0:Raw:=⟨([105,100]:List UInt8),([55]:List UInt8),[a1,a2]⟩
abbrev fX:From:=⟨([119,119,119,46,115,104,111,112,46,99,111,109]:List UInt8),([47,99,97,114,116,47,97,100,100]:List UInt8),true,false,false⟩
abbrev S0:List aG:=[⟨1,([99,111,109]:List UInt8)⟩,⟨1,([99,111,46,117,107]:List UInt8)⟩,⟨2,([99,107]:List UInt8)⟩,⟨3,([119,119,119,46,99,107]:List UInt8)⟩]
def acU:Nat→Int
 | 0=>100
 | 4=>50
 | _=>60
def pR:jb:=⟨[⟨2,([97,100,95]:List UInt8),4,9⟩,⟨4,([97,100,115,46,99,111,109]:List UInt8),2,3⟩,⟨1,([105,100]:List UInt8),0,0⟩],1,acU⟩
def PA (i:Nat):Bool:=i==0||i==3
abbrev UA:List Int:=[2,3,4,9]
theorem pQ {b:List UInt8} {q:Bool} (h:iy 61 l=(a,b,q)):aj Tryz.prog 42 [au l,bB 61] (.tup [au a,au b,.bool q]):=by
 have:=KS (c:=61) (l:=l)
 rw [h] at this
 exact this
theorem pY (h:trim l=a):aj Tryz.prog 127 [au l] (au a):=h ▸ qX
theorem fold_at (h:fold l=a):aj Tryz.prog 120 [au l] (au a):=h ▸ qh
theorem Uf (h:mQ l=true):aj Tryz.prog 126 [au l] (.bool true):=h ▸ Fy
theorem VX {c:UInt8} (h:l.contains c=false):aj Tryz.prog 173 [au l,au [c]] (.bool false):=h ▸ fD
abbrev pX:List (List UInt8):=[([105,100,61,55]:List UInt8),([32,100,111,109,97,105,110,61,115,104,111,112,46,99,111,109]:List UInt8),([32,115,101,99,117,114,101]:List UInt8)]
theorem abX:aj Tryz.prog 106 [au tX] (.tup [r0.v,.int .i64 0]):=by
 have c1:=Uf (l:=tX) (by decide +kernel)
 have c2:=uq (u:=59) (l:=tX) (by decide)
 rw [show split 59 tX=pX by decide +kernel] at c2
 have d1:=pQ (l:=([105,100,61,55]:List UInt8)) (a:=([105,100]:List UInt8)) (b:=([55]:List UInt8)) (q:=true) (by decide +kernel)
 have d2:=pQ (l:=([32,100,111,109,97,105,110,61,115,104,111,112,46,99,111,109]:List UInt8)) (a:=([32,100,111,109,97,105,110]:List UInt8)) (b:=([115,104,111,112,46,99,111,109]:List UInt8)) (q:=true) (by decide +kernel)
 have d3:=pQ (l:=([32,115,101,99,117,114,101]:List UInt8)) (a:=([32,115,101,99,117,114,101]:List UInt8)) (b:=[]) (q:=false) (by decide +kernel)
 have e1:=pY (l:=([105,100]:List UInt8)) (a:=([105,100]:List UInt8)) (by decide +kernel)
 have e2:=pY (l:=([55]:List UInt8)) (a:=([55]:List UInt8)) (by decide +kernel)
 have e3:=pY (l:=([32,100,111,109,97,105,110]:List UInt8)) (a:=([100,111,109,97,105,110]:List UInt8)) (by decide +kernel)
 have e4:=pY (l:=([115,104,111,112,46,99,111,109]:List UInt8)) (a:=([115,104,111,112,46,99,111,109]:List UInt8)) (by decide +kernel)
 have e5:=pY (l:=([32,115,101,99,117,114,101]:List UInt8)) (a:=([115,101,99,117,114,101]:List UInt8)) (by decide +kernel)
 have e6:=pY (l:=[]) (a:=[]) (by decide +kernel)
 have g1:=fold_at (l:=([100,111,109,97,105,110]:List UInt8)) (a:=([100,111,109,97,105,110]:List UInt8)) (by decide +kernel)
 have g2:=fold_at (l:=([115,101,99,117,114,101]:List UInt8)) (a:=([115,101,99,117,114,101]:List UInt8)) (by decide +kernel)
 have hl:tX.length=29:=rfl
 have hl2:pX.length=3:=rfl
 have hl3:((List.drop ((1:Int)).toNat pX).map au).length=2:=rfl
 have h1:([au ([105,100,61,55]:List UInt8),au ([32,100,111,109,97,105,110,61,115,104,111,112,46,99,111,109]:List UInt8),au ([32,115,101,99,117,114,101]:List UInt8)]:List Abs.V)[(0:Int).toNat]? = some (au ([105,100,61,55]:List UInt8)):=rfl
 have n0:¬ (([105,100]:List UInt8):List UInt8)=[]:=by decide
 have n1:(([100,111,109,97,105,110]:List UInt8):List UInt8)≠[]:=by decide
 have n2:(([115,101,99,117,114,101]:List UInt8):List UInt8)≠[]:=by decide
 have hl4:([a1,a2]:List Attr).length=2:=rfl
 have hl6:([]:List Attr).length=0:=rfl
 have hl7:([a1]:List Attr).length=1:=rfl
 have hl5:(([a1]:List Attr)++[a2]).length=2:=rfl
 refine aU af Tryz.func106 rfl Tryz.ntmps106 Tryz.results106 rfl fun N=>?_
 repeat' (first|refine zt ?_|(refine isR ?_;first|refine zo ?_|refine zk c1 ?_|refine zk c2 ?_|refine zk d1 ?_|refine zk e1 ?_|refine zk e2 ?_|refine UQ (L:=pX) (f:=au) af ?_|refine zX ?_)|refine zr ?_|exact ah)
 all_goals first|(exfalso;omega)|skip
 refine jS 0 2 60 2 rfl rfl (by decide) rfl ?_
 repeat' (first|with_reducible refine aP ?_|with_reducible refine aO 3 ?_|refine zt ?_|(refine isR ?_;first|refine zo ?_|refine zk d2 ?_|refine zk d3 ?_|refine zk e3 ?_|refine zk e4 ?_|refine zk e5 ?_|refine zk e6 ?_|refine zk g1 ?_|refine zk g2 ?_|refine kL Attr.v (L:=[]) (a1:=a1) af ?_ (hby:=by show _*(_:Nat)≤_;simp)|refine kL Attr.v (L:=[a1]) (a1:=a2) af ?_ (hby:=by show _*(_:Nat)≤_;simp)|refine zX ?_)|refine zr ?_|exact ah)
 all_goals first|rfl|(exfalso;omega)
theorem oN (h1:trim s=s) (h2:mQ s=true) (h3:s.contains 59=false):aj Tryz.prog 171 [au s] (.bool true):=by
 have c1:=pY h1
 have c2:=Uf h2
 have c3:=VX h3
 refine aU af Tryz.func171 rfl Tryz.ntmps171 Tryz.results171 rfl fun N=>?_
 repeat' (first|refine zt ?_|(refine isR ?_;first|refine zo ?_|refine zk c1 ?_|refine zk c2 ?_|refine zk c3 ?_|refine zc5 ?_)|refine zr ?_|exact ah)
 all_goals first|rfl|(exfalso;simp_all;done)
theorem Dh (h0:s≠[]) (hp:aj Tryz.prog 171 [au s] (.bool true)) (h3:s.contains 61=false):aj Tryz.prog 170 [au s] (.bool true):=by
 have c3:=VX h3
 refine aU af Tryz.func170 rfl Tryz.ntmps170 Tryz.results170 rfl fun N=>?_
 repeat' (first|refine zt ?_|(refine isR ?_;first|refine zo ?_|refine zk hp ?_|refine zk c3 ?_|refine zc6 ?_)|refine zr ?_|exact ah)
 all_goals first|rfl|(exfalso;simp_all;done)
theorem TA {a:Attr} (h1:aj Tryz.prog 170 [au a.name] (.bool true)) (h2:fold a.name=a.name) (h3:aj Tryz.prog 171 [au a.value] (.bool true)):aj Tryz.prog 169 [a.v] (.bool false):=by
 have c1:=fold_at h2
 refine aU af Tryz.func169 rfl Tryz.ntmps169 Tryz.results169 rfl fun N=>?_
 repeat' (first|refine zt ?_|(refine isR ?_;first|refine zo ?_|refine zk h1 ?_|refine zk c1 ?_|refine zk h3 ?_|refine zc6 ?_)|refine zr ?_|exact ah)
 all_goals first|rfl|(exfalso;simp_all;done)
theorem pl1:aj Tryz.prog 171 [au ([105,100]:List UInt8)] (.bool true):=oN (by decide +kernel) (by decide +kernel) (by decide +kernel)
theorem pl2:aj Tryz.prog 171 [au ([55]:List UInt8)] (.bool true):=oN (by decide +kernel) (by decide +kernel) (by decide +kernel)
theorem pl3:aj Tryz.prog 171 [au ([100,111,109,97,105,110]:List UInt8)] (.bool true):=oN (by decide +kernel) (by decide +kernel) (by decide +kernel)
theorem pl4:aj Tryz.prog 171 [au ([115,104,111,112,46,99,111,109]:List UInt8)] (.bool true):=oN (by decide +kernel) (by decide +kernel) (by decide +kernel)
theorem pl5:aj Tryz.prog 171 [au ([115,101,99,117,114,101]:List UInt8)] (.bool true):=oN (by decide +kernel) (by decide +kernel) (by decide +kernel)
theorem pl6:aj Tryz.prog 171 [au []] (.bool true):=oN (by decide +kernel) (by decide +kernel) (by decide +kernel)
abbrev fnH:Abs.V:=.fn (.func 169) [] []
theorem adR:aj Tryz.prog 222 [.fro [a1.v,a2.v],fnH] (.int .i64 (-1)):=by
 have b1:=TA (a:=a1) (Dh (by decide) pl3 (by decide +kernel)) (by decide +kernel) pl4
 have b2:=TA (a:=a2) (Dh (by decide) pl5 (by decide +kernel)) (by decide +kernel) pl6
 have hl:([a1.v,a2.v]:List Abs.V).length=2:=rfl
 refine aW af Tryz.func222 rfl Tryz.ntmps222 Tryz.results222 rfl fun N=>?_
 repeat' (first|with_reducible refine aP ?_|with_reducible refine aO 3 ?_|refine zt ?_|(refine isR ?_;first|refine zo ?_|refine ak (b1 _) ?_|refine ak (b1) ?_|refine ak (b2 _) ?_|refine ak (b2) ?_|refine zX ?_)|refine zr ?_|exact ah)
 all_goals first|rfl|(exfalso;omega)
theorem adQ:aj Tryz.prog 172 [.fro [a1.v,a2.v],fnH] (.bool false):=by
 have c1:=adR
 refine aW af Tryz.func172 rfl Tryz.ntmps172 Tryz.results172 rfl fun N=>?_
 repeat' (first|refine zt ?_|(refine isR ?_;first|refine zo ?_|refine zk c1 ?_|refine zc4 ?_)|refine zr ?_|exact ah)
 all_goals first|rfl|(exfalso;omega)
theorem abK:aj Tryz.prog 130 [r0.v] (.int .i64 0):=by
 have c1:=Dh (s:=([105,100]:List UInt8)) (by decide) pl1 (by decide +kernel)
 have c2:=pl2
 have c3:=adQ
 have hl:(r0.attrs.map Attr.v).length=2:=rfl
 refine aU af Tryz.func130 rfl Tryz.ntmps130 Tryz.results130 rfl fun N=>?_
 repeat' (first|refine zt ?_|(refine isR ?_;first|refine zo ?_|refine zk c1 ?_|refine zk c2 ?_|refine zk c3 ?_|refine zX ?_)|refine zr ?_|exact ah)
 all_goals first|rfl|(exfalso;omega)
abbrev TM:Nat:=181
abbrev mkC (d:List UInt8) (sec told:Bool):List Abs.V:=[au ([105,100]:List UInt8),au ([55]:List UInt8),au d,au ([47,99,97,114,116]:List UInt8),.bool false,.bool sec,.bool false,.bool false,.int .i64 0,.int .i64 253402300799,.int .i64 1000,.int .i64 1000,.int .i64 0,au ([119,119,119,46,115,104,111,112,46,99,111,109]:List UInt8),au ([47,99,97,114,116,47,97,100,100]:List UInt8),.bool true,.bool false,.bool false,.int .i64 1000,.bool false,.bool told,.bool false]
abbrev rM (d:List UInt8) (sec told:Bool):Blk:=.els TM 22 [.agg (mkC d sec told)]
abbrev k0:ai:=⟨([105,100]:List UInt8),([55]:List UInt8),([115,104,111,112,46,99,111,109]:List UInt8),([47,99,97,114,116]:List UInt8),false,true,false,false,0,253402300799,1000,1000,0⟩
abbrev k1:ai:=⟨([105,100]:List UInt8),([55]:List UInt8),([115,104,111,112,46,99,111,109]:List UInt8),([47,99,97,114,116]:List UInt8),false,true,false,false,0,1100,1000,1000,0⟩
theorem Za:aj Tryz.prog 230 [au ([115,104,111,112,46,99,111,109]:List UInt8),au ([46]:List UInt8)] (au ([115,104,111,112,46,99,111,109]:List UInt8)):=by
 have c1:=lF (l:=([115,104,111,112,46,99,111,109]:List UInt8)) (m:=([46]:List UInt8))
 rw [show pre ([115,104,111,112,46,99,111,109]:List UInt8) ([46]:List UInt8)=false by decide +kernel] at c1
 refine aW af Tryz.func230 rfl Tryz.ntmps230 Tryz.results230 rfl fun N=>?_
 repeat' (first|refine zt ?_|(refine isR ?_;first|refine zo ?_|refine zk c1 ?_)|refine zr ?_|exact ah)
 all_goals rfl
theorem trim_c:aj Tryz.prog 177 [au ([115,104,111,112,46,99,111,109]:List UInt8),au ([46]:List UInt8)] (au ([115,104,111,112,46,99,111,109]:List UInt8)):=by
 have c1:=Za
 refine aW af Tryz.func177 rfl Tryz.ntmps177 Tryz.results177 rfl fun N=>?_
 repeat' (first|refine zt ?_|(refine isR ?_;first|refine zo ?_|refine zk c1 ?_)|refine zr ?_|exact ah)
 all_goals rfl
theorem ZN:aK Tryz.prog 134 [.loc 0 0 0,a1.v] [rM [] false false] (.tup []) [some (rM ([115,104,111,112,46,99,111,109]:List UInt8) false true)]:=by
 have c1:=trim_c
 have c2:=fold_at (l:=([115,104,111,112,46,99,111,109]:List UInt8)) (a:=([115,104,111,112,46,99,111,109]:List UInt8)) (by decide +kernel)
 refine bP af Tryz.func134 rfl Tryz.ntmps134 Tryz.results134 rfl rfl rfl rfl fun N pl=>?_
 repeat' (first|refine zt ?_|(refine isR ?_;first|refine zo ?_|refine zk c1 ?_|refine zk c2 ?_|refine zc5 ?_|(refine zs ?_ ?_<;>intro hc))|refine aA [0] ?_ ?_|exact ah)
 all_goals first|rfl|exact .on (.ren rfl) .nil|(exfalso;simp_all;done)
theorem XB:aK Tryz.prog 134 [.loc 0 0 0,a2.v] [rM ([115,104,111,112,46,99,111,109]:List UInt8) false true] (.tup []) [some (rM ([115,104,111,112,46,99,111,109]:List UInt8) true true)]:=by
 refine bP af Tryz.func134 rfl Tryz.ntmps134 Tryz.results134 rfl rfl rfl rfl fun N pl=>?_
 repeat' (first|refine zt ?_|(refine isR ?_;first|refine zo ?_|refine zc5 ?_|(refine zs5 ?_ ?_<;>intro hc))|refine aA [0] ?_ ?_|exact ah)
 all_goals first|rfl|exact .on (.ren rfl) .nil|(exfalso;simp_all;done)
theorem hS:fQ.bA S0=0:=by kernel_rfl
theorem Ju:aR Tryz.prog bI 135 [.loc 0 0 0,.fro (S0.map aG.v)] [rM ([115,104,111,112,46,99,111,109]:List UInt8) true true] (.int .i64 0) [some (rM ([115,104,111,112,46,99,111,109]:List UInt8) true true)]:=by
 have c1:=Rdy.vZ (l:=([115,104,111,112,46,99,111,109]:List UInt8))
 rw [show Rdy.bR ([115,104,111,112,46,99,111,109]:List UInt8)=true by kernel_rfl] at c1
 have c2:=aaU.Gr (fQ.sK hS).1 ((fQ.sU ([115,104,111,112,46,99,111,109]:List UInt8)).1 (by kernel_rfl))
 rw [show fQ.xG S0 ([115,104,111,112,46,99,111,109]:List UInt8)=([99,111,109]:List UInt8) by kernel_rfl] at c2
 have c3:=A9 (l:=([119,119,119,46,115,104,111,112,46,99,111,109]:List UInt8)) (m:=([115,104,111,112,46,99,111,109]:List UInt8)) (by decide) (by decide)
 rw [show iq ([119,119,119,46,115,104,111,112,46,99,111,109]:List UInt8) ([115,104,111,112,46,99,111,109]:List UInt8)=true by kernel_rfl] at c3
 have n0:¬ (([99,111,109]:List UInt8):List UInt8)=([115,104,111,112,46,99,111,109]:List UInt8):=by decide
 refine bL af Tryz.func135 rfl Tryz.ntmps135 Tryz.results135 rfl rfl rfl rfl fun N pl=>?_
 repeat' (first|refine zt ?_|(refine isR ?_;first|refine zo ?_|refine zk c1 ?_|refine zk c2 ?_|refine zk c3 ?_|refine zc5 ?_)|refine aA [0] ?_ ?_|exact ah)
 all_goals first|rfl|exact .on (.ren rfl) .nil
theorem WR:aK Tryz.prog 136 [.loc 0 0 0] [rM ([115,104,111,112,46,99,111,109]:List UInt8) true true] (.bool false) [some (rM ([115,104,111,112,46,99,111,109]:List UInt8) true true)]:=by
 have c1:=fold_at (l:=([105,100]:List UInt8)) (a:=([105,100]:List UInt8)) (by decide +kernel)
 have c2:=gH (l:=([105,100]:List UInt8)) (m:=([95,95,115,101,99,117,114,101,45]:List UInt8))
 rw [show pre ([105,100]:List UInt8) ([95,95,115,101,99,117,114,101,45]:List UInt8)=false by decide +kernel] at c2
 have c3:=gH (l:=([105,100]:List UInt8)) (m:=([95,95,104,111,115,116,45]:List UInt8))
 rw [show pre ([105,100]:List UInt8) ([95,95,104,111,115,116,45]:List UInt8)=false by decide +kernel] at c3
 refine bP af Tryz.func136 rfl Tryz.ntmps136 Tryz.results136 rfl rfl rfl rfl fun N pl=>?_
 repeat' (first|refine zt ?_|(refine isR ?_;first|refine zo ?_|refine zk c1 ?_|refine zk c2 ?_|refine zk c3 ?_)|refine aA [0] ?_ ?_|exact ah)
 all_goals first|rfl|exact .on (.ren rfl) .nil|(exfalso;simp_all;done)
theorem QV:aj Tryz.prog 133 [au ([47,99,97,114,116,47,97,100,100]:List UInt8)] (au ([47,99,97,114,116]:List UInt8)):=fun g N w vs hG hN hlen hv=>by
 obtain ⟨vs⟩:=vs
 match vs,hlen with
 | [x0],_ =>
  obtain ⟨rfl,h0⟩:=iJ (hv 0 _ x0 rfl rfl)
  refine (tC.zN (str ([47,99,97,114,116,47,97,100,100]:List UInt8)) w (by rw [aM];decide)).mono fun e w' ⟨he,hbel⟩=>⟨_,he,hbel ▸ Below.refl _ _,?_⟩
  rw [aY,show tC.dflt ([47,99,97,114,116,47,97,100,100]:List UInt8)=([47,99,97,114,116]:List UInt8) by kernel_rfl]
  exact .str (by rw [aM];decide)
theorem adF:av Tryz.prog bI 128 [.fp [.fro (S0.map aG.v)] 0] (.int .i64 0):=by
 have c1:=Ay.lC (L:=S0)
 rw [hS] at c1
 refine lZ af Tryz.func128 rfl Tryz.ntmps128 Tryz.results128 rfl fun N=>?_
 repeat' (first|refine zt ?_|(refine isR ?_;first|refine zo ?_|refine zk c1 ?_)|refine zr ?_|exact ah)
 all_goals rfl
theorem adg:aj Tryz.prog 129 [.fp r0.v.cells 0] (.int .i64 0):=by
 have c1:=abK
 refine aU af Tryz.func129 rfl Tryz.ntmps129 Tryz.results129 rfl fun N=>?_
 repeat' (first|refine zt ?_|(refine isR ?_;first|refine zo ?_|refine zk c1 ?_)|refine zr ?_|exact ah)
 all_goals rfl
theorem ac8:aj Tryz.prog 131 [.fp fX.v.cells 0,.fp [.int .i64 1000] 0] (.int .i64 0):=by
 have c1:=wH (f:=fX) (now:=1000)
 rw [show gq fX 1000=0 by kernel_rfl] at c1
 refine aW af Tryz.func131 rfl Tryz.ntmps131 Tryz.results131 rfl fun N=>?_
 repeat' (first|refine zt ?_|(refine isR ?_;first|refine zo ?_|refine zk c1 ?_)|refine zr ?_|exact ah)
 all_goals rfl
theorem acr:av Tryz.prog bI 107 [.fro (S0.map aG.v),r0.v,fX.v,.int .i64 1000] (.tup [k0.v,.int .i64 0]):=by
 have b1:=adF
 have b2:=adg
 have b3:=ac8
 have c0:=QV
 have c1:=ZN
 have c2:=XB
 have c3:=Ju
 have c4:=WR
 have hl:(r0.attrs.map Attr.v).length=2:=rfl
 refine KX af Tryz.func107 rfl Tryz.ntmps107 Tryz.results107 rfl fun N=>?_
 repeat' (first|with_reducible refine aP ?_|with_reducible refine aO 4 ?_|refine zt ?_|(refine isR ?_;first|refine dQ [44] af rfl ?_|refine zn ?_|refine ak (b1 _) ?_|refine ak (b1) ?_|refine ak (b2 _) ?_|refine ak (b2) ?_|refine ak (b3 _) ?_|refine ak (b3) ?_|refine zk c0 ?_|refine x_m [1] [] (c1 _) ?_|refine x_m [1] [] (c1) ?_|refine x_m [1] [] (c2 _) ?_|refine x_m [1] [] (c2) ?_|refine x_m [1] [] (c3 _) ?_|refine x_m [1] [] (c3) ?_|refine x_m [1] [] (c4 _) ?_|refine x_m [1] [] (c4) ?_|refine zX ?_)|refine zr ?_|exact ah)
 all_goals first|rfl|(exfalso;omega)
theorem hP:eH pR=0:=by kernel_rfl
theorem hR:jQ pR 1000 UA=0:=by kernel_rfl
theorem acE:av Tryz.prog bI 108 [iZ pR,gD 1000 PA UA,k0.v] (.tup [k1.v,.int .i64 0]):=by
 have h:=LJ (p:=pR) (g:=1000) (P:=PA) (U:=UA) (c:=k0) (eT hP) hR rfl (by decide) (by kernel_rfl)
 rw [show bM pR k0=k1 by kernel_rfl] at h
 exact h
theorem acP:aj Tryz.prog 109 [dL [] 0,k1.v,.int .i64 1000] (.tup [dL [k1] 1,.int .i64 0]):=by
 have h:=MF (L:=[]) (nx:=0) (c:=k1) (now:=1000) (by decide +kernel)
 rw [show sV [] 0 k1 1000=([k1],1) by rfl] at h
 exact h
theorem hD:∀ c∈[k1],c.domain.length≤4398046511104:=fun c hc=>by
 obtain rfl:=List.mem_singleton.1 hc
 decide
theorem hM:∀ c∈[k1],isJ c.created=true:=fun c hc=>by
 obtain rfl:=List.mem_singleton.1 hc
 rfl
theorem ac9:aR Tryz.prog bI 82 [.loc 0 0 0,evV 1 1000 tX fX] [rG S0 [] 0 pR 1000 PA UA 1000 []] (.int .i64 0) [some (rG S0 [k1] 1 pR 1000 PA UA 1000 [])]:=by
 have c1:=abX
 have c2:=acr
 have c3:=acE
 have c4:=acP
 have c5:=mD (S:=S0) (L:=[k1]) (nx:=1) (p:=pR) (g:=1000) (P:=PA) (U:=UA) (t:=1000) (eT hP) (by decide) hD hM
 rw [show dm pR PA UA 1000 [k1]=[k1] by kernel_rfl] at c5
 refine bL af Tryz.func82 rfl Tryz.ntmps82 Tryz.results82 rfl rfl rfl rfl fun N pl=>?_
 repeat' (first|refine zt ?_|(refine isR ?_;first|refine zo ?_|refine zk c1 ?_|refine zk c2 ?_|refine zk c3 ?_|refine zk c4 ?_|refine zk c5 ?_|refine zX ?_)|refine aA [0] ?_ ?_|exact ah)
 all_goals first|rfl|exact .on (.ren rfl) .nil|(exfalso;omega)
theorem adO:aR Tryz.prog bI 45 [.loc 0 0 0,evV 1 1000 tX fX] [rG S0 [] 0 pR 1000 PA UA 1000 []] (.int .i64 0) [some (rG S0 [k1] 1 pR 1000 PA UA 1000 [])]:=by
 have c1:=ac9
 have c5:=mD (S:=S0) (L:=[]) (nx:=0) (p:=pR) (g:=1000) (P:=PA) (U:=UA) (t:=1000) (eT hP) (by decide) (fun c hc=>by cases hc) (fun c hc=>by cases hc)
 rw [show dm pR PA UA 1000 []=[] by kernel_rfl] at c5
 refine bL af Tryz.func45 rfl Tryz.ntmps45 Tryz.results45 rfl rfl rfl rfl fun N pl=>?_
 repeat' (first|refine zt ?_|(refine isR ?_;first|refine zo ?_|refine zk c5 ?_|refine eZ [0] [] (c1 _) ?_|refine eZ [0] [] (c1) ?_|refine zI ?_)|refine aA [0] ?_ ?_|exact ah)
 all_goals first|rfl|exact .on (.ren rfl) .nil
end ady
namespace Bld
open Go.RowKit Mem Abs
variable {q p:List UInt8}
theorem Vw (y:Value) (w:World):(callFunc 113 #[y]).run Tryz.prog w = .ok (.value y) w:=by
 rw [run_callFunc_extern Tryz.func113 (by kernel_rfl) (by kernel_rfl) (by kernel_rfl) (e:=Extern.AbiNoEscape.same) (by kernel_rfl)]
 rfl
abbrev fresh:Blk:=.els 100 2 [.agg [.nilp,.nils]]
abbrev used (n m:Nat) (p:List UInt8):Blk:=.els 100 2 [.agg [.loc n 0 0,.own m 0 p.length]]
abbrev tN (p:List UInt8):Blk:=.els 5 1 (p.map bB)
theorem Us:aK Tryz.prog 86 [.loc 0 0 0] [fresh] (.tup []) [some (.els 100 2 [.agg [.loc 0 0 0,.nils]])]:=by
 refine bP af Tryz.func86 rfl Tryz.ntmps86 Tryz.results86 rfl rfl rfl rfl fun N pl=>?_
 repeat' (first|refine zt ?_|(refine isR ?_;first|refine zo ?_|refine Yr ?_|refine aa1 Vw ?_|refine ac0 af ?_|refine Y8 af ?_)|refine aA [0] ?_ ?_|exact ah)
 ·rfl
 ·exact .on (.ren rfl) .nil
theorem UB:aK Tryz.prog 86 [.loc 0 0 0] [used 0 1 p,tN p] (.tup []) [some (used 0 1 p),some (tN p)]:=by
 refine bP af Tryz.func86 rfl Tryz.ntmps86 Tryz.results86 rfl rfl rfl rfl fun N pl=>?_
 repeat' (first|refine zt ?_|(refine isR ?_;first|refine zo ?_|refine ZU ?_|refine ZK ?_)|refine aA [0,1] ?_ ?_|exact ah)
 ·rfl
 ·exact .on (.ren rfl) (.on (.same (aT fun _=>rfl)) .nil)
theorem WW (hq:q.length≤140737488355328):aK Tryz.prog 49 [.loc 0 0 0,au q] [fresh] (.tup [.int .i64 q.length,.nili]) [some (used 0 1 q),some (tN q)]:=by
 refine bP af Tryz.func49 rfl Tryz.ntmps49 Tryz.results49 rfl rfl rfl rfl fun N pl=>?_
 repeat' (first|refine zt ?_|(refine isR ?_;first|refine zo ?_|refine x_m [0] [] (Us _) ?_|refine x_m [0] [] (Us) ?_|refine Zb af ?_|refine zL ?_)|refine aA [0,1] ?_ ?_|exact ah)
 ·rfl
 ·exact .on (.ren rfl) (.on (.same (aT fun _=>rfl)) .nil)
theorem zx (hq:p.length+q.length≤140737488355328):aK Tryz.prog 49 [.loc 0 0 0,au q] [used 0 1 p,tN p] (.tup [.int .i64 q.length,.nili]) [some (used 0 2 (p++q)),none,some (tN (p++q))]:=by
 refine bP af Tryz.func49 rfl Tryz.ntmps49 Tryz.results49 rfl rfl rfl rfl fun N pl=>?_
 repeat' (first|refine zt ?_|(refine isR ?_;first|refine zo ?_|refine x_m [0,1] [] (UB _) ?_|refine x_m [0,1] [] (UB) ?_|refine abe af ?_|refine zL ?_)|refine aA [0,1,2] ?_ ?_|exact ah)
 ·rfl
 ·exact .on (.ren rfl) (.no (.on (.same (aT fun _=>rfl)) .nil))
theorem Zo:aK Tryz.prog 51 [.loc 0 0 0] [fresh] (au []) [some fresh]:=by
 refine bP af Tryz.func51 rfl Tryz.ntmps51 Tryz.results51 rfl rfl rfl rfl fun N pl=>?_
 repeat' (first|refine zt ?_|(refine isR ?_;first|refine zo ?_|refine Uo ?_|refine YT ?_|refine zL ?_)|refine aA [0] ?_ ?_|exact ah)
 ·rfl
 ·exact .on (.ren rfl) .nil
theorem Qd (hp:p≠[]):aK Tryz.prog 51 [.loc 0 0 0] [used 0 1 p,tN p] (au p) [some (used 0 1 p),none]:=by
 refine bP af Tryz.func51 rfl Tryz.ntmps51 Tryz.results51 rfl rfl rfl rfl fun N pl=>?_
 repeat' (first|refine zt ?_|(refine isR ?_;first|refine zo ?_|refine YE ?_|refine acJ ?_|refine zL ?_)|refine aA [0,1] ?_ ?_|exact ah)
 ·rfl
 ·exact .on (.ren rfl) (.no .nil)
end Bld
namespace Xg
open Go.RowKit Mem Abs bH dn dV nH nR SortM Pt zP nA mZ Bld
variable {L:List ai}
theorem Xq {k:Nat} {c:ai} (h:L[k]? = some c):fw (L.take (k+1))=if k=0 then ckT c else (fw (L.take k)++[59,32])++ckT c:=by
 obtain ⟨hk,rfl⟩:=List.getElem?_eq_some_iff.1 h
 rw [List.take_succ_eq_append_getElem hk,D8]
 by_cases h0:k=0
 ·subst h0;simp
 ·rw [if_neg h0,if_neg (by intro e;have:=congrArg List.length e;rw [List.length_take,List.length_nil] at this;omega)]
theorem Od (h:Ml L) (k:Nat):(fw (L.take k)).length≤2199026401280:=by
 have h1:=Fq (L:=L.take k) fun c hc=>h.2 c (List.mem_of_mem_take hc)
 have h2:(L.take k).length≤1048576:=by have:=h.1;simp;omega
 have h3:(L.take k).length*2097155≤1048576*2097155:=Nat.mul_le_mul_right _ h2
 omega
def stW (L:List ai):Nat→S
 | 0=>⟨[(3,.loc 0 0 0),(6,.fro (L.map ai.v)),(7,.int .i64 (L.map ai.v).length),(8,.int .i64 ((0:Nat):Int))],[(0,some fresh)],1,25⟩
 | k+1=>⟨[(3,.loc 0 0 0),(6,.fro (L.map ai.v)),(7,.int .i64 (L.map ai.v).length),(8,.int .i64 ((k+1:Nat):Int))],[(0,some (used 0 1 (fw (L.take (k+1))))),(1,some (tN (fw (L.take (k+1)))))],2,25⟩
theorem Ph (hs:Ml L):aj Tryz.prog 111 [.fro (L.map ai.v)] (au (fw L)):=by
 have hx:((L.map ai.v).length:Int)=(L.length:Int):=by simp
 have hsz:=hs.1
 have hsm:=Od hs
 have hall:=hs.2
 have hend:fw (L.take L.length)=fw L:=by rw [List.take_length]
 have hne:∀ k,k<L.length→fw (L.take (k+1))≠[]:=fun k hk=>Xb (by intro e;have:=congrArg List.length e;rw [List.length_take,List.length_nil] at this;omega)
 have hon:=fun k c=>Xq (L:=L) (k:=k) (c:=c)
 have hz:fw (L.take 0)=[]:=by simp [fw]
 rw [← hend]
 have hst:∀ k,stW L (k+1)=⟨[(3,.loc 0 0 0),(6,.fro (L.map ai.v)),(7,.int .i64 (L.map ai.v).length),(8,.int .i64 ((k+1:Nat):Int))],[(0,some (used 0 1 (fw (L.take (k+1))))),(1,some (tN (fw (L.take (k+1)))))],2,25⟩:=fun _=>rfl
 have hst0:stW L 0=⟨[(3,.loc 0 0 0),(6,.fro (L.map ai.v)),(7,.int .i64 (L.map ai.v).length),(8,.int .i64 ((0:Nat):Int))],[(0,some fresh)],1,25⟩:=rfl
 clear hs
 generalize hacc:(fun k=>fw (L.take k))=acc at *
 have ha:∀ k,fw (L.take k)=acc k:=fun k=>by rw [← hacc]
 simp only [ha] at *
 generalize stW L=st at *
 refine aU af Tryz.func111 rfl Tryz.ntmps111 Tryz.results111 rfl fun N=>?_
 repeat' (first|refine zt ?_|(refine isR ?_;first|refine dQ [3] af rfl ?_|refine zn ?_|refine zX ?_)|refine zr ?_|exact ah)
 refine fq st (fun k=>k≤L.length) L.length 0 (by rw [hst0];exact (by exact ah)) (Nat.zero_le _) ?_
 intro k hk
 rcases k with _|k
 ·rw [hst0,hst 0]
  by_cases hk2:0<L.length
  ·have e1:(L.map ai.v)[0]? = some (L[0]).v:=by simp [hk2]
   have e2:L[0]? = some L[0]:=by simp [hk2]
   have e3:=hon 0 L[0] e2
   rw [if_pos rfl] at e3
   have s4:=hall L[0] (List.getElem_mem hk2)
   rw [e3]
   generalize L[0]=c at *
   obtain ⟨c1,c2,c3,c4,c5,c6,c7,c8,c9,c10,c11,c12,c13⟩:=c
   unfold ckT
   dsimp only at *
   have w0:=WW (q:=(c1++[61])++c2) (by simp;omega)
   repeat' (first|refine zt ?_|(refine isR ?_;first|refine zo ?_|refine x_m [0] [2] (w0 _) ?_|refine x_m [0] [2] (w0) ?_|refine zX ?_)|refine zr ?_|exact ah)
   refine ⟨by omega,hk2,?_⟩
   exact (by exact x_len [0,2])
  ·have hl:L.length=0:=by omega
   rw [hl,hz]
   have w3:=Zo
   repeat' (first|refine zt ?_|(refine isR ?_;first|refine zo ?_|refine x_m [0] [] (w3 _) ?_|refine x_m [0] [] (w3) ?_|refine zX ?_)|refine zr ?_|exact ah)
   rfl
 ·rw [hst k,hst (k+1)]
  have hlk:=hsm (k+1)
  by_cases hk2:k+1<L.length
  ·have e1:(L.map ai.v)[k+1]? = some (L[k+1]).v:=by simp [hk2]
   have e2:L[k+1]? = some L[k+1]:=by simp [hk2]
   have e3:=hon (k+1) L[k+1] e2
   rw [if_neg (by omega)] at e3
   have s4:=hall L[k+1] (List.getElem_mem hk2)
   rw [e3]
   generalize L[k+1]=c at *
   generalize acc (k+1)=p at *
   obtain ⟨c1,c2,c3,c4,c5,c6,c7,c8,c9,c10,c11,c12,c13⟩:=c
   unfold ckT
   dsimp only at *
   have w1:=zx (p:=p) (q:=[59,32]) (by simp;omega)
   have w2:=zx (p:=p++[59,32]) (q:=(c1++[61])++c2) (by simp;omega)
   repeat' (first|refine zt ?_|(refine isR ?_;first|refine zo ?_|refine x_m [0,1] [3] (w1 _) ?_|refine x_m [0,1] [3] (w1) ?_|refine x_m [0,3] [4] (w2 _) ?_|refine x_m [0,3] [4] (w2) ?_|refine zX ?_)|refine zr ?_|exact ah)
   refine ⟨by omega,hk2,?_⟩
   exact (by exact x_len [0,4])
  ·have hl:L.length=k+1:=by omega
   have hn:=hne k (by omega)
   rw [hl]
   generalize acc (k+1)=p at *
   have w4:=Qd (p:=p) hn
   repeat' (first|refine zt ?_|(refine isR ?_;first|refine zo ?_|refine x_m [0,1] [] (w4 _) ?_|refine x_m [0,1] [] (w4) ?_|refine zX ?_)|refine zr ?_|exact ah)
   rfl
end Xg
end Go.Proofs.YtlfdjpgghiemfaaGreatDoor
