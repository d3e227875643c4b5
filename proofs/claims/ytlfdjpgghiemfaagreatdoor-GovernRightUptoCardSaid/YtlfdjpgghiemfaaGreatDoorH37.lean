/- Texts of the proof, joined: GovD, GovV, SixtyR, SixtyL, BitsN, SixtyV, SixtyX, BitsM, ConA. -/
import Derived.Test.YtlfdjpgghiemfaaGreatDoorH36
import Derived.Test.YtlfdjpgghiemfaaGreatDoorH3
set_option maxHeartbeats 4000000
set_option maxRecDepth 100000
namespace Go.Proofs.YtlfdjpgghiemfaaGreatDoor
namespace NN
open Go.RowKit Mem Abs eO cu gV dV Rdy Scan fI gF iG iP iQ kY EO nu oZ M9 JU uR yh yO Aq RjP Aw Cy EW ady nP nH nR nA mZ zP Bld
open lG (gD gu)
variable {g t:Int} {P:Nat→Bool} {f:From} {now:Int} {L:List ai} {nx:Int} {p:Pol} {U:List Int} {S:List aG}
theorem few (h:bD.check g U=0):U.length≤40:=by
 obtain ⟨n,V,rfl,rfl,_,hV⟩:=E8.Sj h
 exact Nat.le_trans (Nat.le_of_eq (List.length_map _)) (Ji.uO hV)
theorem sN (h:OkS S L nx p g P U t):aj Tryz.prog 44 [stV S L nx p g P U t] (stV S L nx p g P U t):=by
 have h1:=(fQ.sK h.suf).2
 have h2:Rj L nx:=dx.1 h.jar
 have h2:=h2.len
 have h3:=(eT h.pol).len
 have h4:=few h.con
 exact WH (by omega) (by omega) (by omega) (by omega)
theorem Tg (hd:∀ c∈L,c.domain.length≤140737488355327) (h0:dD L nx=0) (h1:gq f now=0):
  av Tryz.prog bI 110 [dL L nx,f.v,.int .i64 now] (.tup [dL (L.map (jk (fun c=>z8 c f now) now)) nx,.fro ((qK f now L).map ai.v),.int .i64 0]):=by
 have c1:=og (L:=L) (nx:=nx)
 rw [h0] at c1
 have c2:=wH (f:=f) (now:=now)
 rw [h1] at c2
 have hr:Rj L nx:=dx.1 h0
 have hl:=hr.len
 refine aaN c1 c2 (fun c hc=>acs (hd c hc) (ME h1)) hl (zP.ML ?_)
 have:=List.length_filter_le (fun c=>z8 c f now) L
 rw [List.length_map]
 omega
def jI (L:List ai):Prop:=∀ c∈L,(c.name.length≤1048576∧c.value.length≤1048576)∧c.domain.length≤1048576
theorem jI.dom (h:jI L):∀ c∈L,c.domain.length≤4398046511104:=fun c hc=>by have:=(h c hc).2;omega
theorem CB (h:jI L) (hl:L.length≤12):Ml (qK f now L):=by
 refine ⟨Nat.le_trans WQ (by omega),fun c hc=>?_⟩
 obtain ⟨d,hd,_,rfl⟩:=YM hc
 exact (h d hd).1
theorem DW (h:dD L nx=0):dD (aI now L) nx=0:=dx.2 (Rj.sub (dx.1 h) (xQ now L))
theorem jI.live (h:jI L) (now:Int):jI (aI now L):=fun c hc=>h c ((xQ now L).subset hc)
theorem yY (h:OkS S L nx p g P U t) (hs:jI L) (now:Int):av Tryz.prog bI 39 [stV S L nx p g P U now] (dL (aI now L) nx):=by
 have hr:Rj L nx:=dx.1 h.jar
 have:=mD (S:=S) (nx:=nx) (g:=g) (P:=P) (U:=U) (t:=now) (eT h.pol) hr.len hs.dom (yT hr)
 rw [Vj h.kept] at this
 exact this
abbrev Oe (f:From) (now:Int) (L:List ai):List ai:=(aI now L).map (jk (fun c=>z8 c f now) now)
theorem WK (h:OkS S L nx p g P U t) (hs:jI L) (hE:Gt [] f=0) (hn:isJ now=true) (ht:t≤now) (hr:gq f now=0):
  av Tryz.prog bI 16 [stV S L nx p g P U t,evV 2 now [] f] (.tup [stV S (Oe f now L) nx p g P U now,au (fw (qK f now L)),.int .i64 0]):=by
 have ce:=yg (k:=2) (Vh (now:=now) (f:=f)) (by decide) (by decide)
 rw [hE] at ce
 have cp:=yY h hs now
 have cg:=Tg (L:=aI now L) (f:=f) (fun c hc=>by have:=((hs.live now) c hc).2;omega) (DW h.jar) hr
 have cw:=Xg.Ph (CB (f:=f) (now:=now) hs (Rj.len (dx.1 h.jar)))
 rw [show qK f now (aI now L)=qK f now L by unfold qK;rw [XU]] at cg
 exact EB ce hn ht (sN h) (V9 cp (Pg cg cw))
theorem okS:OkS S0 [] 0 pR 1000 PA UA 1000:=pU (by kernel_rfl)
theorem ok1:OkS S0 [k1] 1 pR 1000 PA UA 1000:=pU (by kernel_rfl)
abbrev fA:From:=⟨([97,46,115,104,111,112,46,99,111,109]:List UInt8),([47,99,97,114,116,47,120]:List UInt8),true,false,false⟩
abbrev k2:ai:=⟨([105,100]:List UInt8),([55]:List UInt8),([115,104,111,112,46,99,111,109]:List UInt8),([47,99,97,114,116]:List UInt8),false,true,false,false,0,1100,1000,1001,0⟩
theorem ok2:OkS S0 [k2] 1 pR 1000 PA UA 1001:=pU (by kernel_rfl)
theorem ok3:OkS S0 [] 1 pR 1000 PA UA 1100:=pU (by kernel_rfl)
theorem sm0:jI []:=fun c hc=>by cases hc
theorem sm1:jI [k1]:=fun c hc=>by obtain rfl:=List.mem_singleton.1 hc;exact ⟨⟨by decide,by decide⟩,by decide⟩
theorem sm2:jI [k2]:=fun c hc=>by obtain rfl:=List.mem_singleton.1 hc;exact ⟨⟨by decide,by decide⟩,by decide⟩
theorem p1:av Tryz.prog bI 16 [stV S0 [] 0 pR 1000 PA UA 1000,evV 1 1000 tX fX] (.tup [stV S0 [k1] 1 pR 1000 PA UA 1000,au [],.int .i64 0]):=by
 have ce:=yg (k:=1) (TU (now:=1000) (s:=tX) (f:=fX)) (by decide) (by decide)
 rw [show Gt tX fX=0 by decide] at ce
 exact EB ce rfl (by decide) (sN okS) adO
theorem p2:av Tryz.prog bI 16 [stV S0 [k1] 1 pR 1000 PA UA 1000,evV 2 1001 [] fA] (.tup [stV S0 [k2] 1 pR 1000 PA UA 1001,au ([105,100,61,55]:List UInt8),.int .i64 0]):=by
 have h:=WK (now:=1001) (f:=fA) ok1 sm1 (by decide) rfl (by decide) (by kernel_rfl)
 rw [show Oe fA 1001 [k1]=[k2] by kernel_rfl,show fw (qK fA 1001 [k1])=([105,100,61,55]:List UInt8) by kernel_rfl] at h
 exact h
theorem Yj (h:OkS S L nx p g P U t) (hs:jI L) (hn:isJ now=true) (ht:t≤now):
  av Tryz.prog bI 16 [stV S L nx p g P U t,evV 5 now [] f0] (.tup [stV S (aI now L) nx p g P U now,au [],.int .i64 0]):=by
 have ce:=yg (k:=5) (KL (now:=now)) (by decide) (by decide)
 rw [show Gt [] f0=0 by decide] at ce
 exact EB ce hn ht (sN h) (aan (yY h hs now))
theorem OH (h:OkS S L nx p g P U t) (hn:isJ now=true) (ht:now<t):
  aj Tryz.prog 16 [stV S L nx p g P U t,evV 5 now [] f0] (.tup [st0,au [],.int .i64 4]):=by
 have ce:=yg (k:=5) (KL (now:=now)) (by decide) (by decide)
 rw [show Gt [] f0=0 by decide] at ce
 exact RG ce hn ht (sN h)
theorem p3:av Tryz.prog bI 16 [stV S0 [k2] 1 pR 1000 PA UA 1001,evV 5 999 [] f0] (.tup [st0,au [],.int .i64 4]):=OH ok2 rfl (by decide) bI
theorem p4:av Tryz.prog bI 16 [stV S0 [k2] 1 pR 1000 PA UA 1001,evV 5 1100 [] f0] (.tup [stV S0 [] 1 pR 1000 PA UA 1100,au [],.int .i64 0]):=by
 have h:=Yj (now:=1100) ok2 sm2 rfl (by decide)
 rw [show aI 1100 [k2]=[] by kernel_rfl] at h
 exact h
theorem p5:av Tryz.prog bI 16 [stV S0 [] 1 pR 1000 PA UA 1100,evV 2 1100 [] fA] (.tup [stV S0 [] 1 pR 1000 PA UA 1100,au [],.int .i64 0]):=by
 have h:=WK (now:=1100) (f:=fA) ok3 sm0 (by decide) rfl (by decide) (by kernel_rfl)
 rw [show Oe fA 1100 []=[] by kernel_rfl,show fw (qK fA 1100 [])=[] by kernel_rfl] at h
 exact h
theorem gc0:av Tryz.prog bI 12 [stV S0 [] 0 pR 1000 PA UA 1000] (.int .i64 0):=by
 have h:=wE (S:=S0) (L:=[]) (nx:=0) (p:=pR) (g:=1000) (P:=PA) (U:=UA) (t:=1000) sm0.dom
 rw [show u7 S0 [] 0 pR 1000 PA UA 1000=0 by kernel_rfl] at h
 exact h
theorem gc1:av Tryz.prog bI 12 [stV S0 [k1] 1 pR 1000 PA UA 1000] (.int .i64 0):=by
 have h:=wE (S:=S0) (L:=[k1]) (nx:=1) (p:=pR) (g:=1000) (P:=PA) (U:=UA) (t:=1000) sm1.dom
 rw [show u7 S0 [k1] 1 pR 1000 PA UA 1000=0 by kernel_rfl] at h
 exact h
abbrev bV:Abs.V:=.agg (.fro (S0.map aG.v) :: .nils::(stC S0 [] 0 pR 1000 PA UA 1000).drop 2)
theorem gcB:av Tryz.prog bI 12 [bV] (.int .i64 0):=gc0.nf rfl
theorem owB:aj Tryz.prog 44 [bV] (stV S0 [] 0 pR 1000 PA UA 1000):=(sN okS).nf rfl
theorem YS:aj Tryz.prog 47 [] (iZ pR):=by
 refine SN af Tryz.func47 rfl Tryz.ntmps47 Tryz.results47 fun N=>?_
 repeat' (first|refine zt ?_|(refine isR ?_;first|refine zo ?_|refine MN af ?_)|refine zr ?_|exact ah)
 all_goals rfl
theorem Xf:aj Tryz.prog 48 [] (gD 1000 PA UA):=by
 refine SN af Tryz.func48 rfl Tryz.ntmps48 Tryz.results48 fun N=>?_
 repeat' (first|refine zt ?_|(refine isR ?_;first|refine zo ?_|refine MN af ?_)|refine zr ?_|exact ah)
 all_goals rfl
theorem aa7:aj Tryz.prog 46 [] (.fro (S0.map aG.v)):=by
 refine SN af Tryz.func46 rfl Tryz.ntmps46 Tryz.results46 fun N=>?_
 repeat' (first|refine zt ?_|(refine isR ?_;first|refine zo ?_|refine MN af ?_)|refine zr ?_|exact ah)
 all_goals rfl
theorem Zj:aj Tryz.prog 18 [] bV:=by
 have c1:=YS
 have c2:=Xf
 have c3:=aa7
 refine SN af Tryz.func18 rfl Tryz.ntmps18 Tryz.results18 fun N=>?_
 repeat' (first|refine zt ?_|(refine isR ?_;first|refine zo ?_|refine zk c1 ?_|refine zk c2 ?_|refine zk c3 ?_)|refine zr ?_|exact ah)
 all_goals rfl
theorem Y7:aj Tryz.prog 17 [] fX.v:=by
 refine SN af Tryz.func17 rfl Tryz.ntmps17 Tryz.results17 fun N=>?_
 repeat' (first|refine zt ?_|(refine isR ?_;refine zo ?_)|refine zr ?_|exact ah)
 rfl
theorem Pm {n:Int}:aj Tryz.prog 13 [.int .i64 n] (evN 5 n [] f0):=by
 refine aU af Tryz.func13 rfl Tryz.ntmps13 Tryz.results13 rfl fun N=>?_
 repeat' (first|refine zt ?_|(refine isR ?_;refine zo ?_)|refine zr ?_|exact ah)
 rfl
abbrev outT:List UInt8:=[10,105,100,61,55,10,101,114,114,111,114,32,52,10,10,10]
theorem aby:av Tryz.prog bI 19 [bV,.fro [evN 1 1000 tX fX,evN 2 1001 [] fA,evN 5 999 [] f0,evN 5 1100 [] f0,evN 2 1100 [] fA]] (.tup [stV S0 [] 1 pR 1000 PA UA 1100,au outT,.int .i64 0]):=by
 have c0:=gcB
 have c1:=owB
 have q1:av Tryz.prog bI _ [stV S0 [] 0 pR 1000 PA UA 1000,evN 1 1000 tX fX] _:=p1.nf rfl
 have q2:av Tryz.prog bI _ [stV S0 [k1] 1 pR 1000 PA UA 1000,evN 2 1001 [] fA] _:=p2.nf rfl
 have q3:av Tryz.prog bI _ [stV S0 [k2] 1 pR 1000 PA UA 1001,evN 5 999 [] f0] _:=p3.nf rfl
 have q4:av Tryz.prog bI _ [stV S0 [k2] 1 pR 1000 PA UA 1001,evN 5 1100 [] f0] _:=p4.nf rfl
 have q5:av Tryz.prog bI _ [stV S0 [] 1 pR 1000 PA UA 1100,evN 2 1100 [] fA] _:=p5.nf rfl
 have ci:av Tryz.prog bI 50 [.int .i64 4] (au [52]):=by
  have h:=MX (n:=4)
  rw [show digits 4=[52] by kernel_rfl] at h
  exact h
 have w1:=WW (q:=[10]) (by decide)
 have w2:=zx (p:=[10]) (q:=[105,100,61,55,10]) (by decide)
 have w3:=zx (p:=[10,105,100,61,55,10]) (q:=[101,114,114,111,114,32,52,10]) (by decide)
 have w4:=zx (p:=[10,105,100,61,55,10,101,114,114,111,114,32,52,10]) (q:=[10]) (by decide)
 have w5:=zx (p:=[10,105,100,61,55,10,101,114,114,111,114,32,52,10,10]) (q:=[10]) (by decide)
 have w6:=Qd (p:=outT) (by decide)
 have hl:([evN 1 1000 tX fX,evN 2 1001 [] fA,evN 5 999 [] f0,evN 5 1100 [] f0,evN 2 1100 [] fA]:List Abs.V).length=5:=rfl
 refine gQ af Tryz.func19 rfl Tryz.ntmps19 Tryz.results19 rfl fun N=>?_
 repeat' (first|with_reducible refine aP ?_|with_reducible refine aO 6 ?_|refine zt ?_|(refine isR ?_;first|refine dQ [2] af rfl ?_|refine zn ?_|refine zk c0 ?_|refine zk c1 ?_|refine zk q1 ?_|refine zk q2 ?_|refine zk q3 ?_|refine zk q4 ?_|refine zk q5 ?_|refine zk ci ?_|refine x_m [2] [5] (w1 _) ?_|refine x_m [2] [5] (w1) ?_|refine x_m [2,5] [8] (w2 _) ?_|refine x_m [2,5] [8] (w2) ?_|refine x_m [2,8] [11] (w3 _) ?_|refine x_m [2,8] [11] (w3) ?_|refine x_m [2,11] [14] (w4 _) ?_|refine x_m [2,11] [14] (w4) ?_|refine x_m [2,14] [17] (w5 _) ?_|refine x_m [2,14] [17] (w5) ?_|refine x_m [2,17] [] (w6 _) ?_|refine x_m [2,17] [] (w6) ?_|refine zX ?_)|refine zr ?_|exact ah)
 all_goals first|rfl|(exfalso;omega)
theorem PU:av Tryz.prog bI 7 [] (.bool true):=by
 have b0:=Zj
 have b1:=Y7
 have b2:=Pm (n:=999)
 have b3:=Pm (n:=1100)
 have x1:av Tryz.prog bI 6 [bV,evN 1 1000 tX fX] _:=(JL gc0 p1).nf rfl
 have x2:av Tryz.prog bI 6 [stV S0 [k1] 1 pR 1000 PA UA 1000,evN 2 1001 [] fA] _:=(JL gc1 p2).nf rfl
 have x3:av Tryz.prog bI 6 [stV S0 [k1] 1 pR 1000 PA UA 1000,evN 5 999 [] f0] _:=(Qo gc1 (OH ok1 rfl (by decide) bI)).nf rfl
 have x4:=aby
 have x5:=gcB
 have e1:k1.expiry=1100:=rfl
 have e2:k2.used=1001:=rfl
 refine adz af Tryz.func7 rfl Tryz.ntmps7 Tryz.results7 fun N=>?_
 repeat' (first|refine zt ?_|(refine isR ?_;first|refine zo ?_|refine zk b0 ?_|refine zk b1 ?_|refine zk b2 ?_|refine zk b3 ?_|refine zk x1 ?_|refine zk x2 ?_|refine zk x3 ?_|refine zk x4 ?_|refine zk x5 ?_|refine zX ?_|(refine zs5 ?_ ?_<;>intro hc))|refine zr ?_|exact ah)
 all_goals first|rfl|(exfalso;omega)|(exfalso;simp_all;done)
end NN
namespace QK
open Go.RowKit Mem Abs eO cu gV dV Rdy Scan fI gF iG iP iQ kY nu oZ uR yh yO Aq RjP Aw Cy EW NN nP nH nR nA mZ bH bX dn
open lG (gD gu)
variable {U2:List Int} {g:Int} {P2:Nat→Bool} {t:Int} {P:Nat→Bool} {now:Int} {Γ:iI} {L:List ai} {nx:Int} {T s:List UInt8} {g2 e:Int} {p:Pol} {U:List Int} {K:List ai} {S:List aG}
theorem V5 (cr:aj Tryz.prog 112 [au s] (.tup [gD g2 P2 U2,.int .i64 0])) (hg:g≤g2) (cp:av Tryz.prog Γ 39 [stV S L nx p g2 P2 U2 t] (dL K nx)):
  aR Tryz.prog Γ 84 [.loc 0 0 0,evV 3 now s f0] [rG S L nx p g P U t T] (.int .i64 0) [some (rG S K nx p g2 P2 U2 t T)]:=by
 refine bL af Tryz.func84 rfl Tryz.ntmps84 Tryz.results84 rfl rfl rfl rfl fun N pl=>?_
 repeat' (first|refine zt ?_|(refine isR ?_;first|refine zo ?_|refine zk cr ?_|refine zk cp ?_|refine zX ?_)|refine aA [0] ?_ ?_|exact ah)
 all_goals first|rfl|exact .on (.ren rfl) .nil|(exfalso;omega)
theorem Tf (cr:aj Tryz.prog 112 [au s] (.tup [gD g2 P2 U2,.int .i64 e])) (he:e≠0):
  aR Tryz.prog Γ 84 [.loc 0 0 0,evV 3 now s f0] [rG S L nx p g P U t T] (.int .i64 e) [some (rG S L nx p g P U t T)]:=by
 refine bL af Tryz.func84 rfl Tryz.ntmps84 Tryz.results84 rfl rfl rfl rfl fun N pl=>?_
 repeat' (first|refine zt ?_|(refine isR ?_;first|refine zo ?_|refine zk cr ?_|refine zc6 ?_)|refine aA [0] ?_ ?_|exact ah)
 all_goals first|rfl|exact .on (.ren rfl) .nil|(exfalso;omega)
theorem NC (cr:aj Tryz.prog 112 [au s] (.tup [gD g2 P2 U2,.int .i64 0])) (hg:g2<g):
  aR Tryz.prog Γ 84 [.loc 0 0 0,evV 3 now s f0] [rG S L nx p g P U t T] (.int .i64 4) [some (rG S L nx p g P U t T)]:=by
 refine bL af Tryz.func84 rfl Tryz.ntmps84 Tryz.results84 rfl rfl rfl rfl fun N pl=>?_
 repeat' (first|refine zt ?_|(refine isR ?_;first|refine zo ?_|refine zk cr ?_|refine zX ?_)|refine aA [0] ?_ ?_|exact ah)
 all_goals first|rfl|exact .on (.ren rfl) .nil|(exfalso;omega)
theorem WV {L2:List ai} (cp:av Tryz.prog Γ 39 [stV S L nx p g P U now] (dL K nx)) (ca:aR Tryz.prog Γ 84 [.loc 0 0 0,evV 3 now s f0] [rG S K nx p g P U now T] (.int .i64 e) [some (rG S L2 nx p g2 P2 U2 now T)]):
  aR Tryz.prog Γ 45 [.loc 0 0 0,evV 3 now s f0] [rG S L nx p g P U t T] (.int .i64 e) [some (rG S L2 nx p g2 P2 U2 now T)]:=by
 refine bL af Tryz.func45 rfl Tryz.ntmps45 Tryz.results45 rfl rfl rfl rfl fun N pl=>?_
 repeat' (first|refine zt ?_|(refine isR ?_;first|refine zo ?_|refine zk cp ?_|refine eZ [0] [] (ca _) ?_|refine eZ [0] [] (ca) ?_|refine zI ?_)|refine aA [0] ?_ ?_|exact ah)
 all_goals first|rfl|exact .on (.ren rfl) .nil
end QK
namespace Eg
open Go.RowKit Mem gT eu jL jZ om pG mr
def adN (r:List UInt8 × Nat) (w:World) (e:Ending) (w':World):Prop:=e = .returned (.tuple #[.string (str r.1),.int .i64 (r.2:Int)])∧Below w.heap.size w w'
theorem Om (c:UInt8) (w:World) :
  Calls Tryz.prog 71 #[.string ⟨#[65,66,67,68,69,70,71,72,73,74,75,76,77,78,79,80,81,82,83,84,85,86,87,88,89,90,97,98,99,100,101,102,103,104,105,106,107,108,109,110,111,112,113,114,115,116,117,118,119,120,121,122,48,49,50,51,52,53,54,55,56,57,45,95]⟩,.int .u8 c.toNat] w (fun e w'=>e = .returned (.int .i64 (if place c<64 then (place c:Int) else -1))∧w=w'):=by
 have h:=Tryz.strings_IndexByte ⟨#[65,66,67,68,69,70,71,72,73,74,75,76,77,78,79,80,81,82,83,84,85,86,87,88,89,90,97,98,99,100,101,102,103,104,105,106,107,108,109,110,111,112,113,114,115,116,117,118,119,120,121,122,48,49,50,51,52,53,54,55,56,57,45,95]⟩ c.toNat w
 have e:((c.toNat:Int)).toNat.toUInt8=c:=by simp
 rw [e] at h
 have hi:=JB c
 exact h.mono fun _ _ h=>⟨by rw [← hi];exact h.1,h.2.symm⟩
theorem LY (w:World) (R:Array Value) (f:Nat × Nat):WO (((w.alloc (.cells #[.slice none 0 0,.int .i64 0] 237)).alloc (.cells R 5 f)).drew) w.heap.size (fun k=>k≠w.heap.size∧k<w.heap.size+2) [] :=
 ⟨fun k hk=>⟨by simp;omega,hk.1⟩,.slice none 0 0,(Below.heap_alloc _ _ _ (by simp)).trans (heap_alloc_new w _),(fun k h=>by cases h),World.ownsRow_nil _ _ _ _⟩
theorem qA (s:ByteArray) (k:Nat) (h:k<s.size):s.data.toList.take (k+1)=s.data.toList.take k++[s[k]]:=by
 rw [List.take_succ_eq_append_getElem (by simpa using h)];rfl
theorem RL (s:ByteArray) (k:Nat) (h:k<s.size) (hp:¬ place s[k]<64):known s.data.toList=false:=by
 have e:s.data.toList=s.data.toList.take (k+1)++s.data.toList.drop (k+1):=(List.take_append_drop _ _).symm
 rw [e,qA s k h,zC,zC];simp [known,hp]
theorem Qp (l:List Nat):(btx l).size=(l.length+7)/8:=by simp [btx,ByteArray.size,dH]
theorem QI (s:ByteArray) (w:World) (hs:s.size≤9223372036854775807) :
  Calls Tryz.prog 168 #[.string s,.string ⟨#[0]⟩] w (Gives (.string (str (Lib.trimB s.data.toList 0))) w) :=
 (Tryz.strings_Trim_one s 0 (by decide) w hs).mono fun e w' h=>⟨h.1,by
  rcases h.2 with h|h
  ·rw [h];exact Below.refl _ _
  ·rw [h];exact ⟨rfl,rfl,rfl,Nat.le_refl _,fun _ _=>rfl⟩⟩
theorem Qt (t:ByteArray) (w:World) (hs:t.size≤140737488355328) :
  Calls Tryz.prog 146 #[.string t] w (adN (bC t.data.toList) w):=by
 have kc:=fun (w:World) (s:ByteArray)=>run_bytes_of_string (P:=Tryz.prog) w 9 98 5 s Tryz.underlying9 Tryz.underlying98 Tryz.underlying5
 have htl:t.data.toList.length=t.size:=by simp
 go_enter Tryz.func146,Tryz.ntmps146
 go_wp2_with fail
 generalize grownCap (w.alloc (.cells #[.slice none 0 0,.int .i64 0] 237)) t.size 0 5=C
 have hR:∀ k (hk:k<t.size),(bytesRow t C)[k]? = some (.int .u8 (t[k].toNat:Int)):=fun k hk=>bytesRow_at t C k hk
 have hK0:Kept (fun k=>k<w.heap.size) w (((w.alloc (.cells #[.slice none 0 0,.int .i64 0] 237)).alloc (.cells (bytesRow t C) 5 ((bytesRow t C).size,(bytesRow t C).size+1))).drew):=(((Kept.refl _ _).alloc _).alloc _).drew
 have hS0:=LY w (bytesRow t C) ((bytesRow t C).size,(bytesRow t C).size+1)
 have hC0:∀ k (hk:k<t.size),(((w.alloc (.cells #[.slice none 0 0,.int .i64 0] 237)).alloc (.cells (bytesRow t C) 5 ((bytesRow t C).size,(bytesRow t C).size+1))).drew).cell? ⟨w.heap.size+1,k,none⟩=some (.int .u8 (t[k].toNat:Int)):=fun k hk=>by
  have h1:(((w.alloc (.cells #[.slice none 0 0,.int .i64 0] 237)).alloc (.cells (bytesRow t C) 5 ((bytesRow t C).size,(bytesRow t C).size+1))).drew).heap[w.heap.size+1]? = some (.cells (bytesRow t C) 5 ((bytesRow t C).size,(bytesRow t C).size+1)):=by
   have h2:((w.alloc (.cells #[.slice none 0 0,.int .i64 0] 237)).alloc (.cells (bytesRow t C) 5 ((bytesRow t C).size,(bytesRow t C).size+1))).heap[w.heap.size+1]? = some (.cells (bytesRow t C) 5 ((bytesRow t C).size,(bytesRow t C).size+1)):=by
    simpa using heap_alloc_new (w.alloc (.cells #[.slice none 0 0,.int .i64 0] 237)) (.cells (bytesRow t C) 5 ((bytesRow t C).size,(bytesRow t C).size+1))
   exact h2
  simp only [World.cell?,h1]
  exact hR k hk
 have hz0:w.heap.size+2≤(((w.alloc (.cells #[.slice none 0 0,.int .i64 0] 237)).alloc (.cells (bytesRow t C) 5 ((bytesRow t C).size,(bytesRow t C).size+1))).drew).heap.size:=by simp
 clear hR
 generalize (((w.alloc (.cells #[.slice none 0 0,.int .i64 0] 237)).alloc (.cells (bytesRow t C) 5 ((bytesRow t C).size,(bytesRow t C).size+1))).drew)=W0 at hK0 hS0 hC0 hz0 ⊢
 have HC:=Lib.hid hC0
 have HTL:=Lib.hid htl
 clear hC0 htl kc
 go_loopw [14] (fun i wr=>∃ k:Nat,k≤t.size∧i = .int .i64 k∧known (t.data.toList.take k)=true∧WO wr w.heap.size (fun k=>k≠w.heap.size∧k<w.heap.size+2) (di (t.data.toList.take k))∧Kept (fun k=>k≠w.heap.size∧k<w.heap.size+2) W0 wr) (fun i _=>t.size-(intOf i).toNat)
 case atStart=>exact ⟨0,Nat.zero_le _,rfl,rfl,hS0,Kept.refl _ _⟩
 case round =>
  clear hS0
  obtain ⟨k,hk,rfl,hkn,hsink,hkept⟩:=hrel
  have HKN:=Lib.hid hkn
  have HS:=Lib.hid hsink
  have hsz:=hkept.size
  have hbl:Below w.heap.size w wr:=(hK0.below (Nat.le_refl _) (fun j hj=>hj)).trans (hkept.below (by omega) (fun j hj=>by omega))
  clear hkn hsink
  by_cases hlt:k<t.size
  ·have hcell:=(hkept.cell (q:=⟨w.heap.size+1,k,none⟩) (by simp;omega) (by simp)).trans (HC.out k hlt)
   have htk:=qA t k hlt
   have hbad:=RL t k hlt
   have hbin:=yS (t.data.toList.take k)
   have hdl:=uD (t.data.toList.take k)
   have htl:(t.data.toList.take k).length≤k:=List.length_take_le _ _
   generalize t[k]=c at hcell htk hbad
   have CI:=Lib.hid (fun w'=>Om c w')
   by_cases hp:place c<64
   ·have CI:=CI.out
    simp only [if_pos hp] at CI
    have CI:=Lib.hid CI
    have hkn1:known (t.data.toList.take (k+1))=true:=by rw [htk,zC,HKN.out];simp [known,hp]
    have hdb1:di (t.data.toList.take (k+1))=di (t.data.toList.take k)++bitsOf (place c) 6:=by rw [htk,Rf];simp [di]
    have HB1:=Lib.hid hdb1
    have HKN1:=Lib.hid hkn1
    clear htk hbad hkn1 hdb1
    generalize place c=x at hp CI HB1
    have hwx:IntKind.u64.wrap (x:Int)=(x:Int):=IntWalk.u64_in _ (by omega)
    go_wp2_with fail
    refine (CI.out _).mono ?_
    rintro e w1 ⟨rfl,rfl⟩
    go_wp2_with fail
    have CP:=ZT w.heap.size (fun k=>k≠w.heap.size∧k<w.heap.size+2) (di (t.data.toList.take k)) x 6 (by omega) (by omega) wr hbin (by omega) HS.out
    rw [show (((6:Nat)):Int)=6 from rfl] at CP
    with_reducible refine CP.mono ?_
    clear CP
    rintro e w2 ⟨rfl,hs2,hk2⟩
    go_wp2_with fail
    go_roundw
    case rel=>exact ⟨k+1,by omega,by go_num,HKN1.out,by rw [HB1.out];exact hs2,hkept.trans hk2⟩
    case measure=>simp [intOf];omega
   ·have CI:=CI.out
    simp only [if_neg hp] at CI
    have CI:=Lib.hid CI
    have hr:=Uz (hbad hp)
    rw [hr]
    clear htk hbad hr
    go_wp2_with fail
    refine (CI.out _).mono ?_
    rintro e w1 ⟨rfl,rfl⟩
    go_wp2_with fail
    go_ret2
    exact ⟨rfl,hbl⟩
  ·obtain rfl:k=t.size:=by omega
   have hall:t.data.toList.take t.size=t.data.toList:=List.take_of_length_le (by rw [HTL.out];omega)
   have hkn:=HKN.out
   have hsk:=HS.out
   rw [hall] at hkn hsk
   have hbin:=yS t.data.toList
   have hdl:=uD t.data.toList
   rw [HTL.out] at hdl
   have hbs:(btx (di t.data.toList)).size=(6*t.size+7)/8:=by rw [Qp,hdl]
   have htake:(btx (di t.data.toList)).extract 0 (t.size*6/8)=str (((aZ (di t.data.toList)).map UInt8.ofNat).take (t.size*6/8)):=by rw [Lib.extract_upto];simp [btx,str]
   have htr:=RX (di t.data.toList) hbin
   rw [hdl,show 6*t.size/8=t.size*6/8 from by omega] at htr
   have CT:=fun w'=>QI ((btx (di t.data.toList)).extract (t.size*6/8) (btx (di t.data.toList)).size) w' (by simp;omega)
   have hext:((btx (di t.data.toList)).extract (t.size*6/8) (btx (di t.data.toList)).size).data.toList=((aZ (di t.data.toList)).map UInt8.ofNat).drop (t.size*6/8):=by rw [Lib.extract_from];simp [btx]
   rw [hext] at CT
   have CX:=fun w' h=>VY (T:=237) w.heap.size (fun k=>k≠w.heap.size∧k<w.heap.size+2) (di t.data.toList) w' hbin h
   have r1:=Wp hkn
   have r2:=Q7 hkn
   have r3:=RS hkn
   have r4:=Ih hkn
   rw [HTL.out] at r1 r2 r3 r4
   clear hext hall hkn
   have hm1:IntKind.i64.wrap ((t.size:Int)*6)=(t.size:Int)*6:=IntWalk.i64_in _ (by omega)
   have hm2:IntKind.i64.wrap ((t.size:Int)*6/8)=((t.size*6/8:Nat):Int):=by rw [IntWalk.i64_in _ (by omega)];omega
   have hm7:(t.size:Int)*6/8=((t.size*6/8:Nat):Int):=by omega
   have hm3:t.size*6/8≤(btx (di t.data.toList)).size:=by rw [hbs];omega
   have hm4:(t.size:Int).tmod 4=((t.size % 4:Nat):Int):=by rw [Int.tmod_eq_emod_of_nonneg (by omega)];omega
   clear hbs
   generalize btx (di t.data.toList)=b at htake CT CX hm3
   generalize Lib.trimB (((aZ (di t.data.toList)).map UInt8.ofNat).drop (t.size*6/8)) 0=tr at CT htr
   generalize num ((di t.data.toList).drop (8*(t.size*6/8)))=nr at htr r3 r4
   generalize ((aZ (di t.data.toList)).map UInt8.ofNat).take (t.size*6/8)=tk at htake r4
   generalize t.size*6/8=m at hm2 hm7 hm3 htake CT r2 r3 r4
   have CX:=Lib.hid CX
   have CT:=Lib.hid CT
   have HTK:=Lib.hid htake
   clear htake
   have hm5:(m:Int)≤(b.size:Int):=by omega
   by_cases h1:t.size % 4=1
   ·have HR:=Lib.hid (r1 h1)
    rw [h1] at hm4
    clear r1 r2 r3 r4 htr h1
    go_wp2_with fail
    refine (CX.out _ hsk).mono ?_
    rintro e w1 ⟨rfl,rfl⟩
    go_wp2_with fail
    go_ret2
    exact ⟨by rw [HR.out];rfl,hbl⟩
   ·have hm6:(((t.size % 4:Nat):Int)==1)=false:=by rw [beq_eq_false_iff_ne];omega
    generalize ((t.size % 4:Nat):Int)=q at hm4 hm6
    by_cases h2:400<m
    ·have HR:=Lib.hid (r2 h1 h2)
     have hi2:(m:Int)>400:=by omega
     clear r1 r2 r3 r4 htr h1 h2
     go_wp2_with fail
     refine (CX.out _ hsk).mono ?_
     rintro e w1 ⟨rfl,rfl⟩
     go_wp2_with fail
     go_ret2
     exact ⟨by rw [HR.out];rfl,hbl⟩
    ·have hi2:¬ (m:Int)>400:=by omega
     by_cases h3:nr=0
     ·have HR:=Lib.hid (r4 h1 h2 h3)
      obtain rfl:tr=[]:=htr.2 h3
      have hu:(str []).toList.isEmpty=true:=by rw [ByteArray.toList_eq];rfl
      clear r1 r2 r3 r4 htr h1 h2 h3
      go_wp2_with fail
      refine (CX.out _ hsk).mono ?_
      rintro e w1 ⟨rfl,rfl⟩
      go_wp2_with fail
      refine (CT.out _).mono ?_
      rintro e w2 ⟨rfl,b2⟩
      have hb2:=hbl.trans (b2.mono (by have:=hbl.size;omega))
      go_wp2_with fail
      go_ret2
      exact ⟨by rw [HR.out,HTK.out];rfl,hb2⟩
     ·have HR:=Lib.hid (r3 h1 h2 h3)
      have hu:(str tr).toList.isEmpty=false:=by
       rw [ByteArray.toList_eq,List.isEmpty_eq_false_iff]
       intro e;exact h3 (htr.1 (by simpa [str] using e))
      clear r1 r2 r3 r4 htr h1 h2 h3
      go_wp2_with fail
      refine (CX.out _ hsk).mono ?_
      rintro e w1 ⟨rfl,rfl⟩
      go_wp2_with fail
      refine (CT.out _).mono ?_
      rintro e w2 ⟨rfl,b2⟩
      have hb2:=hbl.trans (b2.mono (by have:=hbl.size;omega))
      go_wp2_with fail
      go_ret2
      exact ⟨by rw [HR.out];rfl,hb2⟩
end Eg
namespace IU
open Go.RowKit Mem gT eu jL jZ om pG mr Eg
theorem Rp (t:List UInt8):(∃ a,bC t=(a,0))∨bC t=([],1)∨bC t=([],2):=by
 unfold bC
 repeat' split
 all_goals first|exact .inr (.inl rfl)|exact .inr (.inr rfl)|exact .inl ⟨_,rfl⟩
end IU
namespace LH
open Go.RowKit Mem gT eu jL yP
def bytesOf (l:List Nat) (j:Nat):ByteArray:=⟨((List.range j).map fun i=>UInt8.ofNat (bJ l i)).toArray⟩
end LH
namespace Ov
open Go.RowKit Mem gT eu jL jZ om pG mr Eg IU yP LH
end Ov
namespace TD
open Go.RowKit Mem gT eu jL jZ om pG mr Eg IU yP LH Ov
end TD
namespace aaz
open Go.RowKit Mem gT eu jL yP LH
end aaz
namespace EM
open Go.RowKit Mem Abs gT eu jL jZ pG mr Eg IU yP LH Ov TD aaz lG
variable {l:List UInt8}
theorem Dx {N:Nat→Prop} {w:World} {a b:V} {x y:Value} (ha:Fz N w a x) (hb:Fz N w b y):Fz N w (.tup [a,b]) (.tuple #[x,y]):=.tup rfl fun i x c hx hc=>by
 have hi:i<2:=(List.getElem?_eq_some_iff.1 hx).1
 have:i=0∨i=1:=by omega
 rcases this with rfl|rfl<;>(cases hx;cases hc)
 ·exact ha
 ·exact hb
theorem Q8:(str (kT l).1).size≤dY:=by
 rw [aM]
 unfold kT
 split
 ·exact Nat.zero_le _
 ·rw [KN _ _ (Nat.le_refl _),fU]
  unfold dY;omega
theorem Q9:(str (bC l).1).size≤dY:=by
 rw [aM]
 by_cases h:(bC l).2=0
 ·have:=(DU l h).1
  unfold dY;omega
 ·rw [Sl l h];exact Nat.zero_le _
theorem Px {n:Nat} (h:n≤2):InR .i64 (n:Int):=⟨by show (-9223372036854775808:Int)≤_;omega,by show _≤(9223372036854775807:Int);omega⟩
theorem adA:(kT l).2≤2:=by unfold kT;split<;>simp
theorem ac6:(bC l).2≤2:=by
 rcases Rp l with ⟨a,h⟩|h|h<;>rw [h]<;>simp
abbrev acL (r:List UInt8 × Nat):V:=.tup [au r.1,.int .i64 (r.2:Int)]
theorem acy (hl:l.length≤281474976710656):aj Tryz.prog 204 [au l] (acL (kT l)):=fun g N w vs hG hN hlen hv=>by
 obtain ⟨vs⟩:=vs
 match vs,hlen with
 | [x0],_ =>
  obtain ⟨rfl,_⟩:=iJ (hv 0 _ x0 rfl rfl)
  refine (Mx (str l) w (by rw [aM];exact hl)).mono fun e w' ⟨h1,h2⟩=>⟨_,h1,h2,?_⟩
  rw [aY]
  exact Dx (.str Q8) (.int (Px adA))
theorem abm (hl:l.length≤140737488355328):aj Tryz.prog 146 [au l] (acL (bC l)):=fun g N w vs hG hN hlen hv=>by
 obtain ⟨vs⟩:=vs
 match vs,hlen with
 | [x0],_ =>
  obtain ⟨rfl,_⟩:=iJ (hv 0 _ x0 rfl rfl)
  refine (Qt (str l) w (by rw [aM];exact hl)).mono fun e w' ⟨h1,h2⟩=>⟨_,h1,h2,?_⟩
  rw [aY]
  exact Dx (.str Q9) (.int (Px ac6))
end EM
end Go.Proofs.YtlfdjpgghiemfaaGreatDoor
