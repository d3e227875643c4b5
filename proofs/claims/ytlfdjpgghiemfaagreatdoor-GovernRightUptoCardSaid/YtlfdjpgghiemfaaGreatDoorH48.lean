/- Texts of the proof, joined: GovF, GovT, JarY, GovR. -/
import Derived.Test.YtlfdjpgghiemfaaGreatDoorH47
set_option maxHeartbeats 4000000
set_option maxRecDepth 100000
namespace Go.Proofs.YtlfdjpgghiemfaaGreatDoor
namespace YK
open Go.RowKit Mem Abs eO cu gV dV Rdy Scan fI gF iG iP iQ kY nu oZ qW EO Kc Sz abU uR yh yO Aq RjP Aw Cy EW NN Wt QK UI nP nA mZ Both
open lG (gD gu)
variable {K:List ai} {g t:Int} {P:Nat→Bool} {Γ:iI} {T:List UInt8} {L2:List ai} {q:Pol} {e:Int} {k:ai} {n2:Int} {f:From} {nx:Int} {s:List UInt8} {p:Pol} {U:List Int} {c:ai} {r:Raw} {now:Int} {L:List ai} {S:List aG}
theorem Mh (f:From) (now:Int) (m:iE.Mk) (a:Attr):(iE.bQ f now m a).c.created=m.c.created∧(iE.bQ f now m a).c.used=m.c.used:=by
 unfold iE.bQ
 repeat' split
 all_goals exact ⟨rfl,rfl⟩
theorem Ai (f:From) (now:Int):∀ (l:List Attr) (m:iE.Mk),(l.foldl (iE.bQ f now) m).c.created=m.c.created∧(l.foldl (iE.bQ f now) m).c.used=m.c.used
 | [],_=>⟨rfl,rfl⟩
 | a::l,m=>by
  obtain ⟨h1,h2⟩:=Ai f now l (iE.bQ f now m a)
  obtain ⟨h3,h4⟩:=Mh f now m a
  exact ⟨h1.trans h3,h2.trans h4⟩
theorem RU (S:List aG) (f:From) (m:iE.Mk):(iE.nU S f m).2.c.created=m.c.created∧(iE.nU S f m).2.c.used=m.c.used:=by
 unfold iE.nU
 repeat' split
 all_goals exact ⟨rfl,rfl⟩
theorem Zx (h:(iE.jG S r f now).2=0):(iE.jG S r f now).1.created=now∧(iE.jG S r f now).1.used=now∧(iE.jG S r f now).1.domain.length≤253:=by
 obtain ⟨_,_,h3,_,_,h6⟩:=Vb.GL h
 have hd:=Vb.Ib h
 have hf:=(iE.KR h3).1
 obtain ⟨k1,k2⟩:=RU S f (iE.jc r f now)
 obtain ⟨k3,k4⟩:=Ai f now r.attrs (iE.mk0 r f now)
 refine ⟨by rw [h6,k1];exact k3,by rw [h6,k2];exact k4,?_⟩
 rcases hd with ⟨_,e⟩|⟨_,_,e,_⟩
 ·rw [e];exact PV.Ev hf
 ·exact PV.Ev e
theorem Vz (hr:∀ a∈r.attrs,a.value.length≤140737488355328):∃ (c:ai) (e:Int),av Tryz.prog kJ 107 [.fro (S.map aG.v),r.v,f.v,.int .i64 now] (.tup [c.v,.int .i64 e])∧(e=0→c.created=now∧c.used=now∧c.domain.length≤253) :=
 ⟨_,_,PV.ack hr,Zx⟩
theorem VW (s:List UInt8):∃ (r:Raw) (e:Int),aj Tryz.prog 106 [au s] (.tup [r.v,.int .i64 e])∧(e=0→∀ a∈r.attrs,a.value.length≤140737488355328) :=
 ⟨_,_,aax.DY,fun h a ha=>Nat.le_trans ((Vr.NQ (s:=s) (r:=(kZ.vJ s).1) (by rw [← h])).2.2 a ha).2 (by decide)⟩
theorem Wo (hp:eH p=0) (hg:bD.check g U=0) (h:isJ c.created=true) (hd:c.domain.length≤4398046511104):∃ (k:ai) (e:Int),av Tryz.prog bI 108 [iZ p,gD g P U,c.v] (.tup [k.v,.int .i64 e])∧(e=0→k.domain=c.domain):=by
 have h1:jQ p g U=0:=by unfold jQ;rw [hp];simpa using hg
 cases hl:jd p P U c with
 | true=>exact ⟨_,_,LJ (eT hp) h1 h hd hl,fun _=>rfl⟩
 | false=>exact ⟨_,_,QU (eT hp) h1 h hd hl,fun h=>by cases h⟩
theorem VI (c1:aj Tryz.prog 106 [au s] (.tup [r.v,.int .i64 e])) (he:e≠0):aR Tryz.prog Γ 82 [.loc 0 0 0,evV 1 now s f] [rG S L nx p g P U t T] (.int .i64 e) [some (rG S L nx p g P U t T)]:=by
 refine bL af Tryz.func82 rfl Tryz.ntmps82 Tryz.results82 rfl rfl rfl rfl fun N pl=>?_
 repeat' (first|refine zt ?_|(refine isR ?_;first|refine zo ?_|refine zk c1 ?_|refine zc6 ?_)|refine aA [0] ?_ ?_|exact ah)
 all_goals first|rfl|exact .on (.ren rfl) .nil|(exfalso;omega)
theorem Ua (c1:aj Tryz.prog 106 [au s] (.tup [r.v,.int .i64 0])) (c2:av Tryz.prog Γ 107 [.fro (S.map aG.v),r.v,f.v,.int .i64 now] (.tup [c.v,.int .i64 e])) (he:e≠0):aR Tryz.prog Γ 82 [.loc 0 0 0,evV 1 now s f] [rG S L nx p g P U t T] (.int .i64 e) [some (rG S L nx p g P U t T)]:=by
 refine bL af Tryz.func82 rfl Tryz.ntmps82 Tryz.results82 rfl rfl rfl rfl fun N pl=>?_
 repeat' (first|refine zt ?_|(refine isR ?_;first|refine zo ?_|refine zk c1 ?_|refine zk c2 ?_|refine zX ?_)|refine aA [0] ?_ ?_|exact ah)
 all_goals first|rfl|exact .on (.ren rfl) .nil|(exfalso;omega)
theorem Wd (c1:aj Tryz.prog 106 [au s] (.tup [r.v,.int .i64 0])) (c2:av Tryz.prog Γ 107 [.fro (S.map aG.v),r.v,f.v,.int .i64 now] (.tup [c.v,.int .i64 0])) (c3:av Tryz.prog Γ 108 [iZ p,gD g P U,c.v] (.tup [k.v,.int .i64 e])) (he:e≠0):aR Tryz.prog Γ 82 [.loc 0 0 0,evV 1 now s f] [rG S L nx p g P U t T] (.int .i64 e) [some (rG S L nx p g P U t T)]:=by
 refine bL af Tryz.func82 rfl Tryz.ntmps82 Tryz.results82 rfl rfl rfl rfl fun N pl=>?_
 repeat' (first|refine zt ?_|(refine isR ?_;first|refine zo ?_|refine zk c1 ?_|refine zk c2 ?_|refine zk c3 ?_|refine zX ?_)|refine aA [0] ?_ ?_|exact ah)
 all_goals first|rfl|exact .on (.ren rfl) .nil|(exfalso;omega)
theorem UF (c1:aj Tryz.prog 106 [au s] (.tup [r.v,.int .i64 0])) (c2:av Tryz.prog Γ 107 [.fro (S.map aG.v),r.v,f.v,.int .i64 now] (.tup [c.v,.int .i64 0])) (c3:av Tryz.prog Γ 108 [iZ p,gD g P U,c.v] (.tup [k.v,.int .i64 0])) (c4:aj Tryz.prog 109 [dL L nx,k.v,.int .i64 now] (.tup [dL [] 0,.int .i64 e])) (he:e≠0):aR Tryz.prog Γ 82 [.loc 0 0 0,evV 1 now s f] [rG S L nx p g P U t T] (.int .i64 e) [some (rG S [] 0 p g P U t T)]:=by
 refine bL af Tryz.func82 rfl Tryz.ntmps82 Tryz.results82 rfl rfl rfl rfl fun N pl=>?_
 repeat' (first|refine zt ?_|(refine isR ?_;first|refine zo ?_|refine zk c1 ?_|refine zk c2 ?_|refine zk c3 ?_|refine zk c4 ?_|refine zX ?_)|refine aA [0] ?_ ?_|exact ah)
 all_goals first|rfl|exact .on (.ren rfl) .nil|(exfalso;omega)
theorem X7 {M:List ai} (c1:aj Tryz.prog 106 [au s] (.tup [r.v,.int .i64 0])) (c2:av Tryz.prog Γ 107 [.fro (S.map aG.v),r.v,f.v,.int .i64 now] (.tup [c.v,.int .i64 0])) (c3:av Tryz.prog Γ 108 [iZ p,gD g P U,c.v] (.tup [k.v,.int .i64 0])) (c4:aj Tryz.prog 109 [dL L nx,k.v,.int .i64 now] (.tup [dL M n2,.int .i64 0])) (c5:av Tryz.prog Γ 39 [stV S M n2 p g P U t] (dL K n2)):aR Tryz.prog Γ 82 [.loc 0 0 0,evV 1 now s f] [rG S L nx p g P U t T] (.int .i64 0) [some (rG S K n2 p g P U t T)]:=by
 refine bL af Tryz.func82 rfl Tryz.ntmps82 Tryz.results82 rfl rfl rfl rfl fun N pl=>?_
 repeat' (first|refine zt ?_|(refine isR ?_;first|refine zo ?_|refine zk c1 ?_|refine zk c2 ?_|refine zk c3 ?_|refine zk c4 ?_|refine zk c5 ?_|refine zX ?_)|refine aA [0] ?_ ?_|exact ah)
 all_goals first|rfl|exact .on (.ren rfl) .nil|(exfalso;omega)
theorem XW (h:iw L nx c now=0) (hL:∀ x∈L,x.domain.length≤4398046511104) (hc:c.domain.length≤4398046511104):∀ x∈(sV L nx c now).1,x.domain.length≤4398046511104:=fun x hx=>by
 obtain ⟨r1,r2,r3⟩:=xM h
 obtain ⟨d,hd⟩:=Zd.SA r1 r2 r3 (now:=now)
 rcases hd.all x hx with ⟨rfl,_⟩|⟨h1,_⟩
 ·rw [(jg.1 hd.key).2.1];exact hc
 ·exact hL x h1
theorem Z5 (hp:eH p=0) (hg:bD.check g U=0) (hn:isJ now=true) (hd:∀ x∈L,x.domain.length≤4398046511104):∃ (e:Int) (M:List ai) (n2:Int),aR Tryz.prog kJ 82 [.loc 0 0 0,evV 1 now s f] [rG S L nx p g P U t T] (.int .i64 e) [some (rG S M n2 p g P U t T)]∧(e=0→(∀ x∈M,x.domain.length≤4398046511104)∧∃ K,Rj K n2∧M=dm p P U t K):=by
 obtain ⟨r,e1,c1,h1⟩:=VW s
 by_cases z1:e1=0
 ·subst z1
  obtain ⟨c,e2,c2,h2⟩:=Vz (S:=S) (f:=f) (now:=now) (h1 rfl)
  by_cases z2:e2=0
  ·subst z2
   obtain ⟨k1,k2,k3⟩:=h2 rfl
   obtain ⟨k,e3,c3,h3⟩:=Wo (P:=P) hp hg (by rw [k1];exact hn) (Nat.le_trans k3 (by decide))
   by_cases z3:e3=0
   ·subst z3
    by_cases z4:iw L nx k now=0
    ·have hd2:=XW z4 hd (by rw [h3 rfl];exact Nat.le_trans k3 (by decide))
     obtain ⟨r1,r2,r3⟩:=xM z4
     obtain ⟨hr,_⟩:=Rz r1 r2 r3 (now:=now)
     have c5:=mD (S:=S) (nx:=(sV L nx k now).2) (g:=g) (P:=P) (U:=U) (t:=t) (eT hp) hr.len hd2 (yT hr)
     refine ⟨0,_,_,X7 c1 c2 (nE c3) (MF z4) (nE c5),fun _=>⟨fun x hx=>?_,_,hr,rfl⟩⟩
     obtain ⟨y,hy,rfl⟩:=Ku hx
     exact hd2 y hy
    ·exact ⟨_,_,_,UF c1 c2 (nE c3) ((Rm z4).nfd rfl) (by omega),fun h=>absurd h (by omega)⟩
   ·exact ⟨_,_,_,Wd c1 c2 (nE c3) z3,fun h=>absurd h z3⟩
  ·exact ⟨_,_,_,Ua c1 c2 z2,fun h=>absurd h z2⟩
 ·exact ⟨_,_,_,VI c1 z1,fun h=>absurd h z1⟩
theorem Wn (c1:aj Tryz.prog 34 [iZ q] (.int .i64 e)) (he:e≠0):aR Tryz.prog Γ 85 [.loc 0 0 0,evG 4 now [] f0 q] [rG S L nx p g P U t T] (.int .i64 e) [some (rG S L nx p g P U t T)]:=by
 refine bL af Tryz.func85 rfl Tryz.ntmps85 Tryz.results85 rfl rfl rfl rfl fun N pl=>?_
 repeat' (first|refine zt ?_|(refine isR ?_;first|refine zo ?_|refine zk c1 ?_|refine zc6 ?_)|refine aA [0] ?_ ?_|exact ah)
 all_goals first|rfl|exact .on (.ren rfl) .nil|(exfalso;omega)
theorem Uj (c1:aj Tryz.prog 34 [iZ q] (.int .i64 0)) (c2:aj Tryz.prog 79 [.fro (q.rules.map Rule.v)] (.fro (q.rules.map Rule.v))) (c3:av Tryz.prog Γ 39 [stV S L nx q g P U t] (dL K nx)):aR Tryz.prog Γ 85 [.loc 0 0 0,evG 4 now [] f0 q] [rG S L nx p g P U t T] (.int .i64 0) [some (rG S K nx q g P U t T)]:=by
 refine bL af Tryz.func85 rfl Tryz.ntmps85 Tryz.results85 rfl rfl rfl rfl fun N pl=>?_
 repeat' (first|refine zt ?_|(refine isR ?_;first|refine zo ?_|refine zk c1 ?_|refine zk c2 ?_|refine zk c3 ?_|refine zc6 ?_)|refine aA [0] ?_ ?_|exact ah)
 all_goals first|rfl|exact .on (.ren rfl) .nil|(exfalso;omega)
theorem adq (cp:av Tryz.prog Γ 39 [stV S L nx p g P U now] (dL K nx)) (ca:aR Tryz.prog Γ 82 [.loc 0 0 0,evV 1 now s f] [rG S K nx p g P U now T] (.int .i64 e) [some (rG S L2 n2 p g P U now T)]):aR Tryz.prog Γ 45 [.loc 0 0 0,evV 1 now s f] [rG S L nx p g P U t T] (.int .i64 e) [some (rG S L2 n2 p g P U now T)]:=by
 refine bL af Tryz.func45 rfl Tryz.ntmps45 Tryz.results45 rfl rfl rfl rfl fun N pl=>?_
 repeat' (first|refine zt ?_|(refine isR ?_;first|refine zo ?_|refine zk cp ?_|refine eZ [0] [] (ca _) ?_|refine eZ [0] [] (ca) ?_|refine zI ?_)|refine aA [0] ?_ ?_|exact ah)
 all_goals first|rfl|exact .on (.ren rfl) .nil
theorem aap {p2:Pol} (cp:av Tryz.prog Γ 39 [stV S L nx p g P U now] (dL K nx)) (ca:aR Tryz.prog Γ 85 [.loc 0 0 0,evG 4 now [] f0 q] [rG S K nx p g P U now T] (.int .i64 e) [some (rG S L2 nx p2 g P U now T)]):aR Tryz.prog Γ 45 [.loc 0 0 0,evG 4 now [] f0 q] [rG S L nx p g P U t T] (.int .i64 e) [some (rG S L2 nx p2 g P U now T)]:=by
 refine bL af Tryz.func45 rfl Tryz.ntmps45 Tryz.results45 rfl rfl rfl rfl fun N pl=>?_
 repeat' (first|refine zt ?_|(refine isR ?_;first|refine zo ?_|refine zk cp ?_|refine eZ [0] [] (ca _) ?_|refine eZ [0] [] (ca) ?_|refine zI ?_)|refine aA [0] ?_ ?_|exact ah)
 all_goals first|rfl|exact .on (.ren rfl) .nil
end YK
namespace acn
open Go.RowKit Mem Abs eO cu gV dV Rdy Scan fI gF iG iP iQ kY EO nu oZ qW uR yh yO Aq RjP Aw Cy EW NN Wt YK QK UI nP nA mZ Both
open lG (gD gu)
variable {U2:List Int} {g2 nx2 g n t2:Int} {P2:Nat→Bool} {t:Int} {P:Nat→Bool} {Γ:iI} {T:List UInt8} {L2:List ai} {e:Int} {q:Pol} {k:Int} {S2:List aG} {f:From} {nx:Int} {s:List UInt8} {p:Pol} {U:List Int} {p2:Pol} {now:Int} {L:List ai} {S:List aG}
theorem Ro (ce:aj Tryz.prog 43 [evG k now s f q] (.int .i64 0)) (hn:isJ now=true) (ht:t≤now) (co:aj Tryz.prog 44 [stV S L nx p g P U t] (stV S L nx p g P U t)) (cd:aR Tryz.prog Γ 45 [.loc 0 0 0,evG k now s f q] [rG S L nx p g P U t []] (.int .i64 0) [some (rG S2 L2 nx2 p2 g2 P2 U2 t2 T)]):
  av Tryz.prog Γ 16 [stV S L nx p g P U t,evG k now s f q] (.tup [stV S2 L2 nx2 p2 g2 P2 U2 t2,au T,.int .i64 0]):=by
 have c1:=qP (n:=now)
 rw [hn] at c1
 refine gQ af Tryz.func16 rfl Tryz.ntmps16 Tryz.results16 rfl fun N=>?_
 repeat' (first|refine zt ?_|(refine isR ?_;first|refine dQ [28] af rfl ?_|refine zn ?_|refine zk ce ?_|refine zk c1 ?_|refine zk co ?_|refine x_m [1] [] (cd _) ?_|refine x_m [1] [] (cd) ?_|refine zX ?_)|refine zr ?_|exact ah)
 all_goals first|rfl|(exfalso;omega)
theorem NS (ce:aj Tryz.prog 43 [evG k now s f q] (.int .i64 0)) (hn:isJ now=true) (ht:t≤now) (co:aj Tryz.prog 44 [stV S L nx p g P U t] (stV S L nx p g P U t)) (cd:aR Tryz.prog Γ 45 [.loc 0 0 0,evG k now s f q] [rG S L nx p g P U t []] (.int .i64 e) [some (rG S2 L2 nx2 p2 g2 P2 U2 t2 T)]) (he:e≠0):
  av Tryz.prog Γ 16 [stV S L nx p g P U t,evG k now s f q] (.tup [st0,au [],.int .i64 e]):=by
 have c1:=qP (n:=now)
 rw [hn] at c1
 refine gQ af Tryz.func16 rfl Tryz.ntmps16 Tryz.results16 rfl fun N=>?_
 repeat' (first|refine zt ?_|(refine isR ?_;first|refine dQ [28] af rfl ?_|refine zn ?_|refine zk ce ?_|refine zk c1 ?_|refine zk co ?_|refine x_m [1] [] (cd _) ?_|refine x_m [1] [] (cd) ?_|refine zX ?_)|refine zr ?_|exact ah)
 all_goals first|rfl|(exfalso;omega)
theorem Rx {c:Int} (ce:aj Tryz.prog 43 [evG k now s f q] (.int .i64 c)) (h:¬ (c=0∧isJ now=true∧t≤now)) (co:aj Tryz.prog 44 [stV S L nx p g P U t] (stV S L nx p g P U t)):
  ∃ e,e≠0∧av Tryz.prog Γ 16 [stV S L nx p g P U t,evG k now s f q] (.tup [st0,au [],.int .i64 e]):=by
 have c1:=qP (n:=now)
 by_cases h1:c=0
 ·subst h1
  cases hn:isJ now with
  | false =>
   rw [hn] at c1
   refine ⟨3,by decide,?_⟩
   refine gQ af Tryz.func16 rfl Tryz.ntmps16 Tryz.results16 rfl fun N=>?_
   repeat' (first|refine zt ?_|(refine isR ?_;first|refine dQ [28] af rfl ?_|refine zn ?_|refine zk ce ?_|refine zk c1 ?_|refine zk co ?_|refine zX ?_)|refine zr ?_|exact ah)
   all_goals first|rfl|(exfalso;omega)
  | true =>
   rw [hn] at c1
   have ht:now<t:=by
    have:¬ t≤now:=fun h2=>h ⟨rfl,hn,h2⟩
    omega
   refine ⟨4,by decide,?_⟩
   refine gQ af Tryz.func16 rfl Tryz.ntmps16 Tryz.results16 rfl fun N=>?_
   repeat' (first|refine zt ?_|(refine isR ?_;first|refine dQ [28] af rfl ?_|refine zn ?_|refine zk ce ?_|refine zk c1 ?_|refine zk co ?_|refine zX ?_)|refine zr ?_|exact ah)
   all_goals first|rfl|(exfalso;omega)
 ·refine ⟨c,h1,?_⟩
  refine gQ af Tryz.func16 rfl Tryz.ntmps16 Tryz.results16 rfl fun N=>?_
  repeat' (first|refine zt ?_|(refine isR ?_;first|refine dQ [28] af rfl ?_|refine zn ?_|refine zk ce ?_|refine zk co ?_|refine zX ?_)|refine zr ?_|exact ah)
  all_goals first|rfl|(exfalso;omega)
theorem acj {n2:Int} (c1:av Tryz.prog Γ 12 [stV S L nx p g P U t] (.int .i64 0)) (c2:av Tryz.prog Γ 16 [stV S L nx p g P U t,evG k now s f q] (.tup [stV S2 L2 n2 p2 g2 P2 U2 t2,au T,.int .i64 e])):
  av Tryz.prog Γ 6 [stV S L nx p g P U t,evG k now s f q] (.tup [stV S2 L2 n2 p2 g2 P2 U2 t2,au T,.int .i64 e]):=by
 refine gQ af Tryz.func6 rfl Tryz.ntmps6 Tryz.results6 rfl fun N=>?_
 repeat' (first|refine zt ?_|(refine isR ?_;first|refine zo ?_|refine zk c1 ?_|refine zk c2 ?_|refine zc6 ?_)|refine zr ?_|exact ah)
 all_goals first|rfl|(exfalso;omega)
theorem Sc (c1:av Tryz.prog Γ 12 [stV S L nx p g P U t] (.int .i64 e)) (he:e≠0):
  av Tryz.prog Γ 6 [stV S L nx p g P U t,evG k now s f q] (.tup [st0,au [],.int .i64 e]):=by
 refine gQ af Tryz.func6 rfl Tryz.ntmps6 Tryz.results6 rfl fun N=>?_
 repeat' (first|refine zt ?_|(refine isR ?_;first|refine zo ?_|refine zk c1 ?_|refine zc6 ?_)|refine zr ?_|exact ah)
 all_goals first|rfl|(exfalso;omega)
theorem R8 (h:n≤now) (L:List ai):aI now (aI n L)=aI now L:=by
 unfold aI
 rw [List.filter_filter]
 apply List.filter_congr
 intro c _
 by_cases h1:now<c.expiry
 ·rw [decide_eq_true h1,decide_eq_true (by omega:n<c.expiry)];rfl
 ·rw [decide_eq_false h1];rfl
theorem Z0 (h:OkS S L nx p g P U t) (hn:isJ n=true):OkS S (aI n L) nx p g P U n :=
 ⟨h.suf,DW h.jar,h.pol,h.con,hn,by
  rw [tV fun c hc=>⟨(mP h.kept c ((xQ n L).subset hc)).1,(mP h.kept c ((xQ n L).subset hc)).2.1⟩]
  exact R8 (Int.le_refl n) L⟩
theorem YA (h:OkS S L nx p g P U t):u7 S L nx p g P U t=0:=by
 unfold u7
 rw [if_neg (fun e=>e h.suf),if_neg (fun e=>e h.jar),if_neg (fun e=>e h.pol),if_neg (fun e=>e h.con),if_neg (by rw [h.day];decide),if_pos h.kept]
end acn
namespace adI
open Go.RowKit Mem Abs Scan fI gF iG iP iQ kY IL JU nu Uw EO oZ Kc M9 Oq qW Sz Zd ET abU Rdy eO nP nH nR
variable {now:Int} {g:ai→Bool}
theorem OZ (x y:ai):bq (jk g now x) y=bq x y:=by
 unfold jk
 split<;>rfl
theorem Rc {L:List ai} {nx:Int} (h:Rj L nx) (hn:isJ now=true):Rj (L.map (jk g now)) nx where
 len:=by rw [List.length_map];exact h.len
 mom c hc:=by
  obtain ⟨x,hx,rfl⟩:=List.mem_map.1 hc
  have:=h.mom x hx
  unfold jk
  split
  ·unfold kF at this ⊢
   dsimp only
   rw [hn]
   cases hq:isJ x.created with
   | true=>rfl
   | false=>rw [hq] at this;cases this
  ·exact this
 no c hc:=by
  obtain ⟨x,hx,rfl⟩:=List.mem_map.1 hc
  have:=h.no x hx
  unfold jk
  split<;>exact this
 dis:=by
  rw [List.pairwise_map]
  refine h.dis.imp fun {a b} hab=>?_
  rw [OZ,ja,OZ,ja]
  refine ⟨hab.1,?_⟩
  unfold jk
  split<;>split<;>exact hab.2
 per d:=by
  rw [List.countP_map]
  have:((fun c:ai=>decide (c.domain=d)) ∘ jk g now)=fun c=>decide (c.domain=d):=by
   funext x
   unfold jk
   dsimp only [Function.comp]
   split<;>rfl
  rw [this]
  exact h.per d
 nx:=h.nx
end adI
namespace adG
open Go.RowKit Mem Abs eO cu gV dV Rdy Scan bH fI gF iG iP iQ kY EO nu oZ qW uR yh yO Aq RjP Aw Cy EW NN Wt YK acn QK UI nP nA mZ Both
open lG (gD gu)
variable {n:Int} {p:Pol} {r:Rule} {c:ai}
theorem XE:isJ n=true ↔ -11644473600≤n∧n≤253402300799:=by unfold isJ;simp
theorem Yl {s:Int} (h:isJ n=true) (h1:1≤s) (h2:s≤1000000000):aj Tryz.prog 26 [.int .i64 n,.int .i64 s] (.tup [.int .i64 (fV n s),.int .i64 0]):=by
 have c1:=iG.Nw (n:=n)
 rw [h] at c1
 obtain ⟨k1,k2⟩:=XE.1 h
 unfold fV
 by_cases h3:s<253402300799-n
 ·rw [if_pos h3]
  refine aW af Tryz.func26 rfl Tryz.ntmps26 Tryz.results26 rfl fun N=>?_
  repeat' (first|refine zt ?_|(refine isR ?_;first|refine zo ?_|refine zk c1 ?_|refine zX ?_)|refine zr ?_|exact ah)
  all_goals first|rfl|(exfalso;omega)
 ·rw [if_neg h3,show n+(253402300799-n)=253402300799 by omega]
  by_cases h4:253402300799-n<s
  ·refine aW af Tryz.func26 rfl Tryz.ntmps26 Tryz.results26 rfl fun N=>?_
   repeat' (first|refine zt ?_|(refine isR ?_;first|refine zo ?_|refine zk c1 ?_|refine zX ?_)|refine zr ?_|exact ah)
   all_goals first|rfl|(exfalso;omega)
  ·have e:n+s=253402300799:=by omega
   refine aW af Tryz.func26 rfl Tryz.ntmps26 Tryz.results26 rfl fun N=>?_
   repeat' (first|refine zt ?_|(refine isR ?_;first|refine zo ?_|refine zk c1 ?_|refine zX ?_)|refine zr ?_|exact ah)
   all_goals first|rfl|(exfalso;omega)
theorem VO {l m:List UInt8}:aj Tryz.prog 89 [au l,au m] (.bool (pre l m)):=aj.lim fun hl=>by
 obtain ⟨h1,hl⟩:=bH.gK hl
 obtain ⟨h2,_⟩:=bH.gK hl
 unfold pre
 by_cases h0:m.length≤l.length
 ·have e0:l.take ((m.length:Int)).toNat=l.take m.length:=rfl
  by_cases h:l.take ((m.length:Int)).toNat=m
  ·rw [decide_eq_true (show l.take m.length=m from h)]
   refine aW af Tryz.func89 rfl Tryz.ntmps89 Tryz.results89 rfl fun N=>?_
   repeat' (first|refine zt ?_|(refine isR ?_;first|refine zo ?_|refine zX ?_)|refine zr ?_|exact ah)
   rfl
  ·rw [decide_eq_false (show ¬ l.take m.length=m from h)]
   refine aW af Tryz.func89 rfl Tryz.ntmps89 Tryz.results89 rfl fun N=>?_
   repeat' (first|refine zt ?_|(refine isR ?_;first|refine zo ?_|refine zX ?_)|refine zr ?_|exact ah)
   rfl
 ·have h:¬ l.take m.length=m:=fun e=>by
   have:=congrArg List.length e
   simp at this;omega
  rw [decide_eq_false h]
  refine aW af Tryz.func89 rfl Tryz.ntmps89 Tryz.results89 rfl fun N=>?_
  repeat' (first|refine zt ?_|(refine isR ?_;first|refine zo ?_|refine zX ?_)|refine zr ?_|exact ah)
  rfl
theorem QE (hk:1≤r.kind∧r.kind≤4) (ht:r.text.length≤400) (hd:c.domain.length≤4398046511104):aj Tryz.prog 55 [r.v,c.v] (.bool (jB r c)):=aj.lim fun hl=>by
 have hn:c.name.length≤4611686018427387904:=(bH.gK hl.2.1).1
 have c1:=VO (l:=c.name) (m:=r.text)
 have c2:=RJ (l:=c.domain) (m:=r.text) hd (by omega)
 clear hl
 unfold jB
 by_cases h1:r.kind=1
 ·rw [if_pos h1]
  by_cases h:c.name=r.text
  ·rw [decide_eq_true h]
   refine aW af Tryz.func55 rfl Tryz.ntmps55 Tryz.results55 rfl fun N=>?_
   repeat' (first|refine zt ?_|(refine isR ?_;first|refine zo ?_|refine zX ?_)|refine zr ?_|exact ah)
   all_goals first|rfl|(exfalso;omega)
  ·rw [decide_eq_false h]
   refine aW af Tryz.func55 rfl Tryz.ntmps55 Tryz.results55 rfl fun N=>?_
   repeat' (first|refine zt ?_|(refine isR ?_;first|refine zo ?_|refine zX ?_)|refine zr ?_|exact ah)
   all_goals first|rfl|(exfalso;omega)
 rw [if_neg h1]
 by_cases h2:r.kind=2
 ·rw [if_pos h2]
  refine aW af Tryz.func55 rfl Tryz.ntmps55 Tryz.results55 rfl fun N=>?_
  repeat' (first|refine zt ?_|(refine isR ?_;first|refine zo ?_|refine zk c1 ?_|refine zX ?_)|refine zr ?_|exact ah)
  all_goals first|rfl|(exfalso;omega)
 rw [if_neg h2]
 by_cases h3:r.kind=3
 ·rw [if_pos h3]
  unfold qI
  by_cases hq:r.text.length≤c.name.length
  ·rw [decide_eq_true hq,Bool.true_and]
   have ek:((c.name.length:Int)-(r.text.length:Int)).toNat=c.name.length-r.text.length:=by omega
   by_cases h:c.name.drop ((c.name.length:Int)-(r.text.length:Int)).toNat=r.text
   ·rw [show (c.name.drop (c.name.length-r.text.length)==r.text)=true by rw [← ek,h];simp]
    refine aW af Tryz.func55 rfl Tryz.ntmps55 Tryz.results55 rfl fun N=>?_
    repeat' (first|refine zt ?_|(refine isR ?_;first|refine zo ?_|refine zX ?_)|refine zr ?_|exact ah)
    all_goals first|rfl|(exfalso;omega)
   ·rw [show (c.name.drop (c.name.length-r.text.length)==r.text)=false by rw [← ek];simpa using h]
    refine aW af Tryz.func55 rfl Tryz.ntmps55 Tryz.results55 rfl fun N=>?_
    repeat' (first|refine zt ?_|(refine isR ?_;first|refine zo ?_|refine zX ?_)|refine zr ?_|exact ah)
    all_goals first|rfl|(exfalso;omega)
  ·rw [decide_eq_false hq,Bool.false_and]
   refine aW af Tryz.func55 rfl Tryz.ntmps55 Tryz.results55 rfl fun N=>?_
   repeat' (first|refine zt ?_|(refine isR ?_;first|refine zo ?_|refine zX ?_)|refine zr ?_|exact ah)
   all_goals first|rfl|(exfalso;omega)
 rw [if_neg h3]
 have h4:r.kind=4:=by omega
 refine aW af Tryz.func55 rfl Tryz.ntmps55 Tryz.results55 rfl fun N=>?_
 repeat' (first|refine zt ?_|(refine isR ?_;first|refine zo ?_|refine zk c2 ?_|refine zX ?_)|refine zr ?_|exact ah)
 all_goals first|rfl|(exfalso;omega)
theorem Bz:∀ {l:List Rule},kg l=0→∀ r∈l,iU r=0
 | [],_,r,hr=>by cases hr
 | a::l,h,r,hr=>by
  rw [kg] at h
  split at h
  ·rename_i h0
   rcases List.mem_cons.1 hr with rfl|hr
   ·exact h0
   ·exact Bz h r hr
  ·rename_i h0;exact absurd h h0
theorem Zw (h:iU r=0):r.text≠[]∧(r.kind=4→bR r.text=true)∧0≤r.vendor∧r.vendor≤40:=by
 unfold iU at h
 split at h
 ·cases h
 ·split at h
  ·cases h
  ·split at h
   ·cases h
   ·rename_i h1 h2 h3
    refine ⟨fun e=>h2 (.inl e),fun e=>?_,by omega,by omega⟩
    cases hq:bR r.text with
    | true=>rfl
    | false=>exact absurd (.inr (.inr ⟨e,hq⟩)) h2
theorem Mr (h:eH p=0):aj Tryz.prog 24 [iZ p] (.int .i64 0):=by
 have ok:=eT h
 have hlen:=ok.len
 have hml:(p.rules.map Rule.v).length=p.rules.length:=List.length_map _
 have hd:=ok.dflt
 have hrs:∀ r∈p.rules,iU r=0:=Bz (by
  unfold eH at h
  split at h
  ·cases h
  ·split at h
   ·rename_i h1 h2;exact absurd h h2
   ·rename_i h1 h2;simpa using h2)
 have q0:=ok.caps 0 (by decide)
 have q1:=ok.caps 1 (by decide)
 have q2:=ok.caps 2 (by decide)
 have q3:=ok.caps 3 (by decide)
 have q4:=ok.caps 4 (by decide)
 have q5:=ok.caps 5 (by decide)
 have q6:=ok.caps 6 (by decide)
 have q7:=ok.caps 7 (by decide)
 have q8:=ok.caps 8 (by decide)
 have q9:=ok.caps 9 (by decide)
 have q10:=ok.caps 10 (by decide)
 have hk:=ok.rules
 clear h ok
 refine aU af Tryz.func24 rfl Tryz.ntmps24 Tryz.results24 rfl fun N=>?_
 repeat' (first|refine zt ?_|(refine isR ?_;first|refine zo ?_|refine zX ?_)|refine zr ?_|exact ah)
 all_goals first|(exfalso;omega)|skip
 refine bE (fun k=>⟨[(1,.fp (V.cells (iZ p)) 0),(3,nV k)],[],0,93⟩) (fun k=>k≤p.rules.length) p.rules.length 0 (by exact ah) (Nat.zero_le _) ?_
 intro k hk1
 by_cases hk2:k<p.rules.length
 ·have hx:p.rules[k]? = some p.rules[k]:=by simp [hk2]
  obtain ⟨r1,r2,r3,r4⟩:=Zw (hrs _ (List.getElem_mem hk2))
  obtain ⟨⟨r5,r6⟩,r7,r8,r9⟩:=hk _ (List.getElem_mem hk2)
  generalize p.rules[k]=r at *
  have hm:=bT (f:=Rule.v) hx
  have r1:r.text.length≠0:=fun e=>r1 (List.length_eq_zero_iff.1 e)
  by_cases h4:r.kind=4
  ·have c1:=Rdy.VZ (l:=r.text)
   rw [r2 h4] at c1
   repeat' (first|refine zt ?_|(refine isR ?_;first|refine zo ?_|refine zk c1 ?_|refine zX ?_)|refine zr ?_|exact ah)
   all_goals first|(exfalso;omega)|skip
   exact ⟨by omega,hk2,(by exact ah)⟩
  ·repeat' (first|refine zt ?_|(refine isR ?_;first|refine zo ?_|refine zX ?_)|refine zr ?_|exact ah)
   all_goals first|(exfalso;omega)|skip
   exact ⟨by omega,hk2,(by exact ah)⟩
 ·obtain rfl:k=p.rules.length:=by omega
  repeat' (first|with_reducible refine aP ?_|with_reducible refine aO 12 ?_|refine zt ?_|(refine isR ?_;first|refine zo ?_|refine zX ?_)|refine zr ?_|exact ah)
  all_goals first|rfl|(exfalso;omega)
def xZ (l:List Rule) (d:Int) (c:ai):Int × Int:=match l.find? (fun r=>jB r c) with
 | some r=>(r.purpose,r.vendor)
 | none=>(d,0)
theorem Tx {l:List Rule} {d:Int} {k:Nat} (h:l[k]? = some r):xZ (l.drop k) d c=if jB r c=true then (r.purpose,r.vendor) else xZ (l.drop (k+1)) d c:=by
 unfold xZ
 rw [drop_at h,List.find?_cons]
 cases jB r c<;>rfl
theorem Un (h:OkP p) (hd:c.domain.length≤4398046511104):aj Tryz.prog 25 [iZ p,c.v] (.tup [.int .i64 (je p c).1,.int .i64 (je p c).2]):=by
 have hml:(p.rules.map Rule.v).length=p.rules.length:=List.length_map _
 have hlen:=h.len
 have hF:xZ (p.rules.drop 0) p.dflt c=je p c:=by rw [List.drop_zero];rfl
 have h0:xZ (p.rules.drop (p.rules.length-0)) p.dflt c=(p.dflt,0):=by rw [Nat.sub_zero,List.drop_length];rfl
 have hs:((p.rules.map Rule.v).length:Int)-1=((p.rules.map Rule.v).length:Int)-1-((0:Nat):Int):=by omega
 generalize je p c=F at *
 refine aW af Tryz.func25 rfl Tryz.ntmps25 Tryz.results25 rfl fun N=>?_
 repeat' (first|refine zt ?_|(refine isR ?_;first|refine zo ?_|refine zX ?_)|refine zr ?_|exact ah)
 all_goals first|(exfalso;omega)|skip
 refine bE (fun j=>⟨[(2,.fp (V.cells (iZ p)) 0),(3,.fp (V.cells c.v) 0),(6,.int .i64 (xZ (p.rules.drop (p.rules.length-j)) p.dflt c).1),(7,.int .i64 (xZ (p.rules.drop (p.rules.length-j)) p.dflt c).2),(8,.int .i64 (((p.rules.map Rule.v).length:Int)-1-(j:Int)))],[],0,40⟩) (fun j=>j≤p.rules.length) p.rules.length 0 ?_ (Nat.zero_le _) ?_
 ·dsimp only
  rw [h0]
  exact (by exact ah)
 intro j hj
 by_cases hj2:j<p.rules.length
 ·have hk2:p.rules.length-(j+1)<p.rules.length:=by omega
  have hx:p.rules[p.rules.length-(j+1)]? = some p.rules[p.rules.length-(j+1)]:=by simp [hk2]
  have hr:=h.rules _ (List.getElem_mem hk2)
  have c1:=QE (c:=c) hr.kind hr.text hd
  have hon:=Tx (d:=p.dflt) (c:=c) hx
  generalize p.rules[p.rules.length-(j+1)]=r at *
  have hx2:p.rules[(((p.rules.map Rule.v).length:Int)-1-(j:Int)).toNat]? = some r:=by rw [← hx];congr 1;omega
  have hm:=bT (f:=Rule.v) hx2
  rw [show p.rules.length-(j+1)+1=p.rules.length-j by omega] at hon
  have hs2:((p.rules.map Rule.v).length:Int)-1-(j:Int)-1=((p.rules.map Rule.v).length:Int)-1-((j+1:Nat):Int):=by omega
  rw [hon]
  cases hq:jB r c with
  | true =>
   rw [hq] at c1
   rw [if_pos rfl]
   generalize xZ (p.rules.drop (p.rules.length-j)) p.dflt c=G at *
   repeat' (first|refine zt ?_|(refine isR ?_;first|refine zo ?_|refine zk c1 ?_|refine zX ?_)|refine zr ?_|exact ah)
   all_goals first|(exfalso;omega)|skip
   exact ⟨by omega,hj2,(by exact ah)⟩
  | false =>
   rw [hq] at c1
   rw [if_neg (by decide)]
   generalize xZ (p.rules.drop (p.rules.length-j)) p.dflt c=G at *
   repeat' (first|refine zt ?_|(refine isR ?_;first|refine zo ?_|refine zk c1 ?_|refine zX ?_)|refine zr ?_|exact ah)
   all_goals first|(exfalso;omega)|skip
   exact ⟨by omega,hj2,(by exact ah)⟩
 ·obtain rfl:j=p.rules.length:=by omega
  rw [Nat.sub_self,hF]
  repeat' (first|refine zt ?_|(refine isR ?_;first|refine zo ?_|refine zX ?_)|refine zr ?_|exact ah)
  all_goals first|rfl|(exfalso;omega)
theorem SY (h:eH p=0) (hd:c.domain.length≤4398046511104) (hc:isJ c.created=true):aj Tryz.prog 9 [iZ p,c.v] (.tup [.int .i64 (vG p c),.int .i64 0]):=by
 have ok:=eT h
 have c1:=Mr h
 have c2:=Un ok hd
 obtain ⟨h1,h2⟩:=AQ ok c
 have hb:=ok.caps (je p c).1.toNat (by omega)
 have hq:=UC (p:=p) h1 h2
 unfold vG
 generalize je p c=K at *
 have c3:=Yl hc hb.1 hb.2
 generalize fV c.created (p.caps K.1.toNat)=r at *
 refine aW af Tryz.func9 rfl Tryz.ntmps9 Tryz.results9 rfl fun N=>?_
 repeat' (first|refine zt ?_|(refine isR ?_;first|refine zo ?_|refine zk c1 ?_|refine zk c2 ?_|refine Ld af hq ?_|refine zk c3 ?_|refine zX ?_)|refine zr ?_|exact ah)
 all_goals first|rfl|(exfalso;omega)
end adG
end Go.Proofs.YtlfdjpgghiemfaaGreatDoor
