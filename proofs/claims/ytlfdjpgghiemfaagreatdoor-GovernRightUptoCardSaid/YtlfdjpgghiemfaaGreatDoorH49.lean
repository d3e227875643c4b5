/- Texts of the proof, joined: GovS. -/
import Derived.Test.YtlfdjpgghiemfaaGreatDoorH48
set_option maxHeartbeats 4000000
set_option maxRecDepth 100000
namespace Go.Proofs.YtlfdjpgghiemfaaGreatDoor
namespace adL
open Go.RowKit Mem Abs eO cu gV dV Rdy Scan bH fI gF iG iP iQ kY JU EO nu oZ qW M9 uR yh yO Aq RjP Aw Cy EW NN Wt YK adG acn QK UI nP nA mZ Both
open lG (gD gu wD)
variable {g t:Int} {P:Nat→Bool} {f:From} {now nx:Int} {L:List ai} {s:List UInt8} {e:Int} {q:Pol} {S:List aG} {p:Pol} {U:List Int} {k:Int}
theorem Di (p:Pol) (P:Nat→Bool) (U:List Int) (now:Int):∀ L:List ai,dm p P U now L=(L.filter fun c=>jd p P U c&&decide (now<(bM p c).expiry)).map (bM p)
 | []=>rfl
 | c::L=>by
  rw [yQ,Di p P U now L,List.filter_cons]
  by_cases h:jd p P U c=true∧now<(bM p c).expiry
  ·rw [if_pos h,if_pos (by rw [h.1,decide_eq_true h.2];rfl)];rfl
  ·rw [if_neg h,if_neg (fun e=>h (by simpa using e))];rfl
theorem OE (h:Rj L nx):Rj (dm p P U now L) nx:=by
 rw [Di]
 have hs:=Rj.sub h (List.filter_sublist (p:=fun c=>jd p P U c&&decide (now<(bM p c).expiry)))
 generalize (L.filter fun c=>jd p P U c&&decide (now<(bM p c).expiry))=M at *
 exact {
  len:=by rw [List.length_map];exact hs.len
  mom:=fun c hc=>by
   obtain ⟨x,hx,rfl⟩:=List.mem_map.1 hc
   exact hs.mom x hx
  no:=fun c hc=>by
   obtain ⟨x,hx,rfl⟩:=List.mem_map.1 hc
   exact hs.no x hx
  dis:=hs.dis.map (bM p) fun a b hab=>hab
  per:=fun d=>by
   rw [List.countP_map]
   exact hs.per d
  nx:=hs.nx }
theorem Kz (p:Pol) (c:ai):bM p (bM p c)=bM p c:=by
 have h:vG p (bM p c)=vG p c:=rfl
 unfold bM at h ⊢
 rw [h]
 dsimp only
 by_cases h1:vG p c<c.expiry
 ·rw [if_pos h1,if_neg (Int.lt_irrefl _)]
 ·rw [if_neg h1,if_neg h1]
theorem Xo {x:ai} (h:x∈dm p P U now L):jd p P U x=true∧bM p x=x∧now<x.expiry:=by
 rw [Di] at h
 obtain ⟨c,hc,rfl⟩:=List.mem_map.1 h
 have h2:=(List.mem_filter.1 hc).2
 rw [Bool.and_eq_true,decide_eq_true_eq] at h2
 exact ⟨h2.1,Kz p c,h2.2⟩
theorem FX (h:∀ x∈L,jd p P U x=true∧bM p x=x∧now<x.expiry):dm p P U now L=L:=by
 rw [tV fun c hc=>⟨(h c hc).1,(h c hc).2.1⟩]
 unfold aI
 exact List.filter_eq_self.2 fun c hc=>decide_eq_true (h c hc).2.2
theorem I7 (h1:fQ.bA S=0) (h2:Rj L nx) (h3:eH p=0) (h4:bD.check g U=0) (h5:isJ t=true):OkS S (dm p P U t L) nx p g P U t :=
 ⟨h1,dx.2 (OE h2),h3,h4,h5,FX fun _ hx=>Xo hx⟩
theorem NF {c:ai} {n:Int} (h:bM p c=c):bM p { c with used:=n } = { c with used:=n }:=by
 have e:bM p { c with used:=n } = { bM p c with used:=n }:=rfl
 rw [e,h]
theorem SL (h:OkS S L nx p g P U t) (q:ai→Bool):OkS S (L.map (jk q t)) nx p g P U t :=
 ⟨h.suf,dx.2 (adI.Rc (dx.1 h.jar) h.day),h.pol,h.con,h.day,FX fun x hx=>by
  obtain ⟨c,hc,rfl⟩:=List.mem_map.1 hx
  obtain ⟨h1,h2,h3⟩:=mP h.kept c hc
  unfold jk
  split
  ·exact ⟨(RV p P U c t).trans h1,NF h2,h3⟩
  ·exact ⟨h1,h2,h3⟩⟩
theorem Ih (hs:s.length≤1048576):∃ (g2:Int) (P2:Nat→Bool) (U2:List Int) (e:Int),aj Tryz.prog 112 [au s] (.tup [gD g2 P2 U2,.int .i64 e])∧(e=0→bD.check g2 U2=0):=by
 have h:=ab3.DY (t:=s) (by omega)
 unfold ab3.rdV at h
 by_cases h0:(E8.o9 s).2.2.2=0
 ·rw [if_pos h0,wD] at h
  exact ⟨_,_,_,_,h,fun _=>(E8.LZ h0).1⟩
 ·rw [if_neg h0] at h
  exact ⟨0,fun _=>false,[],_,h.nfd rfl,fun e=>absurd e (by omega)⟩
abbrev Dom (L:List ai):Prop:=∀ x∈L,x.domain.length≤4398046511104
theorem JG (h:Dom L):Dom (dm p P U now L):=fun x hx=>by
 obtain ⟨c,hc,rfl⟩:=Ku hx
 exact h c hc
theorem Uy {E:Abs.V} (nm:Named E k now) (h:OkS S L nx p g P U t) (hs:jI L) (hn:isJ now=true):
  ∃ (e:Int) (L2:List ai) (nx2:Int) (p2:Pol) (g2:Int) (P2:Nat→Bool) (U2:List Int) (T:List UInt8),aR Tryz.prog kJ 45 [.loc 0 0 0,E] [rG S L nx p g P U t []] (.int .i64 e) [some (rG S L2 nx2 p2 g2 P2 U2 now T)]∧(e=0→OkS S L2 nx2 p2 g2 P2 U2 now∧Dom L2):=by
 have cp:=nE (yY h hs now)
 have ok:=Z0 h hn
 have hr:gF.Rj (aI now L) nx:=dx.1 ok.jar
 have hd:Dom (aI now L):=(hs.live now).dom
 cases nm with
 | set now s f =>
  obtain ⟨e,M,n2,hm,hk⟩:=Z5 (S:=S) (L:=aI now L) (nx:=nx) (t:=now) (s:=s) (T:=[]) (f:=f) h.pol h.con hn hd
  refine ⟨e,M,n2,p,g,P,U,[],adq cp hm,fun he=>?_⟩
  obtain ⟨h1,K,hK,rfl⟩:=hk he
  exact ⟨I7 h.suf hK h.pol h.con hn,h1⟩
 | ask now f =>
  by_cases h4:gq f now=0
  ·have cg:=Tg (L:=aI now L) (nx:=nx) (f:=f) (fun c hc=>by have:=hd c hc;omega) ok.jar h4
   have cw:=Xg.Ph (CB (f:=f) (now:=now) (hs.live now) hr.len)
   refine ⟨0,_,_,p,g,P,U,_,V9 cp (Pg (nE cg) cw),fun _=>⟨SL ok _,fun x hx=>?_⟩⟩
   obtain ⟨c,hc,rfl⟩:=List.mem_map.1 hx
   unfold jk
   split<;>exact hd c hc
  ·have c1:=og (L:=aI now L) (nx:=nx)
   rw [ok.jar] at c1
   have cg:=Md c1 (wH (f:=f) (now:=now)) h4
   exact ⟨_,_,_,p,g,P,U,[],V9 cp (YZ (cg kJ) h4),fun he=>absurd he h4⟩
 | give now s hz =>
  obtain ⟨g2,P2,U2,e,cr,hc⟩:=Ih hz
  by_cases he:e=0
  ·subst he
   by_cases hg:g≤g2
   ·have cp2:=mD (S:=S) (nx:=nx) (g:=g2) (P:=P2) (U:=U2) (t:=now) (eT h.pol) hr.len hd (yT hr)
    exact ⟨0,_,_,p,g2,P2,U2,[],WV cp (V5 cr hg (nE cp2)),fun _=>⟨I7 h.suf hr h.pol (hc rfl) hn,JG hd⟩⟩
   ·exact ⟨4,_,_,p,g,P,U,[],WV cp (NC cr (by omega)),fun e=>by cases e⟩
  ·exact ⟨e,_,_,p,g,P,U,[],WV cp (Tf cr he),fun e=>absurd e he⟩
 | rule now q =>
  have c1:=BK (p:=q)
  by_cases hq:eH q=0
  ·rw [hq] at c1
   have hlen:=(eT hq).len
   have cp2:=mD (S:=S) (nx:=nx) (g:=g) (P:=P) (U:=U) (t:=now) (eT hq) hr.len hd (yT hr)
   exact ⟨0,_,_,q,g,P,U,[],aap cp (Uj c1 (xB (fun _=>rfl) (Lg (by omega))) (nE cp2)),fun _=>⟨I7 h.suf hr hq h.con hn,JG hd⟩⟩
  ·exact ⟨_,_,_,p,g,P,U,[],aap cp (Wn c1 (by omega)),fun e=>absurd e (by omega)⟩
 | tick now=>exact ⟨0,_,_,p,g,P,U,[],aan cp,fun _=>⟨ok,hd⟩⟩
theorem OV {Γ:iI} (c1:av Tryz.prog Γ 12 [stV S L nx p g P U t] (.int .i64 0)) (c2:av Tryz.prog Γ 16 [stV S L nx p g P U t,evG k now s f q] (.tup [st0,au [],.int .i64 e])):
  av Tryz.prog Γ 6 [stV S L nx p g P U t,evG k now s f q] (.tup [st0,au [],.int .i64 e]):=by
 refine gQ af Tryz.func6 rfl Tryz.ntmps6 Tryz.results6 rfl fun N=>?_
 repeat' (first|refine zt ?_|(refine isR ?_;first|refine zo ?_|refine zk c1 ?_|refine zk c2 ?_|refine zc6 ?_)|refine zr ?_|exact ah)
 all_goals first|rfl|(exfalso;omega)
theorem Ub:aj Tryz.prog 8 [st0,st0] (.bool true):=(TF (S:=[]) (L:=[]) (nx:=0) (p:=p0) (g:=0) (P:=fun _=>false) (U:=[]) (t:=0)).nf rfl
theorem Eb (c1:av Tryz.prog kJ 6 [stV S L nx p g P U t,evG k now s f q] (.tup [st0,au [],.int .i64 e])) (he:e≠0):
  av Tryz.prog kJ 3 [stV S L nx p g P U t,evG k now s f q] (.bool true):=by
 have c3:=nE PU
 have c4:=Ub
 refine gQ af Tryz.func3 rfl Tryz.ntmps3 Tryz.results3 rfl fun N=>?_
 repeat' (first|refine zt ?_|(refine isR ?_;first|refine zo ?_|refine zk c1 ?_|refine zk c3 ?_|refine zk c4 ?_|refine zc6 ?_)|refine zr ?_|exact ah)
 all_goals first|rfl|(exfalso;omega)
abbrev TS:Nat:=35
theorem Ri {L2:List ai} {n2:Int} {p2:Pol} {g2:Int} {P2:Nat→Bool} {U2:List Int} {T:List UInt8} (c1:av Tryz.prog kJ 6 [stV S L nx p g P U t,evG k now s f q] (.tup [stV S L2 n2 p2 g2 P2 U2 now,au T,.int .i64 0])) (ok:OkS S L2 n2 p2 g2 P2 U2 now) (hd:Dom L2):
  av Tryz.prog kJ 3 [stV S L nx p g P U t,evG k now s f q] (.bool true):=by
 have c3:=nE PU
 have hC:=nE (wE (S:=S) (nx:=n2) (p:=p2) (g:=g2) (P:=P2) (U:=U2) (t:=now) hd)
 rw [YA ok] at hC
 have hr:gF.Rj L2 n2:=dx.1 ok.jar
 have hlen:=hr.len
 have hm2:=yT hr
 have hml:(L2.map ai.v).length=L2.length:=List.length_map _
 refine gQ af Tryz.func3 rfl Tryz.ntmps3 Tryz.results3 rfl fun N=>?_
 repeat' (first|refine zt ?_|(refine isR ?_;first|refine zo ?_|refine zk c1 ?_|refine zk c3 ?_|refine zX ?_)|refine zr ?_|exact ah)
 refine fq (fun i=>⟨[(3,.fp (evG k now s f q).cells 0),(5,.loc 0 0 0),(8,nV i)],[(0,some (.els TS 29 [stV S L2 n2 p2 g2 P2 U2 now]))],1,81⟩) (fun i=>i≤L2.length) L2.length 0 (by exact ah) (Nat.zero_le _) ?_
 intro i hi
 by_cases hi2:i<L2.length
 ·have hx:L2[i]? = some L2[i]:=by simp [hi2]
  have hc:=List.getElem_mem hi2
  have d1:=SY ok.pol (hd _ hc) (hm2 _ hc)
  have d2:=nE (Jk (g:=g2) (P:=P2) (U:=U2) (eT ok.pol) (hd _ hc))
  have d3:=nP.Wz (c:=L2[i]) (now:=now)
  obtain ⟨h1,h2,h3⟩:=mP ok.kept _ hc
  rw [h1] at d2
  rw [decide_eq_true h3] at d3
  have h4:¬ vG p2 L2[i]<L2[i].expiry:=fun h=>by
   have e:=congrArg ai.expiry h2
   unfold bM at e
   dsimp only at e
   rw [if_pos h] at e
   omega
  generalize vG p2 L2[i]=r at *
  generalize L2[i]=c at *
  have hm:=bT (f:=ai.v) hx
  repeat' (first|refine zt ?_|(refine isR ?_;first|refine zo ?_|refine zk d1 ?_|refine zk d2 ?_|refine zk d3 ?_|refine zX ?_)|refine zr ?_|exact ah)
  all_goals first|(exfalso;omega)|skip
  refine ⟨by omega,hi2,?_⟩
  exact (by exact x_len [0])
 ·obtain rfl:i=L2.length:=by omega
  repeat' (first|refine zt ?_|(refine isR ?_;first|refine zo ?_|refine zk hC ?_|refine zX ?_)|refine zr ?_|exact ah)
  all_goals first|rfl|(exfalso;omega)
theorem law (hs:jI L) (hz:s.length≤1048576):
  av Tryz.prog kJ 3 [stV S L nx p g P U t,evG k now s f q] (.bool true):=by
 have hC:=nE (wE (S:=S) (nx:=nx) (p:=p) (g:=g) (P:=P) (U:=U) (t:=t) hs.dom)
 by_cases h0:u7 S L nx p g P U t=0
 ·have ok:=pU h0
  rw [h0] at hC
  obtain ⟨c,ce,hnm⟩:=NR (k:=k) (now:=now) (f:=f) (q:=q) hz
  by_cases h1:c=0∧isJ now=true∧t≤now
  ·obtain ⟨rfl,hn,ht⟩:=h1
   obtain ⟨e,L2,nx2,p2,g2,P2,U2,T,hdo,hok⟩:=Uy (hnm rfl) ok hs hn
   by_cases he:e=0
   ·subst he
    obtain ⟨ok2,hd2⟩:=hok rfl
    exact Ri (acj hC (Ro ce hn ht (sN ok) hdo)) ok2 hd2
   ·exact Eb (OV hC (NS ce hn ht (sN ok) hdo he)) he
  ·obtain ⟨e,he,c3⟩:=Rx (Γ:=kJ) ce h1 (sN ok)
   exact Eb (OV hC c3) he
 ·have hz:((u7 S L nx p g P U t:Nat):Int)≠0:=by omega
  exact Eb (Sc hC hz) hz
end adL
end Go.Proofs.YtlfdjpgghiemfaaGreatDoor
