/- Texts of the proof, joined: GovT. -/
import Derived.Test.YtlfdjpgghiemfaaGreatDoorG44
set_option maxHeartbeats 4000000
set_option maxRecDepth 100000
namespace Go.Proofs.YtlfdjpgghiemfaaGreatDoor
namespace ab6
open Go.RowKit Mem Abs fw dh iw eB Rdy Scan gy gY iW iY iV mX Na pG su wS xB z8 En Eu RjP Es I6 Jg Ug aa3 acQ XH ZR uN nT oC Both
open mY (gK gL)
variable {U:List Int} {nx1 g1:Int} {P1:Nat→Bool} {q:Pol} {e:Int} {S2:List aG} {P:Nat→Bool} {g t:Int} {U2:List Int} {L1 L2:List ah} {f:From} {t2:Int} {T1:List UInt8} {p1 p2:Pol} {n:Int} {s T2:List UInt8} {S:List aG} {nx2:Int} {p:Pol} {g2 k:Int} {Γ:iJ} {P2:Nat→Bool} {L:List ah} {t1:Int} {S1:List aG} {now:Int} {T:List UInt8} {nx:Int} {U1:List Int}
theorem FT (ce:aj Tryz.prog 43 [evG k now s f q] (.int .i64 0)) (hn:isJ now=true) (ht:t≤now) (co:aj Tryz.prog 44 [stV S L nx p g P U t] (stV S L nx p g P U t)) (cd:aR Tryz.prog Γ 45 [.loc 0 0 0,evG k now s f q] [rG S L nx p g P U t []] (.int .i64 0) [some (rG S2 L2 nx2 p2 g2 P2 U2 t2 T)]):
  av Tryz.prog Γ 16 [stV S L nx p g P U t,evG k now s f q] (.tup [stV S2 L2 nx2 p2 g2 P2 U2 t2,au T,.int .i64 0]):=by
 have c1:=qI (n:=now)
 rw [hn] at c1
 refine iL af Tryz.func16 rfl Tryz.ntmps16 Tryz.results16 rfl fun N=>?_
 repeat' (first|refine zt ?_|(refine isR ?_;first|refine dP [28] af rfl ?_|refine zn ?_|refine zk ce ?_|refine zk c1 ?_|refine zk co ?_|refine x_m [1] [] (cd _) ?_|refine x_m [1] [] (cd) ?_|refine zc1 ?_|refine zc5 ?_|refine zc6 ?_)|refine zr ?_|exact ai)
 all_goals first|rfl|(exfalso;omega)
theorem LY (ce:aj Tryz.prog 43 [evG k now s f q] (.int .i64 0)) (hn:isJ now=true) (ht:t≤now) (co:aj Tryz.prog 44 [stV S L nx p g P U t] (stV S L nx p g P U t)) (cd:aR Tryz.prog Γ 45 [.loc 0 0 0,evG k now s f q] [rG S L nx p g P U t []] (.int .i64 e) [some (rG S2 L2 nx2 p2 g2 P2 U2 t2 T)]) (he:e≠0):
  av Tryz.prog Γ 16 [stV S L nx p g P U t,evG k now s f q] (.tup [st0,au [],.int .i64 e]):=by
 have c1:=qI (n:=now)
 rw [hn] at c1
 refine iL af Tryz.func16 rfl Tryz.ntmps16 Tryz.results16 rfl fun N=>?_
 repeat' (first|refine zt ?_|(refine isR ?_;first|refine dP [28] af rfl ?_|refine zn ?_|refine zk ce ?_|refine zk c1 ?_|refine zk co ?_|refine x_m [1] [] (cd _) ?_|refine x_m [1] [] (cd) ?_|refine zc1 ?_|refine zc5 ?_|refine zc6 ?_)|refine zr ?_|exact ai)
 all_goals first|rfl|(exfalso;omega)
theorem Fg {c:Int} (ce:aj Tryz.prog 43 [evG k now s f q] (.int .i64 c)) (h:¬ (c=0∧isJ now=true∧t≤now)) (co:aj Tryz.prog 44 [stV S L nx p g P U t] (stV S L nx p g P U t)):
  ∃ e,e≠0∧av Tryz.prog Γ 16 [stV S L nx p g P U t,evG k now s f q] (.tup [st0,au [],.int .i64 e]):=by
 have c1:=qI (n:=now)
 by_cases h1:c=0
 ·subst h1
  cases hn:isJ now with
  | false =>
   rw [hn] at c1
   refine ⟨3,by decide,?_⟩
   refine iL af Tryz.func16 rfl Tryz.ntmps16 Tryz.results16 rfl fun N=>?_
   repeat' (first|refine zt ?_|(refine isR ?_;first|refine dP [28] af rfl ?_|refine zn ?_|refine zk ce ?_|refine zk c1 ?_|refine zk co ?_|refine zc1 ?_|refine zc5 ?_|refine zc6 ?_)|refine zr ?_|exact ai)
   all_goals first|rfl|(exfalso;omega)
  | true =>
   rw [hn] at c1
   have ht:now<t:=by
    have:¬ t≤now:=fun h2=>h ⟨rfl,hn,h2⟩
    omega
   refine ⟨4,by decide,?_⟩
   refine iL af Tryz.func16 rfl Tryz.ntmps16 Tryz.results16 rfl fun N=>?_
   repeat' (first|refine zt ?_|(refine isR ?_;first|refine dP [28] af rfl ?_|refine zn ?_|refine zk ce ?_|refine zk c1 ?_|refine zk co ?_|refine zc1 ?_|refine zc5 ?_|refine zc6 ?_)|refine zr ?_|exact ai)
   all_goals first|rfl|(exfalso;omega)
 ·refine ⟨c,h1,?_⟩
  refine iL af Tryz.func16 rfl Tryz.ntmps16 Tryz.results16 rfl fun N=>?_
  repeat' (first|refine zt ?_|(refine isR ?_;first|refine dP [28] af rfl ?_|refine zn ?_|refine zk ce ?_|refine zk co ?_|refine zc1 ?_|refine zc5 ?_|refine zc6 ?_)|refine zr ?_|exact ai)
  all_goals first|rfl|(exfalso;omega)
abbrev stZ:Abs.V:=stV [] [] 0 p0 0 (fun _=>false) [] 0
theorem yF {n2:Int} (c1:av Tryz.prog Γ 12 [stV S L nx p g P U t] (.int .i64 0)) (c2:av Tryz.prog Γ 16 [stV S L nx p g P U t,evG k now s f q] (.tup [stV S2 L2 n2 p2 g2 P2 U2 t2,au T,.int .i64 e])):
  av Tryz.prog Γ 6 [stV S L nx p g P U t,evG k now s f q] (.tup [stV S2 L2 n2 p2 g2 P2 U2 t2,au T,.int .i64 e]):=by
 refine iL af Tryz.func6 rfl Tryz.ntmps6 Tryz.results6 rfl fun N=>?_
 repeat' (first|refine zV ?_|(refine isR ?_;first|refine zk c1 ?_|refine zk c2 ?_)|refine zW ?_|exact ai)
 all_goals first|rfl|(exfalso;omega)
theorem Fh (c1:av Tryz.prog Γ 12 [stV S L nx p g P U t] (.int .i64 e)) (he:e≠0):
  av Tryz.prog Γ 6 [stV S L nx p g P U t,evG k now s f q] (.tup [st0,au [],.int .i64 e]):=by
 refine iL af Tryz.func6 rfl Tryz.ntmps6 Tryz.results6 rfl fun N=>?_
 repeat' (first|refine zV ?_|(refine isR ?_;refine zk c1 ?_)|refine zW ?_|exact ai)
 all_goals first|rfl|(exfalso;omega)
theorem ZV {E:Abs.V} (nm:Named E k now) (h:OkS S L nx p g P U t) (hs:iT L) (hn:isJ now=true):
  ∃ (e:Int) (L2:List ah) (nx2:Int) (p2:Pol) (g2:Int) (P2:Nat→Bool) (U2:List Int) (T:List UInt8),∀ (M:List ah) (t0:Int),av Tryz.prog fU 39 [stV S M nx p g P U now] (dI (aI now L) nx) →
   aR Tryz.prog fU 45 [.loc 0 0 0,E] [rG S M nx p g P U t0 []] (.int .i64 e) [some (rG S L2 nx2 p2 g2 P2 U2 now T)]:=by
 have hr:gY.Rj (aI now L) nx:=eX.1 (l6 h.jar)
 have hd:=(hs.live now).dom
 cases nm with
 | set now s f =>
  obtain ⟨e,M,n2,hm,_⟩:=Ym (S:=S) (L:=aI now L) (nx:=nx) (t:=now) (s:=s) (T:=[]) (f:=f) h.pol h.con hn hd
  exact ⟨e,M,n2,p,g,P,U,[],fun M0 t0 cp=>acP cp hm⟩
 | ask now f =>
  by_cases h4:fH f now=0
  ·have cg:=Te (L:=aI now L) (nx:=nx) (f:=f) (fun c hc=>by have:=((hs.live now) c hc).2;omega) (l6 h.jar) h4
   have cw:=VJ.OV (BG (f:=f) (now:=now) (hs.live now) hr.len)
   exact ⟨0,_,_,p,g,P,U,_,fun M0 t0 cp=>VT cp (Pg (kU cg) cw)⟩
  ·have c1:=oF (L:=aI now L) (nx:=nx)
   rw [l6 h.jar] at c1
   have cg:=LJ c1 (xX (f:=f) (now:=now)) h4
   exact ⟨_,_,_,p,g,P,U,[],fun M0 t0 cp=>VT cp (Yi (cg fU) h4)⟩
 | give now s hz =>
  obtain ⟨g2,P2,U2,e,cr⟩:=Vp hz
  by_cases he:e=0
  ·subst he
   by_cases hg:g≤g2
   ·have cp2:=lS (S:=S) (nx:=nx) (g:=g2) (P:=P2) (U:=U2) (t:=now) (gG h.pol) hr.len hd (CV hr)
    exact ⟨0,_,_,p,g2,P2,U2,[],fun M0 t0 cp=>Vr cp (Um cr hg (kU cp2))⟩
   ·exact ⟨4,_,_,p,g,P,U,[],fun M0 t0 cp=>Vr cp (ND cr (by omega))⟩
  ·exact ⟨e,_,_,p,g,P,U,[],fun M0 t0 cp=>Vr cp (Vg cr he)⟩
 | rule now q =>
  have c1:=Cb (p:=q)
  by_cases hq:gB q=0
  ·rw [hq] at c1
   have hlen:=(gG hq).len
   have cp2:=lS (S:=S) (nx:=nx) (g:=g) (P:=P) (U:=U) (t:=now) (gG hq) hr.len hd (CV hr)
   exact ⟨0,_,_,q,g,P,U,[],fun M0 t0 cp=>Zw cp (TF c1 (xh (fun _=>rfl) (JU (by omega))) (kU cp2))⟩
  ·exact ⟨_,_,_,p,g,P,U,[],fun M0 t0 cp=>Zw cp (UB c1 (by omega))⟩
 | tick now=>exact ⟨0,_,_,p,g,P,U,[],fun M0 t0 cp=>ZP cp⟩
theorem early {e2:Int} (c1:av Tryz.prog fU 6 [stV S L nx p g P U t,evG k now s f q] (.tup [stV S1 L1 nx1 p1 g1 P1 U1 t1,au T1,.int .i64 e])) (c2:av Tryz.prog fU 6 [stV S L nx p g P U t,evN 5 n [] f0] (.tup [stV S2 L2 nx2 p2 g2 P2 U2 t2,au T2,.int .i64 e2])) (h:e≠0∨e2≠0∨now<n):
  av Tryz.prog fU 4 [stV S L nx p g P U t,evG k now s f q,.int .i64 n] (.bool true):=by
 have c3:=kU Pv
 have c4:=Ap (n:=n)
 rcases h with h|h|h
 ·refine wF af Tryz.func4 rfl Tryz.ntmps4 Tryz.results4 rfl fun N=>?_
  repeat' (first|refine zV ?_|(refine isR ?_;first|refine zk c1 ?_|refine zk c4 ?_|refine zk c2 ?_|refine zk c3 ?_)|refine zW ?_|(refine zs ?_ ?_<;>intro hc)|exact ai)
  all_goals first|rfl|(exfalso;omega)
 ·refine wF af Tryz.func4 rfl Tryz.ntmps4 Tryz.results4 rfl fun N=>?_
  repeat' (first|refine zV ?_|(refine isR ?_;first|refine zk c1 ?_|refine zk c4 ?_|refine zk c2 ?_|refine zk c3 ?_)|refine zW ?_|(refine zs ?_ ?_<;>intro hc)|exact ai)
  all_goals first|rfl|(exfalso;omega)
 ·refine wF af Tryz.func4 rfl Tryz.ntmps4 Tryz.results4 rfl fun N=>?_
  repeat' (first|refine zV ?_|(refine isR ?_;first|refine zk c1 ?_|refine zk c4 ?_|refine zk c2 ?_|refine zk c3 ?_)|refine zW ?_|(refine zs ?_ ?_<;>intro hc)|exact ai)
  all_goals first|rfl|(exfalso;omega)
theorem late (c1:av Tryz.prog fU 6 [stV S L nx p g P U t,evG k now s f q] (.tup [stV S1 L1 nx1 p1 g1 P1 U1 t1,au T1,.int .i64 0])) (c2:av Tryz.prog fU 6 [stV S L nx p g P U t,evN 5 n [] f0] (.tup [stV S2 L2 nx2 p2 g2 P2 U2 t2,au T2,.int .i64 0])) (h:n≤now) (c5:av Tryz.prog fU 6 [stV S2 L2 nx2 p2 g2 P2 U2 t2,evG k now s f q] (.tup [stV S1 L1 nx1 p1 g1 P1 U1 t1,au T1,.int .i64 0])):
  av Tryz.prog fU 4 [stV S L nx p g P U t,evG k now s f q,.int .i64 n] (.bool true):=by
 have c3:=kU Pv
 have c4:=Ap (n:=n)
 have c6:=VI (S:=S1) (L:=L1) (nx:=nx1) (p:=p1) (g:=g1) (P:=P1) (U:=U1) (t:=t1)
 refine wF af Tryz.func4 rfl Tryz.ntmps4 Tryz.results4 rfl fun N=>?_
 repeat' (first|refine zV ?_|(refine isR ?_;first|refine zk c1 ?_|refine zk c4 ?_|refine zk c2 ?_|refine zk c3 ?_|refine zk c5 ?_|refine zk c6 ?_)|refine zW ?_|exact ai)
 all_goals first|rfl|(exfalso;omega)
theorem Fw (h:n≤now) (L:List ah):aI now (aI n L)=aI now L:=by
 unfold aI
 rw [List.filter_filter]
 apply List.filter_congr
 intro c _
 by_cases h1:now<c.expiry
 ·rw [decide_eq_true h1,decide_eq_true (by omega:n<c.expiry)];rfl
 ·rw [decide_eq_false h1];rfl
theorem Yy (h:OkS S L nx p g P U t) (hn:isJ n=true):OkS S (aI n L) nx p g P U n :=
 ⟨h.suf,l6 h.jar,h.pol,h.con,hn,by
  rw [yY fun c hc=>⟨(sG h.kept c ((w9 n L).subset hc)).1,(sG h.kept c ((w9 n L).subset hc)).2.1⟩]
  exact Fw (Int.le_refl n) L⟩
theorem XB (h:OkS S L nx p g P U t):qF S L nx p g P U t=0:=by
 unfold qF
 rw [if_neg (fun e=>e h.suf),if_neg (fun e=>e h.jar),if_neg (fun e=>e h.pol),if_neg (fun e=>e h.con),if_neg (by rw [h.day];decide),if_pos h.kept]
theorem Cx (ok:OkS S L nx p g P U t) (hs:iT L) (hC:av Tryz.prog fU 12 [stV S L nx p g P U t] (.int .i64 0)):
  (isJ n=true∧t≤n∧av Tryz.prog fU 6 [stV S L nx p g P U t,evN 5 n [] f0] (.tup [stV S (aI n L) nx p g P U n,au [],.int .i64 0]))∨∃ e,e≠0∧av Tryz.prog fU 6 [stV S L nx p g P U t,evN 5 n [] f0] (.tup [stZ,au [],.int .i64 e]):=by
 have ce:=sW (k:=5) (DU (now:=n)) (by decide) (by decide)
 rw [show DI [] f0=0 by decide] at ce
 by_cases h1:isJ n=true∧t≤n
 ·exact .inl ⟨h1.1,h1.2,(yF (q:=p0) hC (kU (OE ok hs h1.1 h1.2))).nf rfl⟩
 ·obtain ⟨e,he,c⟩:=Fg (Γ:=fU) (q:=p0) ce (fun h=>h1 h.2) (nN ok)
  exact .inr ⟨e,he,(yF (q:=p0) hC (c.nfd (r':=.tup [stZ,au [],.int .i64 e]) rfl)).nf rfl⟩
theorem law (hs:iT L) (hz:s.length≤1048576):
  av Tryz.prog fU 4 [stV S L nx p g P U t,evG k now s f q,.int .i64 n] (.bool true):=by
 have hC:=kU (xA (S:=S) (nx:=nx) (p:=p) (g:=g) (P:=P) (U:=U) (t:=t) hs.dom)
 by_cases h0:qF S L nx p g P U t=0
 ·have ok:=qc h0
  rw [h0] at hC
  obtain ⟨c,ce,hnm⟩:=MJ (k:=k) (now:=now) (f:=f) (q:=q) hz
  by_cases h1:c=0∧isJ now=true∧t≤now
  ·obtain ⟨rfl,hn,ht⟩:=h1
   obtain ⟨e,L2,nx2,p2,g2,P2,U2,T,hdo⟩:=ZV (hnm rfl) ok hs hn
   by_cases he:e=0
   ·subst he
    have ca:=yF hC (FT ce hn ht (nN ok) (hdo L t (kU (nY ok hs now))))
    rcases Cx (n:=n) ok hs hC with ⟨m1,m2,c2⟩|⟨e2,he2,c2⟩
    ·by_cases hle:n≤now
     ·have ok2:=Yy ok m1
      have hC2:=kU (xA (S:=S) (nx:=nx) (p:=p) (g:=g) (P:=P) (U:=U) (t:=n) (hs.live n).dom)
      rw [XB ok2] at hC2
      have cp:=kU (nY ok2 (hs.live n) now)
      rw [Fw hle] at cp
      exact late ca c2 hle (yF hC2 (FT ce hn hle (nN ok2) (hdo _ n cp)))
     ·exact early ca c2 (.inr (.inr (by omega)))
    ·exact early ca c2 (.inr (.inl he2))
   ·have ca:=yF hC ((LY ce hn ht (nN ok) (hdo L t (kU (nY ok hs now))) he).nfd (r':=.tup [stZ,au [],.int .i64 e]) rfl)
    rcases Cx (n:=n) ok hs hC with ⟨m1,m2,c2⟩|⟨e2,he2,c2⟩
    ·exact early ca c2 (.inl he)
    ·exact early ca c2 (.inl he)
  ·obtain ⟨e,he,c3⟩:=Fg (Γ:=fU) ce h1 (nN ok)
   have ca:=yF hC (c3.nfd (r':=.tup [stZ,au [],.int .i64 e]) rfl)
   rcases Cx (n:=n) ok hs hC with ⟨m1,m2,c2⟩|⟨e2,he2,c2⟩
   ·exact early ca c2 (.inl he)
   ·exact early ca c2 (.inl he)
 ·have hz:((qF S L nx p g P U t:Nat):Int)≠0:=by omega
  have ca:=(Fh (k:=k) (now:=now) (s:=s) (f:=f) (q:=q) hC hz).nfd (r':=.tup [stZ,au [],.int .i64 (qF S L nx p g P U t:Nat)]) rfl
  have c2:av Tryz.prog fU 6 [stV S L nx p g P U t,evN 5 n [] f0] (.tup [stZ,au [],.int .i64 (qF S L nx p g P U t:Nat)]):=((Fh (k:=5) (now:=n) (s:=[]) (f:=f0) (q:=p0) hC hz).nfd rfl).nf rfl
  exact early ca c2 (.inl hz)
end ab6
end Go.Proofs.YtlfdjpgghiemfaaGreatDoor
