/- Texts of the proof, joined: JarR, GoesW, SufP. -/
import Derived.Test.YtlfdjpgghiemfaaGreatDoorG21
set_option maxHeartbeats 4000000
set_option maxRecDepth 100000
namespace Go.Proofs.YtlfdjpgghiemfaaGreatDoor
namespace wS
open Abs Scan gy gY iV
variable {b a:ah} {L:List ah} {nx:Int} {c:ah}
structure Rw (L:List ah) (nx:Int):Prop where
 mom:∀ c∈L,kI c=false
 no:∀ c∈L,0≤c.no∧c.no<nx
 dis:L.Pairwise fun a b=>bq a b=false∧a.no≠b.no
 nx:0≤nx∧nx≤1099511627776
theorem Rj.weak (h:Rj L nx):Rw L nx:=⟨h.mom,h.no,h.dis,h.nx⟩
theorem Rw.sub {M:List ah} (h:Rw L nx) (hs:M.Sublist L):Rw M nx:=⟨fun c hc=>h.mom c (hs.subset hc),fun c hc=>h.no c (hs.subset hc),h.dis.sublist hs,h.nx⟩
theorem Rw.right (h:Rw L nx) (hl:L.length≤12) (hp:∀ d:List UInt8,L.countP (fun c=>decide (c.domain=d))≤4):Rj L nx:=⟨hl,h.mom,h.no,h.dis,hp,h.nx⟩
theorem jd:bq a b=true↔a.name=b.name∧a.domain=b.domain∧a.path=b.path:=by
 unfold bq
 simp only [Bool.and_eq_true,decide_eq_true_eq]
theorem lU (a b:ah):bq a b=bq b a:=by
 rw [Bool.eq_iff_iff,jd,jd]
 constructor<;>rintro ⟨h1,h2,h3⟩<;>exact ⟨h1.symm,h2.symm,h3.symm⟩
theorem vC (h:bq a b=true) (c:ah):bq a c=bq b c:=by
 obtain ⟨h1,h2,h3⟩:=jd.1 h
 unfold bq
 rw [h1,h2,h3]
theorem Ko (h:Rw L nx) (hc:kI c=false) (hn:nx<1099511627776):Rw (lQ L nx c).1 (lQ L nx c).2∧(nx≤(lQ L nx c).2∧(lQ L nx c).2≤nx+1)∧(lQ L nx c).1.length≤L.length+1∧∀ d:List UInt8,d≠c.domain→(lQ L nx c).1.countP (fun x=>decide (x.domain=d))=L.countP (fun x=>decide (x.domain=d)):=by
 unfold lQ
 cases hf:L.findIdx? (fun x=>bq x c) with
 | none =>
  have hno:∀ x∈L,bq x c=false:=List.findIdx?_eq_none_iff.1 hf
  dsimp only
  refine ⟨⟨fun x hx=>?_,fun x hx=>?_,?_,?_⟩,by omega,by simp,fun d hd=>?_⟩
  ·rcases List.mem_append.1 hx with hx|hx
   ·exact h.mom x hx
   ·rw [List.mem_singleton] at hx;subst hx;exact hc
  ·have:=h.nx
   rcases List.mem_append.1 hx with hx|hx
   ·have:=h.no x hx;omega
   ·rw [List.mem_singleton] at hx;subst hx;dsimp only;omega
  ·rw [List.pairwise_append]
   refine ⟨h.dis,List.pairwise_singleton _ _,fun x hx y hy=>?_⟩
   rw [List.mem_singleton] at hy;subst hy
   have h2:=h.no x hx
   exact ⟨hno x hx,by dsimp only;omega⟩
  ·have:=h.nx;omega
  ·rw [List.countP_append]
   have:¬ c.domain=d:=fun e=>hd e.symm
   simp [this]
 | some i =>
  obtain ⟨hi,hk,_⟩:=List.findIdx?_eq_some_iff_getElem.1 hf
  have hat:L.getD i c=L[i]:=by rw [List.getD_eq_getElem?_getD,List.getElem?_eq_getElem hi];rfl
  dsimp only
  rw [hat]
  obtain ⟨k1,k2,k3⟩:=jd.1 hk
  have hm:=h.mom L[i] (List.getElem_mem hi)
  refine ⟨⟨fun x hx=>?_,fun x hx=>?_,?_,h.nx⟩,by omega,by simp,fun d hd=>?_⟩
  ·rcases List.mem_or_eq_of_mem_set hx with hx|rfl
   ·exact h.mom x hx
   ·unfold kI at hc hm ⊢
    dsimp only
    cases h1:isJ L[i].created<;>cases h2:isJ c.used<;>cases h3:isJ c.created<;>cases h4:isJ L[i].used<;>simp_all
  ·rcases List.mem_or_eq_of_mem_set hx with hx|rfl
   ·exact h.no x hx
   ·exact h.no L[i] (List.getElem_mem hi)
  ·rw [List.pairwise_iff_getElem]
   intro a b ha hb hab
   have hd:=List.pairwise_iff_getElem.1 h.dis
   simp only [List.length_set] at ha hb
   rw [List.getElem_set,List.getElem_set]
   by_cases e1:i=a
   ·subst e1
    rw [if_pos rfl,if_neg (by omega)]
    obtain ⟨q1,q2⟩:=hd i b hi hb hab
    refine ⟨?_,q2⟩
    rw [← q1]
    exact (vC (a:=L[i]) (b:={ c with created:=(L[i]).created,no:=(L[i]).no }) (jd.2 ⟨k1,k2,k3⟩) _).symm
   ·rw [if_neg e1]
    by_cases e2:i=b
    ·subst e2
     rw [if_pos rfl]
     obtain ⟨q1,q2⟩:=hd a i ha hi hab
     refine ⟨?_,q2⟩
     rw [lU,← vC (a:=L[i]) (b:={ c with created:=(L[i]).created,no:=(L[i]).no }) (jd.2 ⟨k1,k2,k3⟩),lU]
     exact q1
    ·rw [if_neg e2]
     exact hd a b ha hb hab
  ·have e:L=L.take i++L[i]::L.drop (i+1):=by rw [List.getElem_cons_drop hi,List.take_append_drop]
   have n1:¬ L[i].domain=d:=fun q=>hd (by rw [← q,k2])
   have n2:¬ c.domain=d:=fun q=>hd q.symm
   rw [List.set_eq_take_append_cons_drop,if_pos hi]
   conv=>rhs;rw [e]
   rw [List.countP_append,List.countP_append,List.countP_cons,List.countP_cons]
   simp [n1,n2]
theorem pQ {most:Nat} {p:ah→Bool}:∀ (n:Nat) (L:List ah),(evF most p n L).Sublist L
 | 0,L=>.refl _
 | n+1,L=>by
  rw [evF]
  split
  ·exact .refl _
  ·split
   ·exact .refl _
   ·exact (pQ n _).trans (List.eraseIdx_sublist ..)
theorem mO {p:ah→Bool} {L:List ah}:∀ {k:Nat},k≤L.length→0<(L.take k).countP p→∃ a,mE p L k=some a
 | 0,_,h=>by simp at h
 | k+1,hk,h=>by
  have hx:L[k]? = some L[k]:=by simp
  rw [mE,hx]
  dsimp only
  rw [List.take_add_one,hx,List.countP_append] at h
  by_cases hp:p L[k]=true
  ·rw [if_pos hp]
   cases mE p L k with
   | none=>exact ⟨_,rfl⟩
   | some a=>dsimp only;split<;>exact ⟨_,rfl⟩
  ·rw [if_neg hp]
   exact mO (by omega) (by simpa [hp] using h)
theorem GX {most:Nat} {p:ah→Bool}:∀ (n:Nat) (L:List ah),L.length<n→(evF most p n L).countP p≤most
 | 0,L,h=>by omega
 | n+1,L,h=>by
  rw [evF]
  by_cases hc:L.countP p≤most
  ·rw [if_pos hc];exact hc
  ·rw [if_neg hc]
   obtain ⟨a,ha⟩:=mO (p:=p) (L:=L) (Nat.le_refl _) (by rw [List.take_length];omega)
   rw [ha]
   dsimp only
   have hlt:=(mP ha).1
   exact GX n _ (by rw [List.length_eraseIdx,if_pos hlt];omega)
theorem PU {now:Int} (h:Rj L nx) (hc:kI c=false) (hn:nx<1099511627776):Rj (rZ L nx c now).1 (rZ L nx c now).2∧nx≤(rZ L nx c now).2∧(rZ L nx c now).2≤nx+1∧∀ x∈(rZ L nx c now).1,now<x.expiry:=by
 have hw:=(Rj.weak h).sub (M:=aI now L) List.filter_sublist
 obtain ⟨k1,k2,k3,k4⟩:=Ko hw hc hn
 unfold rZ
 dsimp only
 generalize hr:lQ (aI now L) nx c=r at *
 have s1:(aI now r.1).Sublist r.1:=List.filter_sublist
 generalize hM:aI now r.1=M at *
 have s2:=pQ (most:=4) (p:=fun x=>decide (x.domain=c.domain)) (M.length+1) M
 have f2:=GX (most:=4) (p:=fun x=>decide (x.domain=c.domain)) (M.length+1) M (by omega)
 generalize evF 4 (fun x=>decide (x.domain=c.domain)) (M.length+1) M=M1 at *
 have s3:=pQ (most:=12) (p:=fun _=>true) (M1.length+1) M1
 have f3:=GX (most:=12) (p:=fun _=>true) (M1.length+1) M1 (by omega)
 generalize evF 12 (fun _=>true) (M1.length+1) M1=M2 at *
 have s4:=(s3.trans s2).trans s1
 refine ⟨(k1.sub s4).right (by simpa using f3) fun d=>?_,k2.1,k2.2,fun x hx=>?_⟩
 ·by_cases hd:d=c.domain
  ·subst hd
   exact Nat.le_trans s3.countP_le f2
  ·refine Nat.le_trans s4.countP_le ?_
   rw [k4 d hd]
   exact Nat.le_trans (List.filter_sublist.countP_le) (h.per d)
 ·have:=(s3.trans s2).subset hx
  rw [← hM] at this
  simpa [aI] using (List.mem_filter.1 this).2
end wS
namespace uN
open Go.RowKit Mem Abs bP dh iM iZ qV iw wH bR cZ fw eB
variable {now:Int} {f:From} {c:ah}
theorem Q5 (o:List UInt8):zX o [47]=decide (o.getLast? = some 47):=by
 rw [Bool.eq_iff_iff,Gl,decide_eq_true_eq,List.getLast?_eq_some_iff]
theorem aaL {p o:List UInt8}:aj Tryz.prog 234 [au p,au o] (.bool (xS p o)):=by
 have c1:=nD (l:=p) (m:=o)
 have c2:=qU (l:=o) (m:=[47])
 rw [Q5] at c2
 cases hp:pre p o with
 | false =>
  have e:dH p o=(p,false):=by unfold dH;rw [hp];rfl
  have e2:xS p o=false:=by unfold xS;rw [hp];rfl
  rw [e] at c1
  rw [e2]
  refine aX af Tryz.func234 rfl Tryz.ntmps234 Tryz.results234 rfl fun N=>?_
  repeat' (first|refine zV ?_|(refine isR ?_;refine zk c1 ?_)|refine zW ?_|(refine zs ?_ ?_<;>intro hc)|exact ai)
  rfl
 | true =>
  have e:dH p o=(p.drop o.length,true):=by unfold dH;rw [hp];rfl
  have e2:xS p o=(decide (p.drop o.length=[])||decide (o.getLast? = some 47)||decide ((p.drop o.length).head? = some 47)):=by unfold xS;rw [hp];rfl
  rw [e] at c1
  rw [e2]
  dsimp only at c1
  generalize p.drop o.length=x at *
  generalize decide (o.getLast? = some 47)=z at *
  cases x with
  | nil =>
   refine aX af Tryz.func234 rfl Tryz.ntmps234 Tryz.results234 rfl fun N=>?_
   repeat' (first|refine zV ?_|(refine isR ?_;refine zk c1 ?_)|refine zW ?_|(refine zs ?_ ?_<;>intro hc)|exact ai)
   rfl
  | cons b x =>
   have e3:(b::x)[(0:Int).toNat]? = some b:=rfl
   have e4:decide ((b::x).head? = some 47)=decide ((b.toNat:Int)=47):=by
    have:=Xu (c:=b) (d:=47)
    simp [this]
   have hnn:¬ (b::x:List UInt8)=[]:=by simp
   have hb:=b.toNat_lt
   rw [e4,decide_eq_false hnn]
   refine aX af Tryz.func234 rfl Tryz.ntmps234 Tryz.results234 rfl fun N=>?_
   repeat' (first|refine zV ?_|(refine isR ?_;first|refine zk c1 ?_|refine nC (c2 _) (fun hb=>?_) (fun hb=>?_)|refine nC (c2) (fun hb=>?_) (fun hb=>?_))|refine zW ?_|(refine zs ?_ ?_<;>intro hc)|exact ai)
   all_goals (show V.bool _=V.bool _;simp [*])
def EH (c:ah) (f:From):Bool := !(c.secure && !f.secure)&&(!(c.httpOnly&&f.script) && !(f.abroad && !decide (c.site=1)))
def atF (c:ah) (f:From):Bool:=if c.hostOnly then decide (f.host=c.domain) else kK f.host c.domain
def zN (c:ah) (f:From) (now:Int):Bool:=decide (now<c.expiry)&&(atF c f&&(xS f.path c.path&&EH c f))
abbrev YG (f:From) (now:Int):Abs.V:=.agg [.str (str f.host),.str (str f.path),.bool f.secure,.bool f.script,.bool f.abroad,.int .i64 now]
theorem abW:aj Tryz.prog 11 [c.v,.int .i64 now] (.bool (decide (now<c.expiry))):=by
 refine aX af Tryz.func11 rfl Tryz.ntmps11 Tryz.results11 rfl fun N=>?_
 repeat' (first|refine zW ?_|(refine zs ?_ ?_<;>intro hc)|exact ai)
 all_goals (show V.bool _=V.bool _;first|rfl|simp_all)
theorem XW:aj Tryz.prog 189 [YG f now,c.v] (.bool (decide (now<c.expiry))):=by
 have c1:=abW (c:=c) (now:=now)
 refine aX af Tryz.func189 rfl Tryz.ntmps189 Tryz.results189 rfl fun N=>?_
 repeat' (first|refine zV ?_|(refine isR ?_;refine zk c1 ?_)|refine zW ?_|exact ai)
 rfl
theorem XY:aj Tryz.prog 191 [YG f now,c.v] (.bool (xS f.path c.path)):=by
 have c1:=aaL (p:=f.path) (o:=c.path)
 refine aX af Tryz.func191 rfl Tryz.ntmps191 Tryz.results191 rfl fun N=>?_
 repeat' (first|refine zV ?_|(refine isR ?_;refine zk c1 ?_)|refine zW ?_|exact ai)
 rfl
theorem adn (hd:c.domain.length≤140737488355327) (hf:f.host.length≤4398046511104):av Tryz.prog bG 190 [YG f now,c.v] (.bool (atF c f)):=by
 have c1:=Ao (l:=f.host) (m:=c.domain) hf hd
 unfold atF
 obtain ⟨f1,f2,f3,f4,f5⟩:=f
 obtain ⟨d1,d2,d3,d4,d5,d6,d7,d8,d9,d10,d11,d12,d13⟩:=c
 dsimp only at *
 cases d5
 ·refine iL af Tryz.func190 rfl Tryz.ntmps190 Tryz.results190 rfl fun N=>?_
  repeat' (first|refine zV ?_|(refine isR ?_;refine zk c1 ?_)|refine zW ?_|(refine zs ?_ ?_<;>intro hc)|exact ai)
  rfl
 ·refine iL af Tryz.func190 rfl Tryz.ntmps190 Tryz.results190 rfl fun N=>?_
  repeat' (first|refine zV ?_|(refine isR ?_;refine zk c1 ?_)|refine zW ?_|(refine zs ?_ ?_<;>intro hc)|exact ai)
  all_goals (show V.bool _=V.bool _;first|rfl|simp_all)
theorem Uw:aj Tryz.prog 192 [YG f now,c.v] (.bool (EH c f)):=by
 unfold EH
 obtain ⟨f1,f2,f3,f4,f5⟩:=f
 obtain ⟨d1,d2,d3,d4,d5,d6,d7,d8,d9,d10,d11,d12,d13⟩:=c
 dsimp only at *
 cases d6
 ·cases d7
  ·cases f5
   all_goals
    refine aX af Tryz.func192 rfl Tryz.ntmps192 Tryz.results192 rfl fun N=>?_
    repeat' (first|refine zW ?_|(refine zs ?_ ?_<;>intro hc)|exact ai)
    all_goals (show V.bool _=V.bool _;first|rfl|simp_all)
  ·cases f4<;>cases f5
   all_goals
    refine aX af Tryz.func192 rfl Tryz.ntmps192 Tryz.results192 rfl fun N=>?_
    repeat' (first|refine zW ?_|(refine zs ?_ ?_<;>intro hc)|exact ai)
    all_goals (show V.bool _=V.bool _;first|rfl|simp_all)
 ·cases f3
  ·refine aX af Tryz.func192 rfl Tryz.ntmps192 Tryz.results192 rfl fun N=>?_
   repeat' (first|refine zW ?_|(refine zs ?_ ?_<;>intro hc)|exact ai)
   all_goals (show V.bool _=V.bool _;first|rfl|simp_all)
  ·cases d7
   ·cases f5
    all_goals
     refine aX af Tryz.func192 rfl Tryz.ntmps192 Tryz.results192 rfl fun N=>?_
     repeat' (first|refine zW ?_|(refine zs ?_ ?_<;>intro hc)|exact ai)
     all_goals (show V.bool _=V.bool _;first|rfl|simp_all)
   ·cases f4<;>cases f5
    all_goals
     refine aX af Tryz.func192 rfl Tryz.ntmps192 Tryz.results192 rfl fun N=>?_
     repeat' (first|refine zW ?_|(refine zs ?_ ?_<;>intro hc)|exact ai)
     all_goals (show V.bool _=V.bool _;first|rfl|simp_all)
theorem aaI (hd:c.domain.length≤140737488355327) (hf:f.host.length≤4398046511104):av Tryz.prog bG 144 [c.v,f.v,.int .i64 now] (.bool (zN c f now)):=by
 have c1:=XW (c:=c) (f:=f) (now:=now)
 have c2:=adn (c:=c) (f:=f) (now:=now) hd hf
 have c3:=XY (c:=c) (f:=f) (now:=now)
 have c4:=Uw (c:=c) (f:=f) (now:=now)
 have e:zN c f now=(decide (now<c.expiry)&&(atF c f&&(xS f.path c.path&&EH c f))):=rfl
 rw [e]
 generalize decide (now<c.expiry)=x at *
 generalize atF c f=y at *
 generalize xS f.path c.path=z at *
 generalize EH c f=u at *
 refine wF af Tryz.func144 rfl Tryz.ntmps144 Tryz.results144 rfl fun N=>?_
 repeat' (first|with_reducible refine aQ ?_|with_reducible refine aO 6 ?_|refine zV ?_|(refine isR ?_;first|refine eT (c1 _) (fun hb=>?_) (fun hb=>?_)|refine eT (c1) (fun hb=>?_) (fun hb=>?_)|refine eT (c2 _) (fun hb=>?_) (fun hb=>?_)|refine eT (c2) (fun hb=>?_) (fun hb=>?_)|refine eT (c3 _) (fun hb=>?_) (fun hb=>?_)|refine eT (c3) (fun hb=>?_) (fun hb=>?_)|refine eT (c4 _) (fun hb=>?_) (fun hb=>?_)|refine eT (c4) (fun hb=>?_) (fun hb=>?_))|refine zW ?_|exact ai)
 all_goals (show V.bool _=V.bool _;first|rfl|simp_all)
end uN
namespace fT
open dh bR cZ Abs
variable {α:Type} {p:α→Bool} {l u:List UInt8} {xs:List α}
deriving instance DecidableEq for aG
theorem Jq {α:Type} {p:α→Bool}:∀ {xs:List α} {b:α},xs.find? p=some b↔∃ i:Nat,xs[i]? = some b∧p b=true∧∀ (j:Nat) c,j<i→xs[j]? = some c→p c=false
 | [],b=>by simp
 | x::xs,b=>by
  rw [List.find?_cons]
  cases h:p x with
  | true =>
   constructor
   ·intro e;cases e
    exact ⟨0,rfl,h,fun j c hj=>by omega⟩
   ·rintro ⟨i,h1,h2,h3⟩
    rcases i with _|i
    ·exact h1
    ·have:=h3 0 x (by omega) rfl
     rw [h] at this;cases this
  | false =>
   show List.find? p xs=some b↔_
   rw [Jq (xs:=xs)]
   constructor
   ·rintro ⟨i,h1,h2,h3⟩
    refine ⟨i+1,by simpa using h1,h2,fun j c hj hc=>?_⟩
    rcases j with _|j
    ·simp at hc;subst hc;exact h
    ·exact h3 j c (by omega) (by simpa using hc)
   ·rintro ⟨i,h1,h2,h3⟩
    rcases i with _|i
    ·simp at h1;subst h1;rw [h] at h2;cases h2
    ·exact ⟨i,by simpa using h1,h2,fun j c hj hc=>h3 (j+1) c (by omega) (by simpa using hc)⟩
theorem YU:xs.find? p=none↔∀ (j:Nat) c,xs[j]? = some c→p c=false:=by
 rw [List.find?_eq_none]
 constructor
 ·intro h j c hc
  simpa using h c (List.mem_of_getElem? hc)
 ·intro h c hc
  obtain ⟨j,hj⟩:=List.mem_iff_getElem?.1 hc
  simpa using h j c hj
theorem X4 {k:Nat} {d:α} (h:xs[k]? = some d):(xs.take (k+1)).find? p=((xs.take k).find? p).or (if p d then some d else none):=by
 obtain ⟨hk,rfl⟩:=List.getElem?_eq_some_iff.1 h
 rw [List.take_succ_eq_append_getElem hk,List.find?_append]
 congr 1
 rw [List.find?_cons]
 cases p xs[k]<;>rfl
def up:List UInt8→List UInt8
 | []=>[]
 | c::r=>if c=46 then r else up r
theorem Yt (h:l.contains 46=false):up l=[]:=by
 induction l with
 | nil=>rfl
 | cons c r ih =>
  simp only [List.contains_cons,Bool.or_eq_false_iff,beq_eq_false_iff_ne] at h
  unfold up
  rw [if_neg (fun e=>h.1 e.symm),ih h.2]
theorem acS {a r:List UInt8} (h:a.contains 46=false):up (a++46::r)=r:=by
 induction a with
 | nil=>simp [up]
 | cons c a ih =>
  simp only [List.contains_cons,Bool.or_eq_false_iff,beq_eq_false_iff_ne] at h
  rw [List.cons_append,up,if_neg (fun e=>h.1 e.symm),ih h.2]
def ch (l:List UInt8):List (List UInt8):=l::after l
theorem aaq {h:List UInt8} (h0:h≠[]) (ha:address h=false):vY h=ch h:=by unfold vY ch;rw [if_neg h0,ha];rfl
def cu (l:List UInt8):Bool:=decide (fM l=(l,0))
structure Hst (l:List UInt8):Prop where
 fold:fold l=l
 len:l.length≤253
 lab:(split 46 l).all label=true
theorem qL (l:List UInt8):cu l=true↔Hst l:=by
 unfold cu
 rw [decide_eq_true_eq]
 constructor
 ·intro e
  obtain ⟨h1,h2,h3⟩:=SK e
  exact ⟨h1.symm,h2,by rw [← h1] at h3;exact h3⟩
 ·intro ⟨h1,h2,h3⟩
  unfold fM
  rw [if_neg (by omega),h1,if_pos h3]
theorem Hst.ne (h:Hst l):l≠[]:=fun e=>by
 have:=h.lab
 rw [e] at this
 simp [split,label] at this
theorem Hst.part {x:List UInt8} (h:Hst (x++46::u)):Hst u:=by
 obtain ⟨h1,h2,h3⟩:=h
 refine ⟨?_,by simp at h2;omega,?_⟩
 ·rw [Sk,show bR.fold (46::u)=lX 46::bR.fold u from rfl] at h1
  have hl:(bR.fold x).length=x.length:=by simp [bR.fold]
  have:=(List.append_inj h1 hl).2
  exact (List.cons.injEq _ _ _ _ ▸ this).2
 ·rw [Rn,List.all_append,Bool.and_eq_true] at h3
  exact h3.2
theorem Hst.mem (h:Hst l) (hu:u∈ch l):Hst u:=by
 unfold ch at hu
 rcases List.mem_cons.1 hu with rfl|hu
 ·exact h
 ·obtain ⟨x,rfl⟩:=(om u l).1 hu
  exact h.part
def oI (r:aG):Nat:=if r.kind<1∨3<r.kind then 7 else if cu r.name=false∨address r.name=true∨(r.kind=3∧up r.name=[]) then 1 else 0
def jq (seen:List aG):List aG→Nat
 | []=>0
 | r::rest=>if oI r≠0 then oI r else if r∈seen then 6 else jq (seen++[r]) rest
def bA (L:List aG):Nat:=if 16<L.length then 2 else jq [] L
structure Zt (L:List aG):Prop where
 ok:∀ r∈L,oI r=0
 once:∀ (i:Nat) r,L[i]? = some r→r ∉ L.take i
theorem yX:∀ {L seen:List aG},jq seen L=0→∀ (i:Nat) r,L[i]? = some r→oI r=0∧r ∉ seen++L.take i
 | [],_,_,i,r,h=>by simp at h
 | x::L,seen,e,i,r,h=>by
  unfold jq at e
  split at e
  ·rename_i hb;exact absurd e hb
  ·rename_i hb
   split at e
   ·cases e
   ·rename_i hs
    rcases i with _|i
    ·simp at h;subst h
     exact ⟨by omega,by simpa using hs⟩
    ·obtain ⟨h1,h2⟩:=yX e i r (by simpa using h)
     exact ⟨h1,by simpa using h2⟩
theorem sH {L:List aG} (h:bA L=0):Zt L∧L.length≤16:=by
 unfold bA at h
 split at h
 ·cases h
 ·refine ⟨⟨fun r hr=>?_,fun i r hi=>?_⟩,by omega⟩
  ·obtain ⟨i,hi⟩:=List.mem_iff_getElem?.1 hr
   exact (yX h i r hi).1
  ·have:=(yX h i r hi).2
   simpa using this
theorem Z7 {r:aG} (h:oI r=0):1≤r.kind∧r.kind≤3∧Hst r.name∧address r.name=false∧(r.kind=3→up r.name≠[]):=by
 unfold oI at h
 split at h
 ·cases h
 ·rename_i h1
  split at h
  ·cases h
  ·rename_i h2
   refine ⟨by omega,by omega,(qL _).1 ?_,?_,fun h3 h4=>h2 (.inr (.inr ⟨h3,h4⟩))⟩
   ·cases hh:cu r.name with
    | true=>rfl
    | false=>exact absurd (.inl hh) h2
   ·cases hh:address r.name with
    | false=>rfl
    | true=>exact absurd (.inr (.inl hh)) h2
def rIn (L:List aG) (kd:Int) (d:List UInt8):Bool:=decide ((⟨kd,d⟩:aG)∈L)
def bIn (L:List aG) (d:List UInt8):Bool:=rIn L 1 d||rIn L 2 (up d)
def xV (L:List aG) (h:List UInt8):List UInt8:=if address h then [] else match (ch h).find? (rIn L 3) with
 | some d=>up d
 | none=>match (ch h).find? (bIn L) with
  | some d=>d
  | none=>((ch h).getLast?).getD h
end fT
end Go.Proofs.YtlfdjpgghiemfaaGreatDoor
