/- Texts of the proof, joined: JarR, GoesW, SufP, SortP. -/
import Derived.Test.YtlfdjpgghiemfaaGreatDoorH22
set_option maxHeartbeats 4000000
set_option maxRecDepth 100000
namespace Go.Proofs.YtlfdjpgghiemfaaGreatDoor
namespace qW
open Abs Scan fI gF iQ
variable {L:List ai} {nx:Int} {a b c:ai}
structure Rw (L:List ai) (nx:Int):Prop where
 mom:∀ c∈L,kF c=false
 no:∀ c∈L,0≤c.no∧c.no<nx
 dis:L.Pairwise fun a b=>bq a b=false∧a.no≠b.no
 nx:0≤nx∧nx≤1099511627776
theorem Rj.weak (h:Rj L nx):Rw L nx:=⟨h.mom,h.no,h.dis,h.nx⟩
theorem Rw.sub {M:List ai} (h:Rw L nx) (hs:M.Sublist L):Rw M nx:=⟨fun c hc=>h.mom c (hs.subset hc),fun c hc=>h.no c (hs.subset hc),h.dis.sublist hs,h.nx⟩
theorem Rw.right (h:Rw L nx) (hl:L.length≤12) (hp:∀ d:List UInt8,L.countP (fun c=>decide (c.domain=d))≤4):Rj L nx:=⟨hl,h.mom,h.no,h.dis,hp,h.nx⟩
theorem jg:bq a b=true↔a.name=b.name∧a.domain=b.domain∧a.path=b.path:=by
 unfold bq
 simp only [Bool.and_eq_true,decide_eq_true_eq]
theorem ja (a b:ai):bq a b=bq b a:=by
 rw [Bool.eq_iff_iff,jg,jg]
 constructor<;>rintro ⟨h1,h2,h3⟩<;>exact ⟨h1.symm,h2.symm,h3.symm⟩
theorem wz (h:bq a b=true) (c:ai):bq a c=bq b c:=by
 obtain ⟨h1,h2,h3⟩:=jg.1 h
 unfold bq
 rw [h1,h2,h3]
theorem Lj (h:Rw L nx) (hc:kF c=false) (hn:nx<1099511627776):Rw (mh L nx c).1 (mh L nx c).2∧(nx≤(mh L nx c).2∧(mh L nx c).2≤nx+1)∧(mh L nx c).1.length≤L.length+1∧∀ d:List UInt8,d≠c.domain→(mh L nx c).1.countP (fun x=>decide (x.domain=d))=L.countP (fun x=>decide (x.domain=d)):=by
 unfold mh
 cases hf:L.findIdx? (fun x=>bq x c) with
 | none =>
  have hno:∀ x∈L,bq x c=false:=List.findIdx?_eq_none_iff.1 hf
  dsimp only
  refine ⟨⟨fun x hx=>?_,fun x hx=>?_,?_,?_⟩,by omega,by simp,fun d hd=>?_⟩
  ·rcases List.mem_append.1 hx with hx|hx
   ·exact h.mom x hx
   ·rw [List.mem_singleton] at hx;subst hx;exact hc
  ·have:=h.nx
   rcases List.mem_append.1 hx with hx|hx
   ·have:=h.no x hx;omega
   ·rw [List.mem_singleton] at hx;subst hx;dsimp only;omega
  ·rw [List.pairwise_append]
   refine ⟨h.dis,List.pairwise_singleton _ _,fun x hx y hy=>?_⟩
   rw [List.mem_singleton] at hy;subst hy
   have h2:=h.no x hx
   exact ⟨hno x hx,by dsimp only;omega⟩
  ·have:=h.nx;omega
  ·rw [List.countP_append]
   have:¬ c.domain=d:=fun e=>hd e.symm
   simp [this]
 | some i =>
  obtain ⟨hi,hk,_⟩:=List.findIdx?_eq_some_iff_getElem.1 hf
  have hat:L.getD i c=L[i]:=by rw [List.getD_eq_getElem?_getD,List.getElem?_eq_getElem hi];rfl
  dsimp only
  rw [hat]
  obtain ⟨k1,k2,k3⟩:=jg.1 hk
  have hm:=h.mom L[i] (List.getElem_mem hi)
  refine ⟨⟨fun x hx=>?_,fun x hx=>?_,?_,h.nx⟩,by omega,by simp,fun d hd=>?_⟩
  ·rcases List.mem_or_eq_of_mem_set hx with hx|rfl
   ·exact h.mom x hx
   ·unfold kF at hc hm ⊢
    dsimp only
    cases h1:isJ L[i].created<;>cases h2:isJ c.used<;>cases h3:isJ c.created<;>cases h4:isJ L[i].used<;>simp_all
  ·rcases List.mem_or_eq_of_mem_set hx with hx|rfl
   ·exact h.no x hx
   ·exact h.no L[i] (List.getElem_mem hi)
  ·rw [List.pairwise_iff_getElem]
   intro a b ha hb hab
   have hd:=List.pairwise_iff_getElem.1 h.dis
   simp only [List.length_set] at ha hb
   rw [List.getElem_set,List.getElem_set]
   by_cases e1:i=a
   ·subst e1
    rw [if_pos rfl,if_neg (by omega)]
    obtain ⟨q1,q2⟩:=hd i b hi hb hab
    refine ⟨?_,q2⟩
    rw [← q1]
    exact (wz (a:=L[i]) (b:={ c with created:=(L[i]).created,no:=(L[i]).no }) (jg.2 ⟨k1,k2,k3⟩) _).symm
   ·rw [if_neg e1]
    by_cases e2:i=b
    ·subst e2
     rw [if_pos rfl]
     obtain ⟨q1,q2⟩:=hd a i ha hi hab
     refine ⟨?_,q2⟩
     rw [ja,← wz (a:=L[i]) (b:={ c with created:=(L[i]).created,no:=(L[i]).no }) (jg.2 ⟨k1,k2,k3⟩),ja]
     exact q1
    ·rw [if_neg e2]
     exact hd a b ha hb hab
  ·have e:L=L.take i++L[i]::L.drop (i+1):=by rw [List.getElem_cons_drop hi,List.take_append_drop]
   have n1:¬ L[i].domain=d:=fun q=>hd (by rw [← q,k2])
   have n2:¬ c.domain=d:=fun q=>hd q.symm
   rw [List.set_eq_take_append_cons_drop,if_pos hi]
   conv=>rhs;rw [e]
   rw [List.countP_append,List.countP_append,List.countP_cons,List.countP_cons]
   simp [n1,n2]
theorem qB {most:Nat} {p:ai→Bool}:∀ (n:Nat) (L:List ai),(evF most p n L).Sublist L
 | 0,L=>.refl _
 | n+1,L=>by
  rw [evF]
  split
  ·exact .refl _
  ·split
   ·exact .refl _
   ·exact (qB n _).trans (List.eraseIdx_sublist ..)
theorem mo {p:ai→Bool} {L:List ai}:∀ {k:Nat},k≤L.length→0<(L.take k).countP p→∃ a,l5 p L k=some a
 | 0,_,h=>by simp at h
 | k+1,hk,h=>by
  have hx:L[k]? = some L[k]:=by simp
  rw [l5,hx]
  dsimp only
  rw [List.take_add_one,hx,List.countP_append] at h
  by_cases hp:p L[k]=true
  ·rw [if_pos hp]
   cases l5 p L k with
   | none=>exact ⟨_,rfl⟩
   | some a=>dsimp only;split<;>exact ⟨_,rfl⟩
  ·rw [if_neg hp]
   exact mo (by omega) (by simpa [hp] using h)
theorem Ht {most:Nat} {p:ai→Bool}:∀ (n:Nat) (L:List ai),L.length<n→(evF most p n L).countP p≤most
 | 0,L,h=>by omega
 | n+1,L,h=>by
  rw [evF]
  by_cases hc:L.countP p≤most
  ·rw [if_pos hc];exact hc
  ·rw [if_neg hc]
   obtain ⟨a,ha⟩:=mo (p:=p) (L:=L) (Nat.le_refl _) (by rw [List.take_length];omega)
   rw [ha]
   dsimp only
   have hlt:=(lY ha).1
   exact Ht n _ (by rw [List.length_eraseIdx,if_pos hlt];omega)
theorem Rz {now:Int} (h:Rj L nx) (hc:kF c=false) (hn:nx<1099511627776):Rj (sV L nx c now).1 (sV L nx c now).2∧nx≤(sV L nx c now).2∧(sV L nx c now).2≤nx+1∧∀ x∈(sV L nx c now).1,now<x.expiry:=by
 have hw:=(Rj.weak h).sub (M:=aI now L) List.filter_sublist
 obtain ⟨k1,k2,k3,k4⟩:=Lj hw hc hn
 unfold sV
 dsimp only
 generalize hr:mh (aI now L) nx c=r at *
 have s1:(aI now r.1).Sublist r.1:=List.filter_sublist
 generalize hM:aI now r.1=M at *
 have s2:=qB (most:=4) (p:=fun x=>decide (x.domain=c.domain)) (M.length+1) M
 have f2:=Ht (most:=4) (p:=fun x=>decide (x.domain=c.domain)) (M.length+1) M (by omega)
 generalize evF 4 (fun x=>decide (x.domain=c.domain)) (M.length+1) M=M1 at *
 have s3:=qB (most:=12) (p:=fun _=>true) (M1.length+1) M1
 have f3:=Ht (most:=12) (p:=fun _=>true) (M1.length+1) M1 (by omega)
 generalize evF 12 (fun _=>true) (M1.length+1) M1=M2 at *
 have s4:=(s3.trans s2).trans s1
 refine ⟨(k1.sub s4).right (by simpa using f3) fun d=>?_,k2.1,k2.2,fun x hx=>?_⟩
 ·by_cases hd:d=c.domain
  ·subst hd
   exact Nat.le_trans s3.countP_le f2
  ·refine Nat.le_trans s4.countP_le ?_
   rw [k4 d hd]
   exact Nat.le_trans (List.filter_sublist.countP_le) (h.per d)
 ·have:=(s3.trans s2).subset hx
  rw [← hM] at this
  simpa [aI] using (List.mem_filter.1 this).2
end qW
namespace nP
open Go.RowKit Mem Abs bH cu iR jh rA gV xh bX dn eO dV
variable {now:Int} {c:ai} {f:From}
theorem QM (o:List UInt8):qI o [47]=decide (o.getLast? = some 47):=by
 rw [Bool.eq_iff_iff,FJ,decide_eq_true_eq,List.getLast?_eq_some_iff]
theorem abB {p o:List UInt8}:aj Tryz.prog 234 [au p,au o] (.bool (xk p o)):=by
 have c1:=nQ (l:=p) (m:=o)
 have c2:=tK (l:=o) (m:=[47])
 rw [QM] at c2
 cases hp:pre p o with
 | false =>
  have e:dJ p o=(p,false):=by unfold dJ;rw [hp];rfl
  have e2:xk p o=false:=by unfold xk;rw [hp];rfl
  rw [e] at c1
  rw [e2]
  refine aW af Tryz.func234 rfl Tryz.ntmps234 Tryz.results234 rfl fun N=>?_
  repeat' (first|refine zt ?_|(refine isR ?_;first|refine zo ?_|refine zk c1 ?_|refine zX ?_|(refine zs5 ?_ ?_<;>intro hc))|refine zr ?_|exact ah)
  rfl
 | true =>
  have e:dJ p o=(p.drop o.length,true):=by unfold dJ;rw [hp];rfl
  have e2:xk p o=(decide (p.drop o.length=[])||decide (o.getLast? = some 47)||decide ((p.drop o.length).head? = some 47)):=by unfold xk;rw [hp];rfl
  rw [e] at c1
  rw [e2]
  dsimp only at c1
  generalize p.drop o.length=x at *
  generalize decide (o.getLast? = some 47)=z at *
  cases x with
  | nil =>
   refine aW af Tryz.func234 rfl Tryz.ntmps234 Tryz.results234 rfl fun N=>?_
   repeat' (first|refine zt ?_|(refine isR ?_;first|refine zo ?_|refine zk c1 ?_|refine zX ?_|(refine zs5 ?_ ?_<;>intro hc))|refine zr ?_|exact ah)
   rfl
  | cons b x =>
   have e3:(b::x)[(0:Int).toNat]? = some b:=rfl
   have e4:decide ((b::x).head? = some 47)=decide ((b.toNat:Int)=47):=by
    have:=Ye (c:=b) (d:=47)
    simp [this]
   have hnn:¬ (b::x:List UInt8)=[]:=by simp
   have hb:=b.toNat_lt
   rw [e4,decide_eq_false hnn]
   refine aW af Tryz.func234 rfl Tryz.ntmps234 Tryz.results234 rfl fun N=>?_
   repeat' (first|refine zt ?_|(refine isR ?_;first|refine zo ?_|refine zk c1 ?_|refine iY (c2 _) (fun hb=>?_) (fun hb=>?_)|refine iY (c2) (fun hb=>?_) (fun hb=>?_)|refine zX ?_|(refine zs5 ?_ ?_<;>intro hc))|refine zr ?_|exact ah)
   all_goals (show V.bool _=V.bool _;simp [*])
def EU (c:ai) (f:From):Bool := !(c.secure && !f.secure)&&(!(c.httpOnly&&f.script) && !(f.abroad && !decide (c.site=1)))
def atF (c:ai) (f:From):Bool:=if c.hostOnly then decide (f.host=c.domain) else iq f.host c.domain
def z8 (c:ai) (f:From) (now:Int):Bool:=decide (now<c.expiry)&&(atF c f&&(xk f.path c.path&&EU c f))
abbrev YF (f:From) (now:Int):Abs.V:=.agg [.str (str f.host),.str (str f.path),.bool f.secure,.bool f.script,.bool f.abroad,.int .i64 now]
theorem Wz:aj Tryz.prog 11 [c.v,.int .i64 now] (.bool (decide (now<c.expiry))):=by
 refine aW af Tryz.func11 rfl Tryz.ntmps11 Tryz.results11 rfl fun N=>?_
 repeat' (first|refine zt ?_|(refine isR ?_;first|refine zo ?_|(refine zs3 ?_ ?_<;>intro hc))|refine zr ?_|exact ah)
 all_goals (show V.bool _=V.bool _;first|rfl|simp_all)
theorem XJ:aj Tryz.prog 189 [YF f now,c.v] (.bool (decide (now<c.expiry))):=by
 have c1:=Wz (c:=c) (now:=now)
 refine aW af Tryz.func189 rfl Tryz.ntmps189 Tryz.results189 rfl fun N=>?_
 repeat' (first|refine zt ?_|(refine isR ?_;first|refine zo ?_|refine zk c1 ?_)|refine zr ?_|exact ah)
 rfl
theorem ZO:aj Tryz.prog 191 [YF f now,c.v] (.bool (xk f.path c.path)):=by
 have c1:=abB (p:=f.path) (o:=c.path)
 refine aW af Tryz.func191 rfl Tryz.ntmps191 Tryz.results191 rfl fun N=>?_
 repeat' (first|refine zt ?_|(refine isR ?_;first|refine zo ?_|refine zk c1 ?_)|refine zr ?_|exact ah)
 rfl
theorem ad1 (hd:c.domain.length≤140737488355327) (hf:f.host.length≤4398046511104):av Tryz.prog bI 190 [YF f now,c.v] (.bool (atF c f)):=by
 have c1:=A9 (l:=f.host) (m:=c.domain) hf hd
 unfold atF
 obtain ⟨f1,f2,f3,f4,f5⟩:=f
 obtain ⟨d1,d2,d3,d4,d5,d6,d7,d8,d9,d10,d11,d12,d13⟩:=c
 dsimp only at *
 cases d5
 ·refine gQ af Tryz.func190 rfl Tryz.ntmps190 Tryz.results190 rfl fun N=>?_
  repeat' (first|refine zt ?_|(refine isR ?_;first|refine zo ?_|refine zk c1 ?_|(refine zs5 ?_ ?_<;>intro hc))|refine zr ?_|exact ah)
  rfl
 ·refine gQ af Tryz.func190 rfl Tryz.ntmps190 Tryz.results190 rfl fun N=>?_
  repeat' (first|refine zt ?_|(refine isR ?_;first|refine zo ?_|refine zk c1 ?_|(refine zs5 ?_ ?_<;>intro hc))|refine zr ?_|exact ah)
  all_goals (show V.bool _=V.bool _;first|rfl|simp_all)
theorem Ui:aj Tryz.prog 192 [YF f now,c.v] (.bool (EU c f)):=by
 unfold EU
 obtain ⟨f1,f2,f3,f4,f5⟩:=f
 obtain ⟨d1,d2,d3,d4,d5,d6,d7,d8,d9,d10,d11,d12,d13⟩:=c
 dsimp only at *
 cases d6
 ·cases d7
  ·cases f5
   all_goals
    refine aW af Tryz.func192 rfl Tryz.ntmps192 Tryz.results192 rfl fun N=>?_
    repeat' (first|refine zt ?_|(refine isR ?_;first|refine zo ?_|(refine zs6 ?_ ?_<;>intro hc))|refine zr ?_|exact ah)
    all_goals (show V.bool _=V.bool _;first|rfl|simp_all)
  ·cases f4<;>cases f5
   all_goals
    refine aW af Tryz.func192 rfl Tryz.ntmps192 Tryz.results192 rfl fun N=>?_
    repeat' (first|refine zt ?_|(refine isR ?_;first|refine zo ?_|(refine zs6 ?_ ?_<;>intro hc))|refine zr ?_|exact ah)
    all_goals (show V.bool _=V.bool _;first|rfl|simp_all)
 ·cases f3
  ·refine aW af Tryz.func192 rfl Tryz.ntmps192 Tryz.results192 rfl fun N=>?_
   repeat' (first|refine zt ?_|(refine isR ?_;first|refine zo ?_|(refine zs6 ?_ ?_<;>intro hc))|refine zr ?_|exact ah)
   all_goals (show V.bool _=V.bool _;first|rfl|simp_all)
  ·cases d7
   ·cases f5
    all_goals
     refine aW af Tryz.func192 rfl Tryz.ntmps192 Tryz.results192 rfl fun N=>?_
     repeat' (first|refine zt ?_|(refine isR ?_;first|refine zo ?_|(refine zs6 ?_ ?_<;>intro hc))|refine zr ?_|exact ah)
     all_goals (show V.bool _=V.bool _;first|rfl|simp_all)
   ·cases f4<;>cases f5
    all_goals
     refine aW af Tryz.func192 rfl Tryz.ntmps192 Tryz.results192 rfl fun N=>?_
     repeat' (first|refine zt ?_|(refine isR ?_;first|refine zo ?_|(refine zs6 ?_ ?_<;>intro hc))|refine zr ?_|exact ah)
     all_goals (show V.bool _=V.bool _;first|rfl|simp_all)
theorem acs (hd:c.domain.length≤140737488355327) (hf:f.host.length≤4398046511104):av Tryz.prog bI 144 [c.v,f.v,.int .i64 now] (.bool (z8 c f now)):=by
 have c1:=XJ (c:=c) (f:=f) (now:=now)
 have c2:=ad1 (c:=c) (f:=f) (now:=now) hd hf
 have c3:=ZO (c:=c) (f:=f) (now:=now)
 have c4:=Ui (c:=c) (f:=f) (now:=now)
 have e:z8 c f now=(decide (now<c.expiry)&&(atF c f&&(xk f.path c.path&&EU c f))):=rfl
 rw [e]
 generalize decide (now<c.expiry)=x at *
 generalize atF c f=y at *
 generalize xk f.path c.path=z at *
 generalize EU c f=u at *
 refine K8 af Tryz.func144 rfl Tryz.ntmps144 Tryz.results144 rfl fun N=>?_
 repeat' (first|with_reducible refine aP ?_|with_reducible refine aO 6 ?_|refine zt ?_|(refine isR ?_;first|refine zo ?_|refine dW (c1 _) (fun hb=>?_) (fun hb=>?_)|refine dW (c1) (fun hb=>?_) (fun hb=>?_)|refine dW (c2 _) (fun hb=>?_) (fun hb=>?_)|refine dW (c2) (fun hb=>?_) (fun hb=>?_)|refine dW (c3 _) (fun hb=>?_) (fun hb=>?_)|refine dW (c3) (fun hb=>?_) (fun hb=>?_)|refine dW (c4 _) (fun hb=>?_) (fun hb=>?_)|refine dW (c4) (fun hb=>?_) (fun hb=>?_)|refine zX ?_)|refine zr ?_|exact ah)
 all_goals (show V.bool _=V.bool _;first|rfl|simp_all)
end nP
namespace fQ
open cu bX dn Abs
variable {l u:List UInt8}
deriving instance DecidableEq for aG
theorem KV {α:Type} {p:α→Bool}:∀ {xs:List α} {b:α},xs.find? p=some b↔∃ i:Nat,xs[i]? = some b∧p b=true∧∀ (j:Nat) c,j<i→xs[j]? = some c→p c=false
 | [],b=>by simp
 | x::xs,b=>by
  rw [List.find?_cons]
  cases h:p x with
  | true =>
   constructor
   ·intro e;cases e
    exact ⟨0,rfl,h,fun j c hj=>by omega⟩
   ·rintro ⟨i,h1,h2,h3⟩
    rcases i with _|i
    ·exact h1
    ·have:=h3 0 x (by omega) rfl
     rw [h] at this;cases this
  | false =>
   show List.find? p xs=some b↔_
   rw [KV (xs:=xs)]
   constructor
   ·rintro ⟨i,h1,h2,h3⟩
    refine ⟨i+1,by simpa using h1,h2,fun j c hj hc=>?_⟩
    rcases j with _|j
    ·simp at hc;subst hc;exact h
    ·exact h3 j c (by omega) (by simpa using hc)
   ·rintro ⟨i,h1,h2,h3⟩
    rcases i with _|i
    ·simp at h1;subst h1;rw [h] at h2;cases h2
    ·exact ⟨i,by simpa using h1,h2,fun j c hj hc=>h3 (j+1) c (by omega) (by simpa using hc)⟩
theorem ZW {α:Type} {p:α→Bool} {xs:List α}:xs.find? p=none↔∀ (j:Nat) c,xs[j]? = some c→p c=false:=by
 rw [List.find?_eq_none]
 constructor
 ·intro h j c hc
  simpa using h c (List.mem_of_getElem? hc)
 ·intro h c hc
  obtain ⟨j,hj⟩:=List.mem_iff_getElem?.1 hc
  simpa using h j c hj
theorem Zp {α:Type} {p:α→Bool} {xs:List α} {k:Nat} {d:α} (h:xs[k]? = some d):(xs.take (k+1)).find? p=((xs.take k).find? p).or (if p d then some d else none):=by
 obtain ⟨hk,rfl⟩:=List.getElem?_eq_some_iff.1 h
 rw [List.take_succ_eq_append_getElem hk,List.find?_append]
 congr 1
 rw [List.find?_cons]
 cases p xs[k]<;>rfl
def up:List UInt8→List UInt8
 | []=>[]
 | c::r=>if c=46 then r else up r
theorem ZR (h:l.contains 46=false):up l=[]:=by
 induction l with
 | nil=>rfl
 | cons c r ih =>
  simp only [List.contains_cons,Bool.or_eq_false_iff,beq_eq_false_iff_ne] at h
  unfold up
  rw [if_neg (fun e=>h.1 e.symm),ih h.2]
theorem adt {a r:List UInt8} (h:a.contains 46=false):up (a++46::r)=r:=by
 induction a with
 | nil=>simp [up]
 | cons c a ih =>
  simp only [List.contains_cons,Bool.or_eq_false_iff,beq_eq_false_iff_ne] at h
  rw [List.cons_append,up,if_neg (fun e=>h.1 e.symm),ih h.2]
def ch (l:List UInt8):List (List UInt8):=l::after l
theorem abO {h:List UInt8} (h0:h≠[]) (ha:address h=false):xw h=ch h:=by unfold xw ch;rw [if_neg h0,ha];rfl
def bR (l:List UInt8):Bool:=decide (dS l=(l,0))
structure Hst (l:List UInt8):Prop where
 fold:fold l=l
 len:l.length≤253
 lab:(split 46 l).all label=true
theorem sU (l:List UInt8):bR l=true↔Hst l:=by
 unfold bR
 rw [decide_eq_true_eq]
 constructor
 ·intro e
  obtain ⟨h1,h2,h3⟩:=Vt e
  exact ⟨h1.symm,h2,by rw [← h1] at h3;exact h3⟩
 ·intro ⟨h1,h2,h3⟩
  unfold dS
  rw [if_neg (by omega),h1,if_pos h3]
theorem Hst.ne (h:Hst l):l≠[]:=fun e=>by
 have:=h.lab
 rw [e] at this
 simp [split,label] at this
theorem Hst.part {x:List UInt8} (h:Hst (x++46::u)):Hst u:=by
 obtain ⟨h1,h2,h3⟩:=h
 refine ⟨?_,by simp at h2;omega,?_⟩
 ·rw [KE,show bX.fold (46::u)=jK 46::bX.fold u from rfl] at h1
  have hl:(bX.fold x).length=x.length:=by simp [bX.fold]
  have:=(List.append_inj h1 hl).2
  exact (List.cons.injEq _ _ _ _ ▸ this).2
 ·rw [FY,List.all_append,Bool.and_eq_true] at h3
  exact h3.2
theorem Hst.mem (h:Hst l) (hu:u∈ch l):Hst u:=by
 unfold ch at hu
 rcases List.mem_cons.1 hu with rfl|hu
 ·exact h
 ·obtain ⟨x,rfl⟩:=(pz u l).1 hu
  exact h.part
def oU (r:aG):Nat:=if r.kind<1∨3<r.kind then 7 else if bR r.name=false∨address r.name=true∨(r.kind=3∧up r.name=[]) then 1 else 0
def jy (seen:List aG):List aG→Nat
 | []=>0
 | r::rest=>if oU r≠0 then oU r else if r∈seen then 6 else jy (seen++[r]) rest
def bA (L:List aG):Nat:=if 16<L.length then 2 else jy [] L
structure aad (L:List aG):Prop where
 ok:∀ r∈L,oU r=0
 once:∀ (i:Nat) r,L[i]? = some r→r ∉ L.take i
theorem zG:∀ {L seen:List aG},jy seen L=0→∀ (i:Nat) r,L[i]? = some r→oU r=0∧r ∉ seen++L.take i
 | [],_,_,i,r,h=>by simp at h
 | x::L,seen,e,i,r,h=>by
  unfold jy at e
  split at e
  ·rename_i hb;exact absurd e hb
  ·rename_i hb
   split at e
   ·cases e
   ·rename_i hs
    rcases i with _|i
    ·simp at h;subst h
     exact ⟨by omega,by simpa using hs⟩
    ·obtain ⟨h1,h2⟩:=zG e i r (by simpa using h)
     exact ⟨h1,by simpa using h2⟩
theorem sK {L:List aG} (h:bA L=0):aad L∧L.length≤16:=by
 unfold bA at h
 split at h
 ·cases h
 ·refine ⟨⟨fun r hr=>?_,fun i r hi=>?_⟩,by omega⟩
  ·obtain ⟨i,hi⟩:=List.mem_iff_getElem?.1 hr
   exact (zG h i r hi).1
  ·have:=(zG h i r hi).2
   simpa using this
theorem abW {r:aG} (h:oU r=0):1≤r.kind∧r.kind≤3∧Hst r.name∧address r.name=false∧(r.kind=3→up r.name≠[]):=by
 unfold oU at h
 split at h
 ·cases h
 ·rename_i h1
  split at h
  ·cases h
  ·rename_i h2
   refine ⟨by omega,by omega,(sU _).1 ?_,?_,fun h3 h4=>h2 (.inr (.inr ⟨h3,h4⟩))⟩
   ·cases hh:bR r.name with
    | true=>rfl
    | false=>exact absurd (.inl hh) h2
   ·cases hh:address r.name with
    | false=>rfl
    | true=>exact absurd (.inr (.inl hh)) h2
def rIn (L:List aG) (kd:Int) (d:List UInt8):Bool:=decide ((⟨kd,d⟩:aG)∈L)
def bIn (L:List aG) (d:List UInt8):Bool:=rIn L 1 d||rIn L 2 (up d)
def xG (L:List aG) (h:List UInt8):List UInt8:=if address h then [] else match (ch h).find? (rIn L 3) with
 | some d=>up d
 | none=>match (ch h).find? (bIn L) with
  | some d=>d
  | none=>((ch h).getLast?).getD h
end fQ
namespace nH
section
variable {α β:Type}
variable {L:List α}
def oK (L:List α) (i j:Nat):List α:=match L[i]?,L[j]? with
 | some x,some y=>(L.set i y).set j x
 | _,_=>L
def qQ (lt:α→α→Bool) (L:List α) (i j:Nat):Bool:=match L[i]?,L[j]? with
 | some x,some y=>lt x y
 | _,_=>false
def y9 (lt:α→α→Bool) (a:Nat):Nat→List α→List α
 | 0,L=>L
 | j+1,L=>if a<j+1∧qQ lt L (j+1) j=true then y9 lt a j (oK L (j+1) j) else L
def wW (lt:α→α→Bool) (a:Nat):Nat→Nat→List α→List α
 | 0,_,L=>L
 | n+1,i,L=>wW lt a n (i+1) (y9 lt a i L)
def ins (lt:α→α→Bool) (L:List α) (a b:Nat):List α:=wW lt a (b-(a+1)) (a+1) L
def bs (p:Nat→Bool):Nat→Nat→Nat→Nat
 | 0,i,_=>i
 | f+1,i,j=>if i<j then (if p ((i+j)/2)=true then bs p f ((i+j)/2+1) j else bs p f i ((i+j)/2)) else i
def upF:Nat→Nat→List α→List α
 | 0,_,L=>L
 | n+1,k,L=>upF n (k+1) (oK L k (k+1))
def oq (i:Nat):Nat→List α→List α
 | 0,L=>L
 | k+1,L=>if i<k+1 then oq i k (oK L (k+1) k) else L
def swR:Nat→Nat→Nat→List α→List α
 | 0,_,_,L=>L
 | n+1,a,b,L=>swR n (a+1) (b+1) (oK L a b)
def yJ:Nat→List α→Nat→Nat→Nat→List α
 | 0,L,_,_,_=>L
 | f+1,L,m,i,j=>if i=j then swR i (m-i) m L else if j<i then yJ f (swR j (m-i) m L) m (i-j) j else yJ f (swR i (m-i) (m+j-i) L) m i (j-i)
def s0F (a m b:Nat):Nat:=if (a+b)/2<m then (a+b)/2+m-b else a
def rF (a m b:Nat):Nat:=if (a+b)/2<m then (a+b)/2 else m
def sF (lt:α→α→Bool) (L:List α) (a m b:Nat):Nat:=bs (fun c => !qQ lt L ((a+b)/2+m-1-c) c) (rF a m b-s0F a m b) (s0F a m b) (rF a m b)
def qF (L:List α) (s m e:Nat):List α:=if s<m∧m<e then yJ (e-s) L m (m-s) (e-m) else L
def lD (lt:α→α→Bool):Nat→List α→Nat→Nat→Nat→List α
 | 0,L,_,_,_=>L
 | f+1,L,a,m,b =>
  if m-a=1 then upF (bs (fun h=>qQ lt L h a) (b-m) m b-1-a) a L
  else if b-m=1 then oq (bs (fun h => !qQ lt L m h) (m-a) a m) m L
  else (fun s e mid=>(fun L2=>if mid<e∧e<b then lD lt f L2 mid e b else L2) (if a<s∧s<mid then lD lt f (qF L s m e) a s mid else qF L s m e)) (sF lt L a m b) ((a+b)/2+m-sF lt L a m b) ((a+b)/2)
def uX (lt:α→α→Bool) (n k:Nat):Nat→Nat→List α→List α
 | 0,_,L=>L
 | f+1,a,L=>if a+2*k≤n then uX lt n k f (a+2*k) (lD lt (2*k) L a (a+k) (a+2*k)) else if a+k<n then lD lt (n-a) L a (a+k) n else L
def E5 (lt:α→α→Bool) (n:Nat):Nat→Nat→List α→List α
 | 0,_,L=>L
 | f+1,a,L=>if a+20≤n then E5 lt n f (a+20) (ins lt L a (a+20)) else ins lt L a n
def jl (lt:α→α→Bool) (n:Nat):Nat→Nat→List α→List α
 | 0,_,L=>L
 | f+1,k,L=>if k<n then jl lt n f (2*k) (uX lt n k (n+1) 0 L) else L
def nD (lt:α→α→Bool) (L:List α):List α:=jl lt L.length L.length 20 (E5 lt L.length (L.length+1) 0 L)
theorem ug (L:List α) (i j:Nat):(oK L i j).length=L.length:=by unfold oK;split<;>simp
theorem KH {lt:α→α→Bool} {a:Nat}:∀ (j:Nat) (L:List α),(y9 lt a j L).length=L.length
 | 0,L=>rfl
 | j+1,L=>by
  unfold y9
  split
  ·rw [KH j,ug]
  ·rfl
theorem LF {lt:α→α→Bool} {a:Nat}:∀ (n i:Nat) (L:List α),(wW lt a n i L).length=L.length
 | 0,_,L=>rfl
 | n+1,i,L=>by unfold wW;rw [LF n,KH]
theorem Ia {lt:α→α→Bool} {a b:Nat}:(ins lt L a b).length=L.length:=LF _ _ _
theorem PD:∀ (n k:Nat) (L:List α),(upF n k L).length=L.length
 | 0,_,L=>rfl
 | n+1,k,L=>by unfold upF;rw [PD n,ug]
theorem Gh {i:Nat}:∀ (k:Nat) (L:List α),(oq i k L).length=L.length
 | 0,L=>rfl
 | k+1,L=>by
  unfold oq
  split
  ·rw [Gh k,ug]
  ·rfl
theorem uM:∀ (n a b:Nat) (L:List α),(swR n a b L).length=L.length
 | 0,_,_,L=>rfl
 | n+1,a,b,L=>by unfold swR;rw [uM n,ug]
theorem Eh:∀ (f:Nat) (L:List α) (m i j:Nat),(yJ f L m i j).length=L.length
 | 0,L,_,_,_=>rfl
 | f+1,L,m,i,j=>by
  unfold yJ
  split
  ·rw [uM]
  ·split
   ·rw [Eh f,uM]
   ·rw [Eh f,uM]
theorem Fh {s m e:Nat}:(qF L s m e).length=L.length:=by
 unfold qF
 split
 ·exact Eh _ _ _ _ _
 ·rfl
theorem sJ {lt:α→α→Bool}:∀ (f:Nat) (L:List α) (a m b:Nat),(lD lt f L a m b).length=L.length
 | 0,L,_,_,_=>rfl
 | f+1,L,a,m,b=>by
  unfold lD
  split
  ·exact PD _ _ _
  ·split
   ·exact Gh _ _
   ·dsimp only
    repeat' split
    all_goals simp only [sJ f,Fh]
theorem yN {lt:α→α→Bool} {n k:Nat}:∀ (f a:Nat) (L:List α),(uX lt n k f a L).length=L.length
 | 0,_,L=>rfl
 | f+1,a,L=>by
  unfold uX
  split
  ·rw [yN f,sJ]
  ·split
   ·exact sJ _ _ _ _ _
   ·rfl
theorem Dm {lt:α→α→Bool} {n:Nat}:∀ (f a:Nat) (L:List α),(E5 lt n f a L).length=L.length
 | 0,_,L=>rfl
 | f+1,a,L=>by
  unfold E5
  split
  ·rw [Dm f,Ia]
  ·exact Ia
theorem JW {lt:α→α→Bool} {n:Nat}:∀ (f k:Nat) (L:List α),(jl lt n f k L).length=L.length
 | 0,_,L=>rfl
 | f+1,k,L=>by
  unfold jl
  split
  ·rw [JW f,yN]
  ·rfl
theorem FV {lt:α→α→Bool}:(nD lt L).length=L.length:=by unfold nD;rw [JW,Dm]
theorem uK (g:α→β) (L:List α) (i j:Nat):(oK L i j).map g=oK (L.map g) i j:=by
 unfold oK
 rw [List.getElem?_map,List.getElem?_map]
 cases L[i]? <;> cases L[j]? <;> simp [List.map_set]
variable {lt:α→α→Bool} {lt':β→β→Bool} {g:α→β}
variable {L:List α}
theorem K3 (h:∀ x y,lt x y=lt' (g x) (g y)) (L:List α) (i j:Nat):qQ lt L i j=qQ lt' (L.map g) i j:=by
 unfold qQ
 rw [List.getElem?_map,List.getElem?_map]
 cases L[i]? <;> cases L[j]? <;> simp [h]
theorem Jw (h:∀ x y,lt x y=lt' (g x) (g y)) {a:Nat}:∀ (j:Nat) (L:List α),(y9 lt a j L).map g=y9 lt' a j (L.map g)
 | 0,L=>rfl
 | j+1,L=>by
  unfold y9
  rw [apply_ite (List.map g),Jw h j,uK,K3 h]
theorem Kk (h:∀ x y,lt x y=lt' (g x) (g y)) {a:Nat}:∀ (n i:Nat) (L:List α),(wW lt a n i L).map g=wW lt' a n i (L.map g)
 | 0,_,L=>rfl
 | n+1,i,L=>by unfold wW;rw [Kk h n,Jw h]
theorem XF (h:∀ x y,lt x y=lt' (g x) (g y)) {a b:Nat}:(ins lt L a b).map g=ins lt' (L.map g) a b:=Kk h _ _ _
theorem OO (g:α→β):∀ (n k:Nat) (L:List α),(upF n k L).map g=upF n k (L.map g)
 | 0,_,L=>rfl
 | n+1,k,L=>by unfold upF;rw [OO g n,uK]
theorem FD (g:α→β) {i:Nat}:∀ (k:Nat) (L:List α),(oq i k L).map g=oq i k (L.map g)
 | 0,L=>rfl
 | k+1,L=>by unfold oq;rw [apply_ite (List.map g),FD g k,uK]
theorem Ba (g:α→β):∀ (n a b:Nat) (L:List α),(swR n a b L).map g=swR n a b (L.map g)
 | 0,_,_,L=>rfl
 | n+1,a,b,L=>by unfold swR;rw [Ba g n,uK]
theorem BQ (g:α→β):∀ (f:Nat) (L:List α) (m i j:Nat),(yJ f L m i j).map g=yJ f (L.map g) m i j
 | 0,L,_,_,_=>rfl
 | f+1,L,m,i,j=>by unfold yJ;rw [apply_ite (List.map g),apply_ite (List.map g),BQ g f,BQ g f,Ba,Ba,Ba]
theorem Rk (g:α→β) {s m e:Nat}:(qF L s m e).map g=qF (L.map g) s m e:=by
 unfold qF
 rw [apply_ite (List.map g),BQ]
theorem JJ (h:∀ x y,lt x y=lt' (g x) (g y)):∀ (f:Nat) (L:List α) (a m b:Nat),(lD lt f L a m b).map g=lD lt' f (L.map g) a m b
 | 0,L,_,_,_=>rfl
 | f+1,L,a,m,b=>by
  have e:qQ lt L=qQ lt' (L.map g):=funext fun i=>funext fun j=>K3 h L i j
  have e2:sF lt L a m b=sF lt' (L.map g) a m b:=by unfold sF;rw [e]
  unfold lD
  simp only [apply_ite (List.map g),JJ h f,OO,FD,Rk,e,e2]
theorem Gd (h:∀ x y,lt x y=lt' (g x) (g y)) {n k:Nat}:∀ (f a:Nat) (L:List α),(uX lt n k f a L).map g=uX lt' n k f a (L.map g)
 | 0,_,L=>rfl
 | f+1,a,L=>by unfold uX;simp only [apply_ite (List.map g),Gd h f,JJ h]
theorem Jq (h:∀ x y,lt x y=lt' (g x) (g y)) {n:Nat}:∀ (f a:Nat) (L:List α),(E5 lt n f a L).map g=E5 lt' n f a (L.map g)
 | 0,_,L=>rfl
 | f+1,a,L=>by unfold E5;simp only [apply_ite (List.map g),Jq h f,XF h]
theorem KY (h:∀ x y,lt x y=lt' (g x) (g y)) {n:Nat}:∀ (f k:Nat) (L:List α),(jl lt n f k L).map g=jl lt' n f k (L.map g)
 | 0,_,L=>rfl
 | f+1,k,L=>by unfold jl;simp only [apply_ite (List.map g),KY h f,Gd h]
theorem Sq (h:∀ x y,lt x y=lt' (g x) (g y)) (L:List α):(nD lt L).map g=nD lt' (L.map g):=by
 unfold nD
 rw [KY h,Jq h,List.length_map]
end
section
variable {β:Type} {lt:β→β→Bool} {R:β→β→Prop}
theorem xW (p:Nat→Bool):∀ (f i j:Nat),i≤j→j-i≤f→i≤bs p f i j∧bs p f i j≤j∧(i<bs p f i j→p (bs p f i j-1)=true)∧(bs p f i j<j→p (bs p f i j)=false)
 | 0,i,j,h,hf=>by unfold bs;refine ⟨Nat.le_refl _,h,by omega,by omega⟩
 | f+1,i,j,h,hf=>by
  unfold bs
  by_cases hij:i<j
  ·rw [if_pos hij]
   by_cases hp:p ((i+j)/2)=true
   ·rw [if_pos hp]
    obtain ⟨h1,h2,h3,h4⟩:=xW p f ((i+j)/2+1) j (by omega) (by omega)
    refine ⟨by omega,h2,fun _=>?_,h4⟩
    by_cases he:(i+j)/2+1<bs p f ((i+j)/2+1) j
    ·exact h3 he
    ·rw [show bs p f ((i+j)/2+1) j-1=(i+j)/2 by omega];exact hp
   ·rw [if_neg hp]
    obtain ⟨h1,h2,h3,h4⟩:=xW p f i ((i+j)/2) (by omega) (by omega)
    refine ⟨h1,by omega,h3,fun _=>?_⟩
    by_cases he:bs p f i ((i+j)/2)<(i+j)/2
    ·exact h4 he
    ·rw [show bs p f i ((i+j)/2)=(i+j)/2 by omega];simpa using hp
  ·rw [if_neg hij];refine ⟨Nat.le_refl _,h,by omega,by omega⟩
end
section
variable {α:Type} {lt:α→α→Bool}
structure Weak (lt:α→α→Bool):Prop where
 asymm:∀ x y,lt x y=true→lt y x=false
 neg:∀ x y z,lt x z=true→lt x y=true∨lt y z=true
def Ah (lt:α→α→Bool) (p q:α × Nat):Prop:=lt p.1 q.1=true∨lt q.1 p.1=false∧p.2<q.2
theorem Ah.trans (hw:Weak lt) (p q r:α × Nat) (h1:Ah lt p q) (h2:Ah lt q r):Ah lt p r:=by
 rcases h1 with h1|⟨h1,k1⟩<;>rcases h2 with h2|⟨h2,k2⟩
 ·rcases hw.neg _ r.1 _ h1 with h|h
  ·exact .inl h
  ·rw [hw.asymm _ _ h2] at h;cases h
 ·rcases hw.neg _ r.1 _ h1 with h|h
  ·exact .inl h
  ·rw [h2] at h;cases h
 ·rcases hw.neg _ p.1 _ h2 with h|h
  ·rw [h1] at h;cases h
  ·exact .inl h
 ·refine .inr ⟨?_,by omega⟩
  cases h:lt r.1 p.1 with
  | false=>rfl
  | true =>
   rcases hw.neg _ q.1 _ h with h|h
   ·rw [h2] at h;cases h
   ·rw [h1] at h;cases h
end
end nH
end Go.Proofs.YtlfdjpgghiemfaaGreatDoor
