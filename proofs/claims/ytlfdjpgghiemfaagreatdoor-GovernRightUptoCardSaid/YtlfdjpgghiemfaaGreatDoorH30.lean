/- Texts of the proof, joined: JarL, JarM, JarN. -/
import Derived.Test.YtlfdjpgghiemfaaGreatDoorH29
import Derived.Test.YtlfdjpgghiemfaaGreatDoorH22
set_option maxHeartbeats 4000000
set_option maxRecDepth 100000
namespace Go.Proofs.YtlfdjpgghiemfaaGreatDoor
namespace nu
open Go.RowKit Mem Abs Scan fI gF iG iP
variable {c:ai} {L l:List ai} {P:List (List UInt8 × Nat)}
abbrev Ir (c:ai):Abs.V:=.agg [au c.name,au c.domain,au c.path]
def ekK:Ty:=(nth tb 126).get rfl
def ekI:Ty:=(nth tb 3).get rfl
def ekT:Ty:=(nth tb 9).get rfl
def mkS (p:ai × Nat):Abs.V × Abs.V:=(Ir p.1,nV p.2)
def mkN (p:ai × Nat):Abs.V × Abs.V:=(.int .i64 p.1.no,nV p.2)
def mkP (p:List UInt8 × Nat):Abs.V × Abs.V:=(au p.1,nV p.2)
theorem Ho {α:Type} {ek:Ty} {f:α→Abs.V × Abs.V} {k:Abs.V} {p:α→Bool} (h:∀ a,eqK ek k (f a).1=p a):∀ (M:List α) (i:Nat),dI ek k (M.map f) i=(M.findIdx? p).map (· + i)
 | [],i=>rfl
 | a::M,i=>by
  rw [List.map_cons,dI,h a,List.findIdx?_cons]
  cases p a with
  | true=>simp
  | false =>
   rw [cond_false,Ho h M (i+1)]
   cases M.findIdx? p<;>simp<;>omega
theorem VR (c d:ai):eqK ekK (Ir c) (Ir d)=bq d c:=by
 have h:eqK ekK (Ir c) (Ir d)=(eqS (au c.name) (au d.name)&&(eqS (au c.domain) (au d.domain)&&(eqS (au c.path) (au d.path)&&true))):=rfl
 rw [h,jA,jA,jA,Bool.and_true]
 unfold bq
 simp only [eq_comm]
theorem adf (c d:ai):eqK ekI (.int .i64 c.no) (.int .i64 d.no)=decide (d.no=c.no):=by
 have h:eqK ekI (.int .i64 c.no) (.int .i64 d.no)=decide (c.no=d.no):=rfl
 rw [h]
 simp only [eq_comm]
theorem aaE (c d:List UInt8):eqK ekT (au c) (au d)=decide (d=c):=by
 have h:eqK ekT (au c) (au d)=eqS (au c) (au d):=rfl
 rw [h,jA]
 simp only [eq_comm]
theorem Ud {ek:Ty} {f:ai × Nat→Abs.V × Abs.V} {k:Abs.V} {p:ai→Bool} (h:∀ a,eqK ek k (f a).1=p a.1) (hf:∀ a,(f a).2=nV a.2) (M:List ai) :
  (dI ek k (M.zipIdx.map f) 0=none∧M.any p=false)∨(∃ i q n,dI ek k (M.zipIdx.map f) 0=some i∧(M.zipIdx.map f)[i]? = some (q,nV n)∧M.any p=true):=by
 have e:=Ho h M.zipIdx 0
 cases hc:M.zipIdx.findIdx? (fun a=>p a.1) with
 | none =>
  rw [hc] at e
  refine .inl ⟨e,?_⟩
  rw [List.findIdx?_eq_none_iff] at hc
  rw [List.any_eq_false]
  intro x hx
  obtain ⟨i,hi⟩:=List.mem_iff_getElem?.1 hx
  have:=hc (x,i) (by rw [List.mem_zipIdx_iff_getElem?];exact hi)
  simpa using this
 | some i =>
  rw [hc] at e
  obtain ⟨hi,h1,_⟩:=List.findIdx?_eq_some_iff_getElem.1 hc
  refine .inr ⟨i,(f M.zipIdx[i]).1,(M.zipIdx[i]).2,e,?_,?_⟩
  ·rw [List.getElem?_map,List.getElem?_eq_getElem hi,Option.map_some,← hf]
  ·rw [List.any_eq_true]
   have hi':i<M.length:=by simpa using hi
   exact ⟨M[i],List.getElem_mem hi',by simpa using h1⟩
theorem Nk {k:Nat} (h:L[k]? = some c):(L.take (k+1)).zipIdx=(L.take k).zipIdx++[(c,k)]:=by
 have hk:=(List.getElem?_eq_some_iff.1 h).1
 rw [List.take_add_one,h,List.zipIdx_append]
 have:(L.take k).length=k:=by rw [List.length_take];omega
 rw [this]
 simp
theorem OW {α:Type} {f g:α→Bool}:∀ l:List α,(l.any fun d=>f d||g d)=(l.any f||l.any g)
 | []=>rfl
 | d::l=>by
  rw [List.any_cons,List.any_cons,List.any_cons,OW l]
  cases f d<;>cases g d<;>cases l.any f<;>rfl
structure Per (P:List (List UInt8 × Nat)) (l:List ai):Prop where
 once:P.Pairwise fun p q=>p.1≠q.1
 count:∀ p∈P,p.2=l.countP fun c=>decide (c.domain=p.1)
 all:∀ c∈l,∃ p∈P,p.1=c.domain
theorem Per.find (h:Per P l) (d:List UInt8):(dI ekT (au d) (P.map mkP) 0=none∧P.findIdx? (fun q=>decide (q.1=d))=none∧(∀ p∈P,p.1≠d)∧(l.countP fun c=>decide (c.domain=d))=0) ∨
  (∃ i,dI ekT (au d) (P.map mkP) 0=some i∧P.findIdx? (fun q=>decide (q.1=d))=some i∧P[i]? = some (d,l.countP fun c=>decide (c.domain=d))):=by
 have e:=Ho (f:=mkP) (p:=fun q=>decide (q.1=d)) (fun a=>aaE d a.1) P 0
 cases hc:P.findIdx? (fun q=>decide (q.1=d)) with
 | none =>
  rw [hc] at e
  rw [List.findIdx?_eq_none_iff] at hc
  have hn:∀ p∈P,p.1≠d:=fun p hp=>by simpa using hc p hp
  refine .inl ⟨e,rfl,hn,?_⟩
  rw [List.countP_eq_zero]
  intro c hcl
  obtain ⟨p,hp,hpd⟩:=h.all c hcl
  simp [← hpd,hn p hp]
 | some i =>
  rw [hc] at e
  obtain ⟨hi,h1,_⟩:=List.findIdx?_eq_some_iff_getElem.1 hc
  refine .inr ⟨i,e,rfl,?_⟩
  have h2:(P[i]).1=d:=by simpa using h1
  have h3:=h.count P[i] (List.getElem_mem hi)
  rw [List.getElem?_eq_getElem hi,← h2,← h3]
theorem Per.new (h:Per P l) (hn:∀ p∈P,p.1≠c.domain) (h0:(l.countP fun x=>decide (x.domain=c.domain))=0):Per (P++[(c.domain,1)]) (l++[c]) where
 once:=by
  rw [List.pairwise_append]
  exact ⟨h.once,by simp,fun a ha b hb=>by rw [List.mem_singleton] at hb;subst hb;exact hn a ha⟩
 count p hp:=by
  rw [List.countP_append]
  rcases List.mem_append.1 hp with hp|hp
  ·rw [h.count p hp]
   have:=hn p hp
   simp [Ne.symm this]
  ·rw [List.mem_singleton] at hp
   subst hp
   simp [h0]
 all x hx:=by
  rcases List.mem_append.1 hx with hx|hx
  ·obtain ⟨p,hp,e⟩:=h.all x hx
   exact ⟨p,List.mem_append_left _ hp,e⟩
  ·rw [List.mem_singleton] at hx
   subst hx
   exact ⟨(x.domain,1),by simp,rfl⟩
theorem Per.more {i n:Nat} (h:Per P l) (hi:P[i]? = some (c.domain,n)):Per (P.set i (c.domain,n+1)) (l++[c]) where
 once:=by
  obtain ⟨hlt,e⟩:=List.getElem?_eq_some_iff.1 hi
  have hp:=List.pairwise_iff_getElem.1 h.once
  rw [List.pairwise_iff_getElem]
  intro a b ha hb hab
  have ha':a<P.length:=by simpa using ha
  have hb':b<P.length:=by simpa using hb
  have key:∀ j (hj:j<P.length),((P.set i (c.domain,n+1))[j]'(by simpa using hj)).1=(P[j]).1:=fun j hj=>by
   rw [List.getElem_set]
   split
   ·rename_i q;subst q;rw [e]
   ·rfl
  rw [key a ha',key b hb']
  exact hp a b ha' hb' hab
 count p hp:=by
  rw [List.countP_append]
  obtain ⟨hlt,e⟩:=List.getElem?_eq_some_iff.1 hi
  obtain ⟨j,hj⟩:=List.mem_iff_getElem?.1 hp
  rw [List.getElem?_set] at hj
  have hc:=h.count (c.domain,n) (List.mem_of_getElem? hi)
  by_cases q:i=j
  ·subst q
   rw [if_pos rfl,if_pos hlt] at hj
   cases hj
   dsimp only at hc ⊢
   rw [← hc]
   simp
  ·rw [if_neg q] at hj
   have hc2:=h.count p (List.mem_of_getElem? hj)
   obtain ⟨hlt2,e2⟩:=List.getElem?_eq_some_iff.1 hj
   have hne:p.1≠c.domain:=fun e3=>by
    have hp:=List.pairwise_iff_getElem.1 h.once
    rcases Nat.lt_or_gt_of_ne q with q|q
    ·exact hp i j hlt hlt2 q (by rw [e,e2,e3])
    ·exact hp j i hlt2 hlt q (by rw [e,e2,e3])
   rw [hc2]
   simp [Ne.symm hne]
 all x hx:=by
  obtain ⟨hlt,e⟩:=List.getElem?_eq_some_iff.1 hi
  rcases List.mem_append.1 hx with hx|hx
  ·obtain ⟨p,hp,e1⟩:=h.all x hx
   obtain ⟨j,hj⟩:=List.mem_iff_getElem?.1 hp
   by_cases q:i=j
   ·subst q
    rw [hi] at hj
    cases hj
    exact ⟨(c.domain,n+1),List.mem_of_getElem? (i:=i) (by rw [List.getElem?_set,if_pos rfl,if_pos hlt]),e1⟩
   ·exact ⟨p,List.mem_of_getElem? (i:=j) (by rw [List.getElem?_set,if_neg q];exact hj),e1⟩
  ·rw [List.mem_singleton] at hx
   subst hx
   exact ⟨(x.domain,n+1),List.mem_of_getElem? (i:=i) (by rw [List.getElem?_set,if_pos rfl,if_pos hlt]),rfl⟩
theorem G9:aj Tryz.prog 63 [c.v] (Ir c):=by
 refine aU af Tryz.func63 rfl Tryz.ntmps63 Tryz.results63 rfl fun N=>?_
 repeat' (first|refine zt ?_|(refine isR ?_;refine zo ?_)|refine zr ?_|exact ah)
 all_goals rfl
abbrev stL (L:List ai) (nx:Int) (k:Nat) (Z:List (ai × Nat)) (P:List (List UInt8 × Nat)):S:=⟨[(1,.fp (V.cells (dL L nx)) 0),(3,.mp 0),(4,.mp 1),(5,.mp 2),(20,.fro (L.map ai.v)),(21,nV L.length),(22,nV k)],[(0,some (.map (Z.map mkS))),(1,some (.map (Z.map mkN))),(2,some (.map (P.map mkP)))],3,91⟩
def uP (L:List ai):Nat→List (List UInt8 × Nat)
 | 0=>[]
 | k+1=>match L[k]? with
  | none=>uP L k
  | some c=>match (uP L k).findIdx? (fun q=>decide (q.1=c.domain)) with
   | none=>uP L k++[(c.domain,1)]
   | some i=>(uP L k).set i (c.domain,RO L c k+1)
theorem O6 (L:List ai):∀ k,k≤L.length→Per (uP L k) (L.take k)
 | 0,_=>⟨by simp [uP],by simp [uP],by simp⟩
 | k+1,hk=>by
  have hc:L[k]? = some L[k]:=by simp
  have ih:=O6 L k (by omega)
  rw [List.take_add_one,hc,uP,hc]
  dsimp only
  rcases ih.find (L[k]).domain with ⟨_,h2,h3,h4⟩|⟨i,_,h2,h3⟩
  ·rw [h2];exact ih.new h3 h4
  ·rw [h2];exact ih.more h3
theorem og {nx:Int}:aj Tryz.prog 32 [dL L nx] (.int .i64 ((dD L nx:Nat):Int)):=aj.lim fun hl=>by
 have hlen:L.length≤140737488355328:=by
  have:=hl.1
  rw [dL,V.Lim] at this
  have:=this.1
  rw [V.Lim,List.length_map] at this
  exact this.1
 clear hl
 have hml:(L.map ai.v).length=L.length:=List.length_map _
 by_cases h12:12<L.length
 ·unfold dD
  rw [if_pos h12]
  refine aU af Tryz.func32 rfl Tryz.ntmps32 Tryz.results32 rfl fun N=>?_
  repeat' (first|refine zt ?_|(refine isR ?_;first|refine zo ?_|refine zX ?_|(refine zs1 ?_ ?_<;>intro hc))|refine zr ?_|exact ah)
  all_goals first|rfl|(exfalso;omega)
 have hfault:∀ i,i<L.length→scan (jC L nx) i=0→jC L nx i≠0→dD L nx=jC L nx i:=fun i hi h0 hc=>by
  have hs:=F8 (f:=jC L nx) (k:=i) (n:=L.length) h0 hc hi
  unfold dD
  rw [if_neg h12,hs,if_pos hc]
 have hnext:∀ i,scan (jC L nx) i=0→jC L nx i=0→scan (jC L nx) (i+1)=0:=fun i=>yH (f:=jC L nx) (k:=i)
 have hend:scan (jC L nx) L.length=0→dD L nx=if nx<0∨1099511627776<nx then 3 else 0:=fun h=>by
  unfold dD
  rw [if_neg h12,if_neg (by rw [h];simp)]
 generalize dD L nx=R at *
 have hlow:L.length≤1000:=by omega
 refine aU af Tryz.func32 rfl Tryz.ntmps32 Tryz.results32 rfl fun N=>?_
 repeat' (first|refine zt ?_|(refine isR ?_;first|refine zo ?_|refine zM ?_|refine zX ?_|(refine zs1 ?_ ?_<;>intro hc))|refine zr ?_|exact ah)
 refine fq (fun i=>stL L nx i (L.take i).zipIdx (uP L i)) (fun i=>i≤L.length∧scan (jC L nx) i=0) L.length 0 (by exact ah) ⟨Nat.zero_le _,rfl⟩ ?_
 rintro i ⟨hi,hs⟩
 by_cases hi2:i<L.length
 ·have hx:L[i]? = some L[i]:=by simp [hi2]
  have hcode:=YW (nx:=nx) hx
  have hf:=hfault i hi2 hs
  have hn:=hnext i hs
  have hz:=Nk hx
  have hP:=(O6 L i hi).find (L[i]).domain
  have hp1:uP L (i+1)=match (uP L i).findIdx? (fun q=>decide (q.1=(L[i]).domain)) with
   | none=>uP L i++[((L[i]).domain,1)]
   | some j=>(uP L i).set j ((L[i]).domain,RO L L[i] i+1):=by rw [uP,hx]
  have hpe:((L.take i).countP fun c=>decide (c.domain=(L[i]).domain))=RO L L[i] i:=rfl
  rw [hpe] at hP
  have hS:=Ud (f:=mkS) (k:=Ir L[i]) (p:=fun d=>bq d L[i]) (fun a=>VR L[i] a.1) (fun _=>rfl) (L.take i)
  have hN:=Ud (f:=mkN) (k:=.int .i64 (L[i]).no) (p:=fun d=>decide (d.no=(L[i]).no)) (fun a=>adf L[i] a.1) (fun _=>rfl) (L.take i)
  have hzl:((L.take i).zipIdx.map mkS).length≤1000000:=by simp;omega
  have hpl:=abv L L[i] i
  have hany:(L.take i).any (fun d=>bq d L[i]||decide (d.no=(L[i]).no))=((L.take i).any (fun d=>bq d L[i])||(L.take i).any fun d=>decide (d.no=(L[i]).no)):=OW _
  rw [hany] at hcode
  clear hfault hnext hend hany hpe
  generalize (L.take i).any (fun d=>bq d L[i])=aS at *
  generalize (L.take i).any (fun d=>decide (d.no=(L[i]).no))=aN at *
  generalize RO L L[i] i=pJ at *
  generalize hq:uP L (i+1)=P1 at *
  generalize uP L i=P at *
  generalize (L.take (i+1)).zipIdx=Z1 at *
  generalize (L.take i).zipIdx=Z at *
  generalize L[i]=c at *
  subst hz
  have hm:=bT (f:=ai.v) hx
  have c1:=uw (c:=c)
  have ck:=G9 (c:=c)
  by_cases b1:kF c=true
  ·rw [if_pos b1] at hcode
   rw [hcode] at hf
   rw [b1] at c1
   change aj _ _ _ (.bool false) at c1
   obtain rfl:=hf (by decide)
   rcases hS with ⟨s1,_⟩|⟨i1,q1,n1,s1,s2,_⟩<;>rcases hN with ⟨r1,_⟩|⟨i2,q2,n2,r1,r2,_⟩
   all_goals
    skip
    repeat' (first|refine zt ?_|(refine isR ?_;first|refine zo ?_|refine zk ck ?_|refine zk c1 ?_|refine zM ?_|refine zX ?_|(refine zs1 ?_ ?_<;>intro hc))|refine zr ?_|exact ah)
    all_goals first|rfl|(exfalso;omega)
  rw [if_neg b1] at hcode
  have b1:kF c=false:=by simpa using b1
  rw [b1] at c1
  change aj _ _ _ (.bool true) at c1
  by_cases b2:c.no<0∨nx≤c.no
  ·rw [if_pos b2] at hcode
   rw [hcode] at hf
   obtain rfl:=hf (by decide)
   rcases hS with ⟨s1,_⟩|⟨i1,q1,n1,s1,s2,_⟩<;>rcases hN with ⟨r1,_⟩|⟨i2,q2,n2,r1,r2,_⟩
   all_goals
    skip
    repeat' (first|refine zt ?_|(refine isR ?_;first|refine zo ?_|refine zk ck ?_|refine zk c1 ?_|refine zM ?_|refine zX ?_|(refine zs1 ?_ ?_<;>intro hc))|refine zr ?_|exact ah)
    all_goals first|rfl|(exfalso;omega)
  rw [if_neg b2] at hcode
  have b3:¬ c.no<0:=by omega
  have b4:¬ nx≤c.no:=by omega
  by_cases b5:(aS||aN)=true
  ·rw [if_pos b5] at hcode
   rw [hcode] at hf
   obtain rfl:=hf (by decide)
   rcases hS with ⟨s1,s3⟩|⟨i1,q1,n1,s1,s2,s3⟩<;>rcases hN with ⟨r1,r3⟩|⟨i2,q2,n2,r1,r2,r3⟩
   ·rw [s3,r3] at b5;cases b5
   all_goals
    skip
    repeat' (first|refine zt ?_|(refine isR ?_;first|refine zo ?_|refine zk ck ?_|refine zk c1 ?_|refine zM ?_|refine zX ?_|(refine zs1 ?_ ?_<;>intro hc))|refine zr ?_|exact ah)
    all_goals first|rfl|(exfalso;omega)
  rw [if_neg b5] at hcode
  rw [Bool.or_eq_true,not_or] at b5
  obtain ⟨s1,_⟩|⟨i1,q1,n1,_,_,s3⟩:=hS
  ·obtain ⟨r1,_⟩|⟨i2,q2,n2,_,_,r3⟩:=hN
   ·by_cases g4:pJ=4
    ·rw [if_pos g4] at hcode
     rw [hcode] at hf
     obtain rfl:=hf (by decide)
     obtain ⟨_,_,_,p4⟩|⟨j,p1,_,p3⟩:=hP
     ·omega
     ·have p5:(P.map mkP)[j]? = some (au c.domain,nV pJ):=by rw [List.getElem?_map,p3];rfl
      rw [g4] at p5
      repeat' (first|refine zt ?_|(refine isR ?_;first|refine zo ?_|refine zk ck ?_|refine zk c1 ?_|refine zM ?_|refine zX ?_|(refine zs1 ?_ ?_<;>intro hc))|refine zr ?_|exact ah)
      all_goals first|rfl|(exfalso;omega)
    ·rw [if_neg g4] at hcode
     have hn:=hn hcode
     obtain ⟨p1,p2,p3,p4⟩|⟨j,p1,p2,p3⟩:=hP
     ·rw [p2] at hp1
      dsimp only at hp1
      subst hp1
      repeat' (first|refine zt ?_|(refine isR ?_;first|refine zo ?_|refine zk ck ?_|refine zk c1 ?_|refine KZ af ?_|refine Pq mkS (c,i) ?_|refine wZ mkN (c,i) af ?_|refine wZ mkP (c.domain,1) af ?_|refine zM ?_|refine zX ?_|(refine zs1 ?_ ?_<;>intro hc))|refine zr ?_|exact ah)
      refine ⟨⟨by omega,hn⟩,hi2,?_⟩
      exact (by exact x_len [0,1,2])
     ·rw [p2] at hp1
      dsimp only at hp1
      subst hp1
      have p5:(P.map mkP)[j]? = some (au c.domain,nV pJ):=by rw [List.getElem?_map,p3];rfl
      repeat' (first|refine zt ?_|(refine isR ?_;first|refine zo ?_|refine zk ck ?_|refine zk c1 ?_|refine KZ af ?_|refine Pq mkS (c,i) ?_|refine wZ mkN (c,i) af ?_|refine Xa mkP j (c.domain,pJ+1) af ?_|refine zM ?_|refine zX ?_|(refine zs1 ?_ ?_<;>intro hc))|refine zr ?_|exact ah)
      refine ⟨⟨by omega,hn⟩,hi2,?_⟩
      exact (by exact x_len [0,1,2])
   ·exact absurd r3 b5.2
  ·exact absurd s3 b5.1
 ·obtain rfl:i=L.length:=by omega
  have he:=hend hs
  by_cases g:nx<0∨1099511627776<nx
  ·rw [if_pos g] at he
   subst he
   repeat' (first|refine zt ?_|(refine isR ?_;first|refine zo ?_|refine zX ?_|(refine zs1 ?_ ?_<;>intro hc))|refine zr ?_|exact ah)
   all_goals first|rfl|(exfalso;omega)
  ·rw [if_neg g] at he
   subst he
   have g1:¬ nx<0:=by omega
   have g2:¬ 1099511627776<nx:=by omega
   repeat' (first|refine zt ?_|(refine isR ?_;first|refine zo ?_|refine zX ?_|(refine zs1 ?_ ?_<;>intro hc))|refine zr ?_|exact ah)
   all_goals first|rfl|(exfalso;omega)
end nu
namespace oZ
open Go.RowKit Mem Abs Scan fI gF iG iP iQ nu
variable {n:Nat} {now nx:Int} {L:List ai} {c:ai}
abbrev TO:Nat:=188
abbrev TP:Nat:=184
abbrev rC (L:List ai):Blk:=.els TC 13 (L.map ai.v)
abbrev rB:Blk:=.els TP 1 [.loc 2 0 0]
abbrev rO (n:Nat) (nx now:Int):Blk:=.els TO 3 [.agg [.own 0 0 n,.int .i64 nx,.int .i64 now]]
abbrev fnD:Abs.V:=.fn (.func 181) [] [.loc 1 0 0]
def dead (now:Int) (c:ai):Bool := !decide (now<c.expiry)
theorem vC:aj Tryz.prog 11 [c.v,.int .i64 now] (.bool (decide (now<c.expiry))):=by
 by_cases h:now<c.expiry
 ·rw [decide_eq_true h]
  refine aW af Tryz.func11 rfl Tryz.ntmps11 Tryz.results11 rfl fun N=>?_
  repeat' (first|refine zt ?_|(refine isR ?_;first|refine zo ?_|refine zc3 ?_)|refine zr ?_|exact ah)
  all_goals rfl
 ·rw [decide_eq_false h]
  refine aW af Tryz.func11 rfl Tryz.ntmps11 Tryz.results11 rfl fun N=>?_
  repeat' (first|refine zt ?_|(refine isR ?_;first|refine zo ?_|refine zc3 ?_)|refine zr ?_|exact ah)
  all_goals rfl
theorem U4 {M:List ai}:aK Tryz.prog 181 [c.v,.loc 1 0 0] [rC M,rB,rO n nx now] (.bool (dead now c)) [some (rC M),some rB,some (rO n nx now)]:=by
 have c1:=vC (c:=c) (now:=now)
 unfold dead
 generalize decide (now<c.expiry)=b at *
 refine bP af Tryz.func181 rfl Tryz.ntmps181 Tryz.results181 rfl rfl rfl rfl fun N pl=>?_
 repeat' (first|refine zt ?_|(refine isR ?_;first|refine zo ?_|refine zk c1 ?_)|refine aA [0,1,2] ?_ ?_|exact ah)
 ·rfl
 ·exact .on (.same (aT fun _=>rfl)) (.on (.ren rfl) (.on (.ren rfl) .nil))
theorem R6 (hb:L.length≤1000):aK Tryz.prog 182 [.own 0 0 L.length,fnD] [rC L,rB,rO n nx now] (.int .i64 (Ew (L.findIdx? (dead now)))) [some (rC L),some rB,some (rO n nx now)]:=by
 have hml:(L.map ai.v).length=L.length:=List.length_map _
 generalize hR:Ew (L.findIdx? (dead now))=R
 refine bP af Tryz.func182 rfl Tryz.ntmps182 Tryz.results182 rfl rfl rfl rfl fun N pl=>?_
 repeat' (first|refine zt ?_|(refine isR ?_;first|refine zo ?_|refine zX ?_)|exact ah)
 refine fq (fun k=>⟨[(0,.own 0 0 L.length),(1,fnD),(7,nV L.length),(8,nV k)],[(0,some (rC L)),(1,some rB),(2,some (rO n nx now))],3,19⟩) (fun k=>k≤L.length∧∀ j x,j<k→L[j]? = some x→dead now x=false) L.length 0 (by exact ah) ⟨Nat.zero_le _,fun j x h=>by omega⟩ ?_
 rintro k ⟨hk,hd⟩
 by_cases hk2:k<L.length
 ·have hx:L[k]? = some L[k]:=by simp [hk2]
  have c1:=U4 (c:=L[k]) (M:=L) (n:=n) (nx:=nx) (now:=now)
  have hfi:dead now L[k]=true→L.findIdx? (dead now)=some k:=fun h=>by
   rw [List.findIdx?_eq_some_iff_getElem]
   exact ⟨hk2,h,fun j hj=>by simp [hd j (L[j]'(by omega)) hj (by simp [show j<L.length by omega])]⟩
  generalize L[k]=c at *
  have hm:=bT (f:=ai.v) hx
  by_cases h:dead now c=true
  ·rw [hfi h] at hR
   have hR:(k:Int)=R:=hR
   rw [h] at c1
   repeat' (first|refine zt ?_|(refine isR ?_;first|refine zo ?_|refine cZ ai.v k af ?_|refine eZ [0,1,2] [] (c1 _) ?_|refine eZ [0,1,2] [] (c1) ?_|refine zX ?_)|refine aA [0,1,2] ?_ ?_|exact ah)
   ·rw [← hR];rfl
   ·exact .on (.same (aT fun _=>rfl)) (.on (.ren rfl) (.on (.ren rfl) .nil))
  ·have h:dead now c=false:=by simpa using h
   rw [h] at c1
   repeat' (first|refine zt ?_|(refine isR ?_;first|refine zo ?_|refine cZ ai.v k af ?_|refine eZ [0,1,2] [] (c1 _) ?_|refine eZ [0,1,2] [] (c1) ?_|refine zX ?_)|refine aA [0,1,2] ?_ ?_|exact ah)
   refine ⟨⟨by omega,fun j x hj hx2=>?_⟩,hk2,?_⟩
   ·by_cases e:j=k
    ·subst e;rw [hx] at hx2;cases hx2;exact h
    ·exact hd j x (by omega) hx2
   ·exact (by exact x_len [0,1,2])
 ·obtain rfl:k=L.length:=by omega
  have hn:L.findIdx? (dead now)=none:=by
   rw [List.findIdx?_eq_none_iff]
   intro x hx
   obtain ⟨j,hj⟩:=List.mem_iff_getElem?.1 hx
   rw [hd j x (List.getElem?_eq_some_iff.1 hj).1 hj]
  rw [hn] at hR
  subst hR
  repeat' (first|refine zt ?_|(refine isR ?_;first|refine zo ?_|refine zX ?_)|refine aA [0,1,2] ?_ ?_|exact ah)
  ·rfl
  ·exact .on (.same (aT fun _=>rfl)) (.on (.ren rfl) (.on (.ren rfl) .nil))
theorem F7 (now:Int) (L:List ai):aI now L=L.filter (fun c => !dead now c):=by
 unfold aI dead
 simp
abbrev stD (n:Nat) (nx now:Int) (len j i:Nat) (M:List ai):S:=⟨[(0,.own 0 0 len),(1,fnD),(5,nV i),(6,nV j)],[(0,some (rC M)),(1,some rB),(2,some (rO n nx now))],3,42⟩
theorem QO (hb:L.length≤1000):aK Tryz.prog 180 [.own 0 0 L.length,fnD] [rC L,rB,rO n nx now] (.own 0 0 (aI now L).length) [some (rC (aI now L)),some rB,some (rO n nx now)]:=by
 have hml:(L.map ai.v).length=L.length:=List.length_map _
 have c1:=R6 (n:=n) (nx:=nx) (now:=now) hb
 cases hf:L.findIdx? (dead now) with
 | none =>
  rw [hf] at c1
  change aK _ _ _ _ (.int .i64 (-1)) _ at c1
  have e:aI now L=L:=by
   rw [F7,List.filter_eq_self]
   intro c hc
   rw [List.findIdx?_eq_none_iff] at hf
   simp [hf c hc]
  rw [e]
  refine bP af Tryz.func180 rfl Tryz.ntmps180 Tryz.results180 rfl rfl rfl rfl fun N pl=>?_
  repeat' (first|refine zt ?_|(refine isR ?_;first|refine zo ?_|refine x_m [0,1,2] [] (c1 _) ?_|refine x_m [0,1,2] [] (c1) ?_|refine zX ?_)|refine aA [0,1,2] ?_ ?_|exact ah)
  ·rfl
  ·exact .on (.same (aT fun _=>rfl)) (.on (.ren rfl) (.on (.ren rfl) .nil))
 | some i0 =>
  rw [hf] at c1
  change aK _ _ _ _ (.int .i64 (i0:Int)) _ at c1
  obtain ⟨hi0,hd0,hlow⟩:=List.findIdx?_eq_some_iff_getElem.1 hf
  have ht0:L.take i0=aI now (L.take (i0+1)):=by
   have hx:L[i0]? = some L[i0]:=by simp [hi0]
   rw [List.take_add_one,hx,F7,List.filter_append]
   rw [List.filter_eq_self.2 fun c hc=>by
    obtain ⟨j,hj,rfl⟩:=List.mem_iff_getElem.1 hc
    have hj2:j<i0:=by simp at hj;omega
    have:=hlow j hj2
    simpa using this]
   simp [hd0]
  refine bP af Tryz.func180 rfl Tryz.ntmps180 Tryz.results180 rfl rfl rfl rfl fun N pl=>?_
  repeat' (first|refine zt ?_|(refine isR ?_;first|refine zo ?_|refine x_m [0,1,2] [] (c1 _) ?_|refine x_m [0,1,2] [] (c1) ?_|refine zX ?_)|exact ah)
  refine pO (α:=Nat × Nat × List ai) (fun x=>stD n nx now L.length x.1 x.2.1 x.2.2) (fun x=>x.1≤L.length∧x.2.1<x.1∧x.2.2.length=L.length∧x.2.2.take x.2.1=aI now (L.take x.1)∧x.2.2.drop x.1=L.drop x.1∧x.2.1=(aI now (L.take x.1)).length) (fun x=>L.length-x.1) (i0+1,i0,L) (by exact ah) ⟨by dsimp only;omega,by dsimp only;omega,rfl,ht0,rfl,by dsimp only;rw [← ht0,List.length_take];omega⟩ ?_
  rintro ⟨j,i,M⟩ ⟨g1,g2,g3,g4,g5,g6⟩
  dsimp only at g1 g2 g3 g4 g5 g6 ⊢
  have hmM:(M.map ai.v).length=L.length:=by rw [List.length_map,g3]
  by_cases hj:j<L.length
  ·have hx:L[j]? = some L[j]:=by simp [hj]
   have hxM:M[j]? = some L[j]:=by
    have:=congrArg (fun q=>q[0]?) g5
    simpa [hj] using this
   have hyM:M[i]? = some (M[i]'(by omega)):=by simp [show i<M.length by omega]
   have ht:aI now (L.take (j+1))=aI now (L.take j)++if now<(L[j]).expiry then [L[j]] else []:=by
    unfold aI
    rw [List.take_add_one,hx,List.filter_append]
    congr 1
    by_cases h:now<(L[j]).expiry<;>simp [h]
   have c2:=fun K=>U4 (c:=L[j]) (M:=K) (n:=n) (nx:=nx) (now:=now)
   generalize M[i]'(by omega)=d at *
   generalize L[j]=c at *
   generalize hE1:aI now (L.take (j+1))=E1 at *
   generalize aI now (L.take j)=E at *
   have hset:(M.set i c).take (i+1)=M.take i++[c]:=by
    rw [List.take_add_one,List.take_set_of_le (Nat.le_refl _),List.getElem?_set,if_pos rfl,if_pos (by omega)]
    rfl
   have hdrop:(M.set i c).drop (j+1)=L.drop (j+1):=by
    rw [List.drop_set_of_lt (by omega),← List.drop_drop,g5,List.drop_drop]
   have hdrop2:M.drop (j+1)=L.drop (j+1):=by rw [← List.drop_drop,g5,List.drop_drop]
   by_cases h:now<c.expiry
   ·rw [if_pos h] at ht
    have c2:=c2 M
    rw [show dead now c=false by unfold dead;rw [decide_eq_true h];rfl] at c2
    repeat' (first|refine zt ?_|(refine isR ?_;first|refine zo ?_|refine cZ ai.v j af ?_|refine eZ [0,1,2] [] (c2 _) ?_|refine eZ [0,1,2] [] (c2) ?_|refine kD ai.v (a1:=c) i af ?_|refine zX ?_)|exact ah)
    refine ⟨(j+1,i+1,M.set i c),⟨by dsimp only;omega,by dsimp only;omega,by simp [g3],?_,hdrop,?_⟩,by dsimp only;omega,?_⟩
    ·show (M.set i c).take (i+1)=aI now (L.take (j+1))
     rw [hE1,hset,g4,ht]
    ·show i+1=(aI now (L.take (j+1))).length
     rw [hE1,ht,List.length_append,← g6];rfl
    ·exact (by exact x_len [0,1,2])
   ·rw [if_neg h,List.append_nil] at ht
    have c2:=c2 M
    rw [show dead now c=true by unfold dead;rw [decide_eq_false h];rfl] at c2
    repeat' (first|refine zt ?_|(refine isR ?_;first|refine zo ?_|refine cZ ai.v j af ?_|refine eZ [0,1,2] [] (c2 _) ?_|refine eZ [0,1,2] [] (c2) ?_|refine zX ?_)|exact ah)
    refine ⟨(j+1,i,M),⟨by dsimp only;omega,by dsimp only;omega,g3,?_,hdrop2,?_⟩,by dsimp only;omega,?_⟩
    ·show M.take i=aI now (L.take (j+1))
     rw [hE1,g4,ht]
    ·show i=(aI now (L.take (j+1))).length
     rw [hE1,ht];exact g6
    ·exact (by exact x_len [0,1,2])
  ·obtain rfl:j=L.length:=by omega
   rw [List.take_length] at g4 g6
   generalize aI now L=E at *
   have g4:M.take (0+i)=E:=by rw [Nat.zero_add];exact g4
   subst g6
   repeat' (first|refine zt ?_|(refine isR ?_;first|refine zo ?_|refine Wh af ?_|refine GH ai.v E af ?_|refine OG af ?_|refine zX ?_)|refine aA [0,1,2] ?_ ?_|exact ah)
   ·rfl
   ·exact .on (.same (aT fun _=>rfl)) (.on (.ren rfl) (.on (.ren rfl) .nil))
theorem yB (hb:L.length≤1000):aK Tryz.prog 139 [.loc 1 0 0] [rC L,rO L.length nx now] (.tup []) [some (rC (aI now L)),some (rO (aI now L).length nx now)]:=by
 have c1:=QO (n:=L.length) (nx:=nx) (now:=now) hb
 generalize aI now L=E at *
 refine bP af Tryz.func139 rfl Tryz.ntmps139 Tryz.results139 rfl rfl rfl rfl fun N pl=>?_
 repeat' (first|refine zt ?_|(refine isR ?_;first|refine dQ [1] af rfl ?_|refine zn ?_|refine adr [0,2,1] [] [2,1] (c1 _) ?_|refine adr [0,2,1] [] [2,1] (c1) ?_)|refine aA [0,1] ?_ ?_|exact ah)
 ·rfl
 ·exact .on (.same (aT fun _=>rfl)) (.on (.ren rfl) .nil)
end oZ
namespace aa8
open Go.RowKit Mem Abs Scan fI gF iG iP iQ nu oZ
variable {d:ai} {now:Int} {L:List ai} {nx:Int} {c:ai}
abbrev fnL:Abs.V:=.fn (.func 183) [] [.loc 1 0 0]
abbrev rK (c:ai):Blk:=.els TC 13 [c.v]
theorem abg {M:List ai}:aK Tryz.prog 183 [d.v,.loc 1 0 0] [rC M,rK c] (.bool (bq d c)) [some (rC M),some (rK c)]:=by
 have c1:=G9 (c:=d)
 have c2:=G9 (c:=c)
 have he:eqK ekK (Ir d) (Ir c)=bq d c:=by
  rw [VR]
  unfold bq
  simp only [eq_comm]
 generalize bq d c=b at *
 cases b
 ·have hq:eqF [au d.name,au d.domain,au d.path] [au c.name,au c.domain,au c.path] ekK.flds=false:=he
  refine bP af Tryz.func183 rfl Tryz.ntmps183 Tryz.results183 rfl rfl rfl rfl fun N pl=>?_
  repeat' (first|refine zt ?_|(refine isR ?_;first|refine zo ?_|refine zk c1 ?_|refine zk c2 ?_|refine zc5 ?_)|refine aA [0,1] ?_ ?_|exact ah)
  ·rfl
  ·exact .on (.same (aT fun _=>rfl)) (.on (.same rfl) .nil)
 ·have hq:eqF [au d.name,au d.domain,au d.path] [au c.name,au c.domain,au c.path] ekK.flds=true:=he
  refine bP af Tryz.func183 rfl Tryz.ntmps183 Tryz.results183 rfl rfl rfl rfl fun N pl=>?_
  repeat' (first|refine zt ?_|(refine isR ?_;first|refine zo ?_|refine zk c1 ?_|refine zk c2 ?_|refine zc5 ?_)|refine aA [0,1] ?_ ?_|exact ah)
  ·rfl
  ·exact .on (.same (aT fun _=>rfl)) (.on (.same rfl) .nil)
theorem Gg (hb:L.length≤1000):aK Tryz.prog 182 [.own 0 0 L.length,fnL] [rC L,rK c] (.int .i64 (Ew (L.findIdx? (fun x=>bq x c)))) [some (rC L),some (rK c)]:=by
 have hml:(L.map ai.v).length=L.length:=List.length_map _
 generalize hR:Ew (L.findIdx? (fun x=>bq x c))=R
 refine bP af Tryz.func182 rfl Tryz.ntmps182 Tryz.results182 rfl rfl rfl rfl fun N pl=>?_
 repeat' (first|refine zt ?_|(refine isR ?_;first|refine zo ?_|refine zX ?_)|exact ah)
 refine fq (fun k=>⟨[(0,.own 0 0 L.length),(1,fnL),(7,nV L.length),(8,nV k)],[(0,some (rC L)),(1,some (rK c))],2,19⟩) (fun k=>k≤L.length∧∀ j x,j<k→L[j]? = some x→bq x c=false) L.length 0 (by exact ah) ⟨Nat.zero_le _,fun j x h=>by omega⟩ ?_
 rintro k ⟨hk,hd⟩
 by_cases hk2:k<L.length
 ·have hx:L[k]? = some L[k]:=by simp [hk2]
  have c1:=abg (c:=c) (d:=L[k]) (M:=L)
  have hfi:bq L[k] c=true→L.findIdx? (fun x=>bq x c)=some k:=fun h=>by
   rw [List.findIdx?_eq_some_iff_getElem]
   exact ⟨hk2,h,fun j hj=>by simp [hd j (L[j]'(by omega)) hj (by simp [show j<L.length by omega])]⟩
  generalize L[k]=d at *
  have hm:=bT (f:=ai.v) hx
  by_cases h:bq d c=true
  ·rw [hfi h] at hR
   have hR:(k:Int)=R:=hR
   rw [h] at c1
   repeat' (first|refine zt ?_|(refine isR ?_;first|refine zo ?_|refine cZ ai.v k af ?_|refine eZ [0,1] [] (c1 _) ?_|refine eZ [0,1] [] (c1) ?_|refine zX ?_)|refine aA [0,1] ?_ ?_|exact ah)
   ·rw [← hR];rfl
   ·exact .on (.same (aT fun _=>rfl)) (.on (.same rfl) .nil)
  ·have h:bq d c=false:=by simpa using h
   rw [h] at c1
   repeat' (first|refine zt ?_|(refine isR ?_;first|refine zo ?_|refine cZ ai.v k af ?_|refine eZ [0,1] [] (c1 _) ?_|refine eZ [0,1] [] (c1) ?_|refine zX ?_)|refine aA [0,1] ?_ ?_|exact ah)
   refine ⟨⟨by omega,fun j x hj hx2=>?_⟩,hk2,?_⟩
   ·by_cases e:j=k
    ·subst e;rw [hx] at hx2;cases hx2;exact h
    ·exact hd j x (by omega) hx2
   ·exact (by exact x_len [0,1])
 ·obtain rfl:k=L.length:=by omega
  have hn:L.findIdx? (fun x=>bq x c)=none:=by
   rw [List.findIdx?_eq_none_iff]
   intro x hx
   obtain ⟨j,hj⟩:=List.mem_iff_getElem?.1 hx
   rw [hd j x (List.getElem?_eq_some_iff.1 hj).1 hj]
  rw [hn] at hR
  subst hR
  repeat' (first|refine zt ?_|(refine isR ?_;first|refine zo ?_|refine zX ?_)|refine aA [0,1] ?_ ?_|exact ah)
  ·rfl
  ·exact .on (.same (aT fun _=>rfl)) (.on (.same rfl) .nil)
abbrev rOn (k n:Nat) (nx now:Int):Blk:=.els TO 3 [.agg [.own k 0 n,.int .i64 nx,.int .i64 now]]
theorem Tn (hb:L.length≤1000) (hn:0≤nx) (hn2:nx≤1099511627776) (hf:L.findIdx? (fun x=>bq x c)=none):aK Tryz.prog 140 [.loc 1 0 0,c.v] [rC L,rO L.length nx now] (.tup []) [none,some (rOn 2 (L++[{ c with no:=nx }]).length (nx+1) now),some (rC (L++[{ c with no:=nx }]))]:=by
 have c1:=Gg (c:=c) hb
 have hml:(L.map ai.v).length=L.length:=List.length_map _
 rw [hf] at c1
 change aK _ _ _ _ (.int .i64 (-1)) _ at c1
 refine bP af Tryz.func140 rfl Tryz.ntmps140 Tryz.results140 rfl rfl rfl rfl fun N pl=>?_
 repeat' (first|refine zt ?_|(refine isR ?_;first|refine dQ [3] af rfl ?_|refine zn ?_|refine x_m [0,2] [] (c1 _) ?_|refine x_m [0,2] [] (c1) ?_|refine kL ai.v (a1:=({ c with no:=nx })) af ?_|refine zX ?_)|refine aA [0,1,3] ?_ ?_|exact ah)
 all_goals first|rfl|exact .no (.on (.ren rfl) (.on (.same (aT fun _=>rfl)) .nil))
theorem QY {i:Nat} (hb:L.length≤1000) (hf:L.findIdx? (fun x=>bq x c)=some i) (hx:L[i]? = some d):aK Tryz.prog 140 [.loc 1 0 0,c.v] [rC L,rO L.length nx now] (.tup []) [some (rC (L.set i { c with created:=d.created,no:=d.no })),some (rO L.length nx now)]:=by
 have c1:=Gg (c:=c) hb
 have hml:(L.map ai.v).length=L.length:=List.length_map _
 rw [hf] at c1
 change aK _ _ _ _ (.int .i64 (i:Int)) _ at c1
 obtain ⟨hi,_⟩:=List.getElem?_eq_some_iff.1 hx
 have hm:=bT (f:=ai.v) hx
 refine bP af Tryz.func140 rfl Tryz.ntmps140 Tryz.results140 rfl rfl rfl rfl fun N pl=>?_
 repeat' (first|(refine isR ?_;refine aJ rfl rfl rfl (gX af rfl rfl rfl rfl rfl) (hT rfl Abs.h0) ?_)|refine zt ?_|(refine isR ?_;first|refine dQ [3] af rfl ?_|refine zn ?_|refine x_m [0,2] [] (c1 _) ?_|refine x_m [0,2] [] (c1) ?_|refine Ta ai.v i af ?_|refine kD ai.v (a1:={ c with created:=d.created,no:=d.no }) i af ?_|refine zX ?_)|refine aA [0,1] ?_ ?_|exact ah)
 all_goals first|rfl|exact .on (.same (aT fun _=>rfl)) (.on (.ren rfl) .nil)
end aa8
end Go.Proofs.YtlfdjpgghiemfaaGreatDoor
