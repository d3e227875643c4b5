/- Texts of the proof, joined: CoP, ConC, Min. -/
import Derived.Test.YtlfdjpgghiemfaaGreatDoorH26
set_option maxHeartbeats 4000000
set_option maxRecDepth 100000
namespace Go.Proofs.YtlfdjpgghiemfaaGreatDoor
section
namespace Ji
open gT jZ mr
theorem Pd {α:Type} {p:List α→Prop} (h0:p []) (h1:∀ l b,p l→p (l++[b])):∀ l,p l:=fun l=>by
 have key:∀ r:List α,p r.reverse:=fun r=>by
  induction r with
  | nil=>exact h0
  | cons b r ih=>rw [List.reverse_cons];exact h1 _ _ ih
 have:=key l.reverse
 rwa [List.reverse_reverse] at this
def wG (u:Nat):List (Nat × Nat)→List (Nat × Nat)
 | []=>[(u,u)]
 | (a,b)::r=>if a=u+1 then (u,b)::r else (u,u)::(a,b)::r
def iB:List (Nat × Nat)→Nat→List (Nat × Nat)
 | [],v=>[(v,v)]
 | [(a,b)],v=>if b+1=v then [(a,v)] else [(a,b),(v,v)]
 | p::q::r,v=>p::iB (q::r) v
def eB:List Nat→List (Nat × Nat)
 | []=>[]
 | u::l=>wG u (eB l)
theorem RF (u v:Nat):∀ r:List (Nat × Nat),iB (wG u r) v=wG u (iB r v)
 | []=>by
  simp only [wG,iB]
  by_cases h:u+1=v
  ·rw [if_pos h,if_pos h.symm]
  ·rw [if_neg h,if_neg fun e=>h e.symm]
 | [(a,b)]=>by
  simp only [wG,iB]
  by_cases h1:a=u+1<;>by_cases h2:b+1=v<;>simp [h1,h2,iB]
 | (a,b)::q::r=>by
  simp only [wG,iB]
  by_cases h1:a=u+1<;>simp [h1,iB]
theorem uE:∀ (l:List Nat) (v:Nat),eB (l++[v])=iB (eB l) v
 | [],v=>rfl
 | u::l,v=>by rw [List.cons_append,eB,eB,uE l v,RF]
theorem Dc:∀ (d:List (Nat × Nat)) (a b v:Nat),iB (d++[(a,b)]) v=if b+1=v then d++[(a,v)] else d++[(a,b)]++[(v,v)]
 | [],a,b,v=>by simp [iB]
 | [p],a,b,v=>by
  show p::iB [(a,b)] v=_
  simp only [iB]
  split<;>rfl
 | p::q::d,a,b,v=>by
  have:=Dc (q::d) a b v
  show p::iB (q::(d++[(a,b)])) v=_
  rw [show q::(d++[(a,b)])=(q::d)++[(a,b)] from rfl,this]
  split<;>rfl
theorem Sy {U:List Nat} {k v:Nat} (h:U[k]? = some v):eB (U.take (k+1))=iB (eB (U.take k)) v:=by
 rw [List.take_add_one,h]
 exact uE _ _
theorem Sr (u:Nat):∀ r,(wG u r).length≤r.length+1
 | []=>by simp [wG]
 | (a,b)::r=>by simp only [wG];split<;>simp
theorem yE:∀ U:List Nat,(eB U).length≤U.length
 | []=>Nat.le_refl _
 | u::l=>by
  have h1:=Sr u (eB l)
  have h2:=yE l
  rw [eB,List.length_cons];omega
theorem F4 {p:Nat→Prop} (v:Nat) (hv:p v):∀ r:List (Nat × Nat),(∀ x∈r,p x.1∧p x.2)→∀ x∈iB r v,p x.1∧p x.2
 | [],_,x,hx=>by simp only [iB,List.mem_singleton] at hx;subst hx;exact ⟨hv,hv⟩
 | [(a,b)],h,x,hx=>by
  have:=h (a,b) (List.mem_singleton.2 rfl)
  simp only [iB] at hx
  split at hx
  ·simp only [List.mem_singleton] at hx;subst hx;exact ⟨this.1,hv⟩
  ·simp only [List.mem_cons,List.not_mem_nil,or_false] at hx
   rcases hx with rfl|rfl
   ·exact this
   ·exact ⟨hv,hv⟩
 | y::q::r,h,x,hx=>by
  simp only [iB,List.mem_cons] at hx
  rcases hx with rfl|hx
  ·exact h _ (List.mem_cons_self ..)
  ·exact F4 v hv (q::r) (fun z hz=>h z (List.mem_cons_of_mem _ hz)) x (by simpa using hx)
theorem Jt {p:Nat→Prop} (U:List Nat) (h:∀ v∈U,p v):∀ x∈eB U,p x.1∧p x.2:=by
 refine Pd (p:=fun U=>(∀ v∈U,p v)→∀ x∈eB U,p x.1∧p x.2) (fun _ x hx=>by cases hx) (fun l b ih h=>?_) U h
 rw [uE]
 exact F4 b (h b (by simp)) _ (ih fun v hv=>h v (List.mem_append_left _ hv))
def lastOf (U:List Nat):Nat:=U.getLast?.getD 0
theorem FE (v:Nat):∀ r,((iB r v).getLast?.map Prod.snd)=some v
 | []=>rfl
 | [(a,b)]=>by simp only [iB];split<;>rfl
 | p::q::r=>by
  have h:=FE v (q::r)
  simp only [iB]
  have hne:iB (q::r) v≠[]:=fun e=>by rw [e] at h;cases h
  rw [List.getLast?_cons_of_ne_nil hne]
  exact h
theorem QZ (U:List Nat):((eB U).getLast?.map Prod.snd).getD 0=lastOf U:=by
 refine Pd (p:=fun U=>((eB U).getLast?.map Prod.snd).getD 0=lastOf U) rfl (fun l b _=>?_) U
 rw [uE,FE,lastOf]
 simp
def oz (p:Nat × Nat):Nat:=if p.1=p.2 then 7 else 13
def nJ (p:Nat × Nat):List Nat:=(!decide (p.1=p.2)).toNat::(bitsOf p.1 6++if p.1=p.2 then [] else bitsOf p.2 6)
theorem Js (p:Nat × Nat):(nJ p).length=oz p:=by
 unfold nJ oz
 split<;>simp [bG]
def sizes (r:List (Nat × Nat)):Nat:=r.foldl (fun n p=>n+oz p) 0
theorem wu (r:List (Nat × Nat)) (p:Nat × Nat):sizes (r++[p])=sizes r+oz p:=by unfold sizes;rw [List.foldl_append];rfl
def dh (r:List (Nat × Nat)):List Nat:=r.flatMap nJ
theorem u6 (r:List (Nat × Nat)) (p:Nat × Nat):dh (r++[p])=dh r++nJ p:=by simp [dh]
theorem xA (r:List (Nat × Nat)):(dh r).length=sizes r:=by
 refine Pd (p:=fun r=>(dh r).length=sizes r) rfl (fun r p ih=>?_) r
 rw [u6,wu,List.length_append,ih,Js]
theorem CG (r:List (Nat × Nat)):sizes r≤13*r.length:=by
 refine Pd (p:=fun r=>sizes r≤13*r.length) (Nat.le_refl _) (fun r p ih=>?_) r
 rw [wu,List.length_append,List.length_singleton]
 have:oz p≤13:=by unfold oz;split<;>omega
 omega
theorem oG (b:Bool):b.toNat<2:=by cases b<;>decide
theorem sS {b:Nat} {l:List Nat} (h:b<2) (hl:Bin l):Bin (b::l):=fun x hx=>by
 rcases List.mem_cons.1 hx with rfl|hx
 ·exact h
 ·exact hl x hx
theorem Jo (p:Nat × Nat):Bin (nJ p):=by
 unfold nJ
 refine sS (oG _) ((bY _ _).app ?_)
 split
 ·exact wM
 ·exact bY _ _
theorem yA (r:List (Nat × Nat)):Bin (dh r):=fun b hb=>by
 obtain ⟨p,_,hp⟩:=List.mem_flatMap.1 hb
 exact Jo p b hp
def jH (U:List Nat) (n:Nat):List Nat:=(List.range n).map fun i=>(U.contains (i+1)).toNat
theorem Hw (U:List Nat) (n:Nat):jH U (n+1)=jH U n++[(U.contains (n+1)).toNat]:=by simp [jH,List.range_succ]
theorem Ak (U:List Nat) (n:Nat):(jH U n).length=n:=by simp [jH]
theorem Ao (U:List Nat) (n:Nat):Bin (jH U n):=fun b hb=>by
 obtain ⟨i,_,rfl⟩:=List.mem_map.1 hb
 exact oG _
def I5 (U:List Nat):List Nat:=1::(bitsOf (eB U).length 6++dh (eB U))
def He (U:List Nat):List Nat:=0::jH U (lastOf U)
def short (U:List Nat):Bool:=decide (6+sizes (eB U)<lastOf U)
def mU (U:List Nat):List Nat:=bif short U then I5 U else He U
theorem NZ (U:List Nat):(I5 U).length=7+sizes (eB U):=by simp [I5,bG,xA];omega
theorem Ma (U:List Nat):(He U).length=1+lastOf U:=by simp [He,Ak];omega
theorem I6 (U:List Nat):(mU U).length≤1+lastOf U:=by
 unfold mU
 cases h:short U with
 | false=>rw [cond_false,Ma];exact Nat.le_refl _
 | true =>
  rw [cond_true,NZ]
  unfold short at h
  have:=of_decide_eq_true h
  omega
theorem Ig (U:List Nat):Bin (mU U):=by
 unfold mU
 cases short U with
 | true=>exact sS (by decide) ((bY _ _).app (yA _))
 | false=>exact sS (by decide) (Ao _ _)
def dz (P:Nat→Bool) (n:Nat):List Nat:=(List.range n).map fun i=>(P i).toNat
theorem EJ (P:Nat→Bool) (n:Nat):dz P (n+1)=dz P n++[(P n).toNat]:=by simp [dz,List.range_succ]
theorem xK (P:Nat→Bool) (n:Nat):(dz P n).length=n:=by simp [dz]
theorem xV (P:Nat→Bool) (n:Nat):Bin (dz P n):=fun b hb=>by
 obtain ⟨i,_,rfl⟩:=List.mem_map.1 hb
 exact oG _
def oV (g:Nat) (P:Nat→Bool) (U:List Nat):List Nat:=bitsOf 1 6++bitsOf g 36++dz P 10++bitsOf (lastOf U) 6
def jv (g:Nat) (P:Nat→Bool) (U:List Nat):List Nat:=oV g P U++mU U
theorem Ja (g:Nat) (P:Nat→Bool) (U:List Nat):(oV g P U).length=58:=by simp [oV,bG,xK]
theorem I4 (g:Nat) (P:Nat→Bool) (U:List Nat):Bin (oV g P U):=(((bY _ _).app (bY _ _)).app (xV _ _)).app (bY _ _)
theorem J4 (g:Nat) (P:Nat→Bool) (U:List Nat):Bin (jv g P U):=(I4 g P U).app (Ig U)
theorem Ky (g:Nat) (P:Nat→Bool) (U:List Nat):(jv g P U).length≤59+lastOf U:=by
 unfold jv
 rw [List.length_append,Ja]
 have:=I6 U
 omega
def JK (l:List Nat):List UInt8:=(aZ l).map UInt8.ofNat
theorem Fx (l:List Nat):(JK l).length=(l.length+7)/8:=by simp [JK,dH]
def qy (g:Nat) (P:Nat→Bool) (U:List Nat):List UInt8:=pF (aF (JK (jv g P U)))
def qm (U:List Nat):Prop:=U.Pairwise (· < ·)∧∀ v∈U,1≤v∧v≤40
theorem Gn {U:List Nat} (h:qm U):lastOf U≤40:=by
 unfold lastOf
 cases hl:U.getLast? with
 | none=>simp
 | some v=>exact (h.2 v (List.mem_of_getLast? hl)).2
theorem Gl:∀ (U:List Nat) (a:Nat),U.Pairwise (· < ·)→(∀ v∈U,a≤v∧v≤40)→a≤41→U.length+a≤41
 | [],a,_,_,ha=>by simp only [List.length_nil];omega
 | u::l,a,h,hr,_=>by
  obtain ⟨h1,h2⟩:=List.pairwise_cons.1 h
  have hu:=hr u (List.mem_cons_self ..)
  have:=Gl l (u+1) h2 (fun v hv=>⟨h1 v hv,(hr v (List.mem_cons_of_mem _ hv)).2⟩) (by omega)
  rw [List.length_cons];omega
theorem uO {U:List Nat} (h:qm U):U.length≤40:=by
 have:=Gl U 1 h.1 h.2 (by omega)
 omega
theorem OL:∀ (U:List Nat) (i:Nat),U.Pairwise (· < ·)→i<lastOf U→∃ h,U[(U.takeWhile (fun x=>decide (x≤i))).length]? = some h∧decide (h=i+1)=U.contains (i+1)∧(U.takeWhile (fun x=>decide (x≤i+1))).length=(U.takeWhile (fun x=>decide (x≤i))).length+(decide (h=i+1)).toNat
 | [],i,_,h=>by simp [lastOf] at h
 | u::l,i,hp,hi=>by
  obtain ⟨h1,h2⟩:=List.pairwise_cons.1 hp
  by_cases hu:u≤i
  ·have hl:i<lastOf l:=by
    cases l with
    | nil=>simp [lastOf] at hi;omega
    | cons x l=>simpa [lastOf] using hi
   obtain ⟨h,e1,e2,e3⟩:=OL l i h2 hl
   refine ⟨h,?_,?_,?_⟩
   ·rw [List.takeWhile_cons_of_pos (by simpa using hu),List.length_cons,List.getElem?_cons_succ];exact e1
   ·rw [e2,List.contains_cons,show (i+1==u)=false from by simp;omega,Bool.false_or]
   ·rw [List.takeWhile_cons_of_pos (by simp;omega),List.takeWhile_cons_of_pos (by simpa using hu),List.length_cons,List.length_cons,e3];omega
  ·have e0:(u::l).takeWhile (fun x=>decide (x≤i))=[]:=List.takeWhile_cons_of_neg (by simpa using hu)
   rw [e0]
   refine ⟨u,rfl,?_,?_⟩
   ·by_cases hc:u=i+1
    ·subst hc;simp
    ·rw [decide_eq_false hc]
     symm
     rw [← Bool.not_eq_true,List.contains_iff_mem]
     intro hm
     rcases List.mem_cons.1 hm with e|hm
     ·exact hc e.symm
     ·have:=h1 _ hm;omega
   ·by_cases hc:u=i+1
    ·rw [List.takeWhile_cons_of_pos (by simp;omega),decide_eq_true hc]
     have:l.takeWhile (fun x=>decide (x≤i+1))=[]:=by
      cases l with
      | nil=>rfl
      | cons x l=>have:=h1 x (List.mem_cons_self ..);exact List.takeWhile_cons_of_neg (by simp;omega)
     rw [this];rfl
    ·rw [List.takeWhile_cons_of_neg (by simp;omega),decide_eq_false hc];rfl
end Ji
namespace E8
open gT jZ mr Ji
variable {L:List Int}
def nC (a b:Nat):List Nat:=List.range' a (b+1-a)
def qH:Nat→List Nat→Option (List Nat)
 | 0,_=>some []
 | n + 1, l => if l.length < 7 then none
   else if num (l.take 1)=1 then (if l.length<13 then none else (qH n (l.drop 13)).map (nC (num ((l.drop 1).take 6)) (num ((l.drop 7).take 6)) ++ ·))
   else (qH n (l.drop 7)).map (nC (num ((l.drop 1).take 6)) (num ((l.drop 1).take 6)) ++ ·)
def qG (n:Nat) (l:List Nat):List Nat:=((List.range n).filter fun i=>decide (l.getD i 0=1)).map (· + 1)
theorem MV (n:Nat) (l:List Nat):qG (n+1) l=qG n l++if l.getD n 0=1 then [n+1] else []:=by
 unfold qG
 rw [List.range_succ,List.filter_append,List.map_append]
 congr 1
 by_cases h:l.getD n 0=1
 ·rw [if_pos h,List.filter_cons_of_pos (by simpa using h)];rfl
 ·rw [if_neg h,List.filter_cons_of_neg (by simpa using h)];rfl
theorem Sg (n:Nat) (l:List Nat):(qG n l).length≤n:=by
 unfold qG
 rw [List.length_map]
 exact Nat.le_trans (List.length_filter_le _ _) (by simp)
def LX (last:Nat) (l:List Nat):Option (List Nat) :=
 if num (l.take 1)=1 then (if l.length<7 then none else qH (num ((l.drop 1).take 6)) (l.drop 7))
 else if l.length<1+last then none else some (qG last (l.drop 1))
def given (l:List Nat):Nat:=num ((l.drop 6).take 36)
def fG (l:List Nat) (i:Nat):Bool:=decide (num ((l.drop (42+i)).take 1)=1)
def acQ (l:List Nat):Nat:=num ((l.drop 52).take 6)
def mJ (l:List Nat):Option (List Nat):=LX (acQ l) (l.drop 58)
def gI (l:List Nat):Nat:=if l.length<6 then 5 else if num (l.take 6)≠1 then 7 else if l.length<59 then 5 else match mJ l with
 | none=>5
 | some _=>0
abbrev Rd:=Nat × (Nat→Bool) × List Nat × Nat
def NK (c:Nat):Rd:=(0,fun _=>false,[],c)
abbrev toI (U:List Nat):List Int:=U.map fun n:Nat=>(n:Int)
def O0 (t:List UInt8) (l:List Nat) (U:List Nat):Rd:=if bD.check (given l:Int) (toI U)=0∧qy (given l) (fG l) U=t then (given l,fG l,U,0) else NK 1
def o9 (t:List UInt8):Rd :=
 if (bC t).2≠0 then NK (bC t).2
 else if gI (aF (bC t).1)≠0 then NK (gI (aF (bC t).1))
 else O0 t (aF (bC t).1) ((mJ (aF (bC t).1)).getD [])
theorem FU {U:List Nat}:bD.Right (toI U)↔qm U:=by
 unfold bD.Right qm
 rw [List.pairwise_map]
 constructor
 ·rintro ⟨h1,h2⟩
  exact ⟨h1.imp fun h=>by omega,fun v hv=>by have:=h2 (v:Int) (List.mem_map.2 ⟨v,hv,rfl⟩);omega⟩
 ·rintro ⟨h1,h2⟩
  refine ⟨h1.imp fun h=>by omega,fun v hv=>?_⟩
  obtain ⟨n,hn,rfl⟩:=List.mem_map.1 hv
  have:=h2 n hn
  omega
theorem um {g:Int}:bD.check g L=0↔(0≤g∧g≤68719476735)∧bD.Right L:=by
 unfold bD.check bD.Ul
 by_cases h:g<0∨68719476735<g
 ·rw [if_pos h,if_neg (by decide)]
  constructor
  ·intro h;cases h
  ·intro h;omega
 ·rw [if_neg h,if_pos rfl]
  constructor
  ·intro h2;exact ⟨by omega,bD.xM h2⟩
  ·intro h2;exact bD.UX h2.2
theorem Rv (h:bD.Right L):∃ U,L=toI U∧qm U:=by
 have e:L=toI (L.map Int.toNat):=by
  unfold toI
  rw [List.map_map]
  conv=>lhs;rw [← List.map_id L]
  refine List.map_congr_left fun v hv=>?_
  have:=h.2 v hv
  simp only [id,Function.comp]
  omega
 exact ⟨_,e,FU.1 (e ▸ h)⟩
theorem Sj {g:Int} (h:bD.check g L=0):∃ (n:Nat) (U:List Nat),g=(n:Int)∧L=toI U∧n≤68719476735∧qm U:=by
 obtain ⟨h1,h2⟩:=um.1 h
 obtain ⟨U,e,hU⟩:=Rv h2
 exact ⟨g.toNat,U,by omega,e,by omega,hU⟩
section
variable {g:Nat} {P:Nat→Bool} {U:List Nat}
end
theorem LZ {t:List UInt8} (h:(o9 t).2.2.2=0):bD.check ((o9 t).1:Int) (toI (o9 t).2.2.1)=0∧qy (o9 t).1 (o9 t).2.1 (o9 t).2.2.1=t:=by
 unfold o9 at h ⊢
 by_cases h1:(bC t).2≠0
 ·rw [if_pos h1] at h;exact absurd h h1
 ·rw [if_neg h1] at h ⊢
  by_cases h2:gI (aF (bC t).1)≠0
  ·rw [if_pos h2] at h;exact absurd h h2
  ·rw [if_neg h2] at h ⊢
   unfold O0 at h ⊢
   split at h
   ·rename_i h3
    rw [if_pos h3]
    exact h3
   ·cases h
end E8
end
namespace lG
open Go.RowKit Mem Abs Scan gT Ji E8
variable {L:List Int} {k:Nat}
abbrev fC (n:Nat):V:=.int .i64 (n:Int)
abbrev Gu (l:List Nat):V:=.fro (l.map fC)
abbrev gu (L:List Int):V:=.fro (L.map (V.int .i64))
abbrev Xv (P:Nat→Bool):List V:=[.bool (P 0),.bool (P 1),.bool (P 2),.bool (P 3),.bool (P 4),.bool (P 5),.bool (P 6),.bool (P 7),.bool (P 8),.bool (P 9)]
abbrev gD (g:Int) (P:Nat→Bool) (L:List Int):V:=.agg [.int .i64 g,.bool (P 0),.bool (P 1),.bool (P 2),.bool (P 3),.bool (P 4),.bool (P 5),.bool (P 6),.bool (P 7),.bool (P 8),.bool (P 9),gu L]
abbrev Jh (g:Nat) (P:Nat→Bool) (U:List Nat):V:=.agg [.int .i64 (g:Int),.bool (P 0),.bool (P 1),.bool (P 2),.bool (P 3),.bool (P 4),.bool (P 5),.bool (P 6),.bool (P 7),.bool (P 8),.bool (P 9),Gu U]
theorem RY (U:List Nat):Gu U=gu (toI U):=by unfold Gu gu toI;rw [List.map_map];rfl
theorem wD (g:Nat) (P:Nat→Bool) (U:List Nat):Jh g P U=gD (g:Int) P (toI U):=by rw [Jh,gD,RY]
theorem wY (h:(gu L).Lim):L.length≤140737488355328:=by
 rw [gu,V.Lim,List.length_map] at h
 exact h.1
theorem Yg {g:Int} {P:Nat→Bool} (h:(gD g P L).Lim):L.length≤140737488355328:=by
 rw [gD,V.Lim] at h
 exact wY h.2.2.2.2.2.2.2.2.2.2.2.1
theorem bT {α:Type} {f:α→V} {L:List α} {x:α} (h:L[k]? = some x):(L.map f)[k]? = some (f x):=by rw [List.getElem?_map,h];rfl
theorem getD_at {x:Int} (h:L[k]? = some x):L.getD k 0=x:=by rw [List.getD_eq_getElem?_getD,h];rfl
theorem lC {g:Int} {P:Nat→Bool}:aj Tryz.prog 36 [gD g P L] (.int .i64 ((bD.check g L:Nat):Int)):=aj.lim fun hl=>by
 have hlen:=Yg hl.1
 clear hl
 have hml:(L.map (V.int .i64)).length=L.length:=List.length_map _
 unfold bD.check bD.Ul
 by_cases hg:g<0∨68719476735<g
 ·rw [if_pos hg,if_neg (by decide)]
  refine aU af Tryz.func36 rfl Tryz.ntmps36 Tryz.results36 rfl fun N=>?_
  repeat' (first|refine zt ?_|(refine isR ?_;first|refine zo ?_|refine zX ?_|(refine zs1 ?_ ?_<;>intro hc))|refine zr ?_|exact ah)
  all_goals first|rfl|(exfalso;omega)
 ·rw [if_neg hg,if_pos rfl]
  have hg1:¬ g<0:=by omega
  have hg2:¬ 68719476735<g:=by omega
  refine aU af Tryz.func36 rfl Tryz.ntmps36 Tryz.results36 rfl fun N=>?_
  repeat' (first|refine zt ?_|(refine isR ?_;first|refine zo ?_|refine zX ?_|(refine zs1 ?_ ?_<;>intro hc))|refine zr ?_|exact ah)
  refine bE (fun k=>⟨[(1,.fp (V.cells (gD g P L)) 0),(14,gu L),(15,.int .i64 ((L.map (V.int .i64)).length:Int)),(16,.int .i64 (k:Int))],[],0,42⟩) (fun k=>k≤L.length∧scan (bD.lm L) k=0) L.length 0 (by exact ah) ⟨Nat.zero_le _,rfl⟩ ?_
  rintro k ⟨hk,hs⟩
  by_cases hk2:k<L.length
  ·have hx:L[k]? = some L[k]:=by simp [hk2]
   have hd:=getD_at hx
   have hst:=F8 (f:=bD.lm L) (k:=k) (n:=L.length) hs
   have hnx:=yH (f:=bD.lm L) (k:=k) hs
   generalize L[k]=x at *
   have hm:=bT (f:=V.int .i64) hx
   by_cases h1:x<1∨40<x
   ·have hc:bD.lm L k=3:=by unfold bD.lm;rw [hd,if_pos h1]
    rw [hst (by rw [hc];decide) hk2,hc]
    repeat' (first|refine zt ?_|(refine isR ?_;first|refine zo ?_|refine zX ?_|(refine zs1 ?_ ?_<;>intro hc))|refine zr ?_|exact ah)
    all_goals first|rfl|(exfalso;omega)
   ·have h2:¬ x<1:=by omega
    have h3:¬ 40<x:=by omega
    rcases Nat.eq_zero_or_pos k with rfl|hk0
    ·have hc:bD.lm L 0=0:=by unfold bD.lm;rw [hd,if_neg h1,if_neg (by omega)]
     have hn0:=hnx hc
     repeat' (first|refine zt ?_|(refine isR ?_;first|refine zo ?_|refine zX ?_|(refine zs1 ?_ ?_<;>intro hc))|refine zr ?_|exact ah)
     exact ⟨⟨by omega,hn0⟩,hk2,(by exact ah)⟩
    ·have hk1:((k:Int)-1)=((k-1:Nat):Int):=by omega
     have hx':L[k-1]? = some (L[k-1]'(by omega)):=by simp [show k-1<L.length by omega]
     have hd':=getD_at hx'
     generalize L[k-1]'(by omega)=y at *
     have hm':=bT (f:=V.int .i64) hx'
     by_cases h4:x≤y
     ·have hc:bD.lm L k=4:=by unfold bD.lm;rw [hd,hd',if_neg h1,if_pos ⟨hk0,h4⟩]
      rw [hst (by rw [hc];decide) hk2,hc]
      repeat' (first|refine zt ?_|(refine isR ?_;first|refine zo ?_|refine zX ?_|(refine zs1 ?_ ?_<;>intro hc))|refine zr ?_|exact ah)
      all_goals first|rfl|(exfalso;omega)
     ·have hc:bD.lm L k=0:=by unfold bD.lm;rw [hd,hd',if_neg h1,if_neg (fun h=>h4 h.2)]
      have hn0:=hnx hc
      repeat' (first|refine zt ?_|(refine isR ?_;first|refine zo ?_|refine zX ?_|(refine zs1 ?_ ?_<;>intro hc))|refine zr ?_|exact ah)
      exact ⟨⟨by omega,hn0⟩,hk2,(by exact ah)⟩
  ·obtain rfl:k=L.length:=by omega
   rw [hs]
   repeat' (first|refine zt ?_|(refine isR ?_;first|refine zo ?_|refine zX ?_|(refine zs1 ?_ ?_<;>intro hc))|refine zr ?_|exact ah)
   all_goals first|rfl|(exfalso;omega)
theorem M7 {K:List Int}:aj Tryz.prog 53 [gu L,gu K] (.bool (decide (L=K))):=aj.lim fun hl=>by
 have hlen:=wY hl.1
 have hlen2:=wY hl.2.1
 clear hl
 have hml:(L.map (V.int .i64)).length=L.length:=List.length_map _
 have hmk:(K.map (V.int .i64)).length=K.length:=List.length_map _
 by_cases he:L.length=K.length
 ·refine aW af Tryz.func53 rfl Tryz.ntmps53 Tryz.results53 rfl fun N=>?_
  repeat' (first|refine zt ?_|(refine isR ?_;first|refine zo ?_|refine zX ?_)|refine zr ?_|exact ah)
  refine bE (fun k=>⟨[(0,gu L),(1,gu K),(5,.int .i64 (k:Int))],[],0,26⟩) (fun k=>k≤L.length∧L.take k=K.take k) L.length 0 (by exact ah) ⟨Nat.zero_le _,rfl⟩ ?_
  rintro k ⟨hk,hn⟩
  by_cases hk2:k<L.length
  ·have hx:L[k]? = some L[k]:=by simp [hk2]
   have hy:K[k]? = some (K[k]'(by omega)):=by simp [show k<K.length by omega]
   generalize L[k]=x at *
   generalize K[k]'(by omega)=y at *
   have hm:=bT (f:=V.int .i64) hx
   have hm':=bT (f:=V.int .i64) hy
   by_cases h:x=y
   ·subst h
    repeat' (first|refine zt ?_|(refine isR ?_;first|refine zo ?_|refine zX ?_)|refine zr ?_|exact ah)
    refine ⟨⟨by omega,?_⟩,hk2,(by exact ah)⟩
    rw [List.take_add_one,List.take_add_one,hn,hx,hy]
   ·have hne:decide (L=K)=false:=decide_eq_false fun e=>by
     subst e
     rw [hx] at hy
     exact h (Option.some.inj hy)
    rw [hne]
    repeat' (first|refine zt ?_|(refine isR ?_;first|refine zo ?_|refine zX ?_)|refine zr ?_|exact ah)
    rfl
  ·have e:L=K:=by
    rw [List.take_of_length_le (by omega),List.take_of_length_le (by omega)] at hn
    exact hn
   rw [decide_eq_true e]
   repeat' (first|refine zt ?_|(refine isR ?_;first|refine zo ?_|refine zX ?_)|refine zr ?_|exact ah)
   rfl
 ·have hne:decide (L=K)=false:=decide_eq_false fun e=>he (by rw [e])
  rw [hne]
  refine aW af Tryz.func53 rfl Tryz.ntmps53 Tryz.results53 rfl fun N=>?_
  repeat' (first|refine zt ?_|(refine isR ?_;first|refine zo ?_|refine zX ?_)|refine zr ?_|exact ah)
  rfl
theorem abo {g:Int} {P:Nat→Bool}:aj Tryz.prog 23 [gD g P L,gD g P L] (.bool true):=by
 have c:=M7 (L:=L) (K:=L)
 rw [decide_eq_true rfl] at c
 have hp:eqI (Xv P) (Xv P) (List.range 10)=true:=by
  show (decide (P 0=P 0)&&(decide (P 1=P 1)&&(decide (P 2=P 2)&&(decide (P 3=P 3)&&(decide (P 4=P 4)&&(decide (P 5=P 5)&&(decide (P 6=P 6)&&(decide (P 7=P 7)&&(decide (P 8=P 8)&&(decide (P 9=P 9)&&true))))))))))=true
  simp
 refine aW af Tryz.func23 rfl Tryz.ntmps23 Tryz.results23 rfl fun N=>?_
 repeat' (first|refine zt ?_|(refine isR ?_;first|refine zo ?_|refine vU af ?_|refine zk c ?_|refine zc5 ?_)|refine zr ?_|exact ah)
 all_goals first|rfl|(exfalso;omega)
abbrev noC:V:=.agg [.int .i64 0,.bool false,.bool false,.bool false,.bool false,.bool false,.bool false,.bool false,.bool false,.bool false,.bool false,.nils]
end lG
namespace Abs
open Go.RowKit Mem Facts
section
variable {P:Program} {N:Env} {M:Nat→Prop} {o:Oper} {s:S} {a:Act} {x y:Operand} {w:World}
variable {n q:Int}
theorem Y9 {t t':TypeId} {m:Int} (ho:o.op = .call { callee:=.builtin .min,args := #[x,y],argTypes := #[t,t'] }) (h:(if n<m then n else m)=q) (hq:InR .i64 q):aC P N o ⟨[(x,.int .i64 m),(y,.int .i64 n)],[]⟩ (.int .i64 q) [] []:=aD fun s M A φ ac w hh hr=>by
 refine ⟨.int .i64 q,?_,.fz (.int hq)⟩
 unfold execOp
 simp only [ho,resolve,Sem.run_bind,Sem.run_pure,Result.andThen_ok,invoke,builtin,List.map_toArray,List.map_cons,List.map_nil,hr.int hh.a,hr.int hh.b]
 subst h
 simp [Builtin.min_,Builtin.min2]
theorem Zk {t:TypeId} (ho:o.op = .unOp .neg t x) (h : -n=q) (hq : -9223372036854775808≤q∧q≤9223372036854775807):aC P N o ⟨[(x,.int .i64 n)],[]⟩ (.int .i64 q) [] []:=aD fun s M A φ a w hh hr =>
 ⟨.int .i64 q,by
  subst h
  unfold execOp
  simp only [ho,hr.int hh.a,Op.unary,Op.intArith,Sem.run_bind,Sem.run_pure,Result.andThen_ok]
  exact congrArg (fun z=>Result.ok (Next.value (Value.int .i64 z)) w) (by rw [Int.zero_sub];exact wrap64 hq.1 hq.2),.fz (.int ⟨by simp only [rng];omega,by simp only [rng];omega⟩)⟩
end
section
variable {P:Program} {N:Env} {l r:List Oper} {o:Oper} {tm:List (Nat × V)} {st:List (Nat × Option Blk)} {nx nt:Nat} {tr:List Tr} {K:S→List Tr→Prop} {d:Nat} {t t':TypeId} {x y:Operand} {a b:Int}
theorem Vo (q:Int) (k:ay P N l K r ⟨(d,.int .i64 q)::tm,st,nx,nt⟩ (tr++[aH l o ⟨[(x,.int .i64 a),(y,.int .i64 b)],[]⟩ []])) (ho:o.op = .call { callee:=.builtin .min,args := #[x,y],argTypes := #[t,t'] }:=by rfl) (hx:S.ev ⟨tm,st,nx,nt⟩ x=some (.int .i64 a):=by rfl) (hy:S.ev ⟨tm,st,nx,nt⟩ y=some (.int .i64 b):=by rfl) (hg:ax l o ⟨tm,st,nx,nt⟩=some true:=by rfl) (hd:o.dst=some d:=by rfl) (hlt:Nat.blt d nt=true:=by rfl) (h:(if b<a then b else a)=q:=by first|assumption|omega) (hq : -9223372036854775808≤q∧q≤9223372036854775807:=by omega):ay P N l K (o::r) ⟨tm,st,nx,nt⟩ tr:=aJ hg hd hlt (Y9 ho h ⟨by simp only [rng];omega,by simp only [rng];omega⟩) (hT hx (hT hy h0)) k
theorem PW (k:ay P N l K r ⟨(d,.int .i64 (-a))::tm,st,nx,nt⟩ (tr++[aH l o ⟨[(x,.int .i64 a)],[]⟩ []])) (ho:o.op = .unOp .neg t x:=by rfl) (hx:S.ev ⟨tm,st,nx,nt⟩ x=some (.int .i64 a):=by rfl) (hg:ax l o ⟨tm,st,nx,nt⟩=some true:=by rfl) (hd:o.dst=some d:=by rfl) (hlt:Nat.blt d nt=true:=by rfl) (h : -9223372036854775808 ≤ -a ∧ -a≤9223372036854775807:=by omega):ay P N l K (o::r) ⟨tm,st,nx,nt⟩ tr:=aJ hg hd hlt (Zk ho rfl h) (hT hx h0) k
end
end Abs
end Go.Proofs.YtlfdjpgghiemfaaGreatDoor
