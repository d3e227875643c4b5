/- Texts of the proof, joined: GoesW, SufP. -/
import Derived.Test.YtlfdjpgghiemfaaGreatDoorG14
import Derived.Test.YtlfdjpgghiemfaaGreatDoorG15
import Derived.Test.YtlfdjpgghiemfaaGreatDoorG16
import Derived.Test.YtlfdjpgghiemfaaGreatDoorG11
set_option maxHeartbeats 4000000
set_option maxRecDepth 100000
section
namespace Go.Proofs.YtlfdjpgghiemfaaGreatDoor.GoesW
open Go.RowKit Mem Abs TreeW HostP HostO HostA HostB HostC HostD WordP WordS Globs PathT
theorem last_ends (o:List UInt8):endsB o [47]=decide (o.getLast? = some 47):=by
 rw [Bool.eq_iff_iff,endsB_iff,decide_eq_true_eq,List.getLast?_eq_some_iff]
theorem path_v {p o:List UInt8}:ACalls Tryz.prog 234 [strT p,strT o] (.bool (pathF p o)):=by
 have c1:=cutPrefix_v (l:=p) (m:=o)
 have c2:=hasSuffix_v (l:=o) (m:=[47])
 rw [last_ends] at c2
 cases hp:pre p o with
 | false =>
  have e:cutP p o=(p,false):=by unfold cutP;rw [hp];rfl
  have e2:pathF p o=false:=by unfold pathF;rw [hp];rfl
  rw [e] at c1
  rw [e2]
  refine fun2 tb_ok Tryz.func234 rfl Tryz.ntmps234 Tryz.results234 rfl fun N=>?_
  repeat' (first|refine zt ?_|(refine isR ?_;first|refine zo ?_|refine zk c1 ?_|refine zc5 ?_|refine zI ?_|(refine zs5 ?_ ?_<;>intro hc))|refine zr ?_|exact x_le)
  rfl
 | true =>
  have e:cutP p o=(p.drop o.length,true):=by unfold cutP;rw [hp];rfl
  have e2:pathF p o=(decide (p.drop o.length=[])||decide (o.getLast? = some 47)||decide ((p.drop o.length).head? = some 47)):=by unfold pathF;rw [hp];rfl
  rw [e] at c1
  rw [e2]
  dsimp only at c1
  generalize p.drop o.length=x at *
  generalize decide (o.getLast? = some 47)=z at *
  cases x with
  | nil =>
   refine fun2 tb_ok Tryz.func234 rfl Tryz.ntmps234 Tryz.results234 rfl fun N=>?_
   repeat' (first|refine zt ?_|(refine isR ?_;first|refine zo ?_|refine zk c1 ?_|refine zc5 ?_|refine zI ?_|(refine zs5 ?_ ?_<;>intro hc))|refine zr ?_|exact x_le)
   rfl
  | cons b x =>
   have e3:(b::x)[(0:Int).toNat]? = some b:=rfl
   have e4:decide ((b::x).head? = some 47)=decide ((b.toNat:Int)=47):=by
    have:=byte_eq (c:=b) (d:=47)
    simp [this]
   have hnn:¬ (b::x:List UInt8)=[]:=by simp
   have hb:=b.toNat_lt
   rw [e4,decide_eq_false hnn]
   refine fun2 tb_ok Tryz.func234 rfl Tryz.ntmps234 Tryz.results234 rfl fun N=>?_
   repeat' (first|refine zt ?_|(refine isR ?_;first|refine zo ?_|refine zk c1 ?_|refine x_callS (c2 _) (fun hb=>?_) (fun hb=>?_)|refine x_callS (c2) (fun hb=>?_) (fun hb=>?_)|refine zc5 ?_|refine zI ?_|(refine zs5 ?_ ?_<;>intro hc))|refine zr ?_|exact x_le)
   all_goals (show V.bool _=V.bool _;simp [*])
def mayF (c:Cookie) (f:From):Bool := !(c.secure && !f.secure)&&(!(c.httpOnly&&f.script) && !(f.abroad && !decide (c.site=1)))
def atF (c:Cookie) (f:From):Bool:=if c.hostOnly then decide (f.host=c.domain) else matchF f.host c.domain
def goesF (c:Cookie) (f:From) (now:Int):Bool:=decide (now<c.expiry)&&(atF c f&&(pathF f.path c.path&&mayF c f))
abbrev askV (f:From) (now:Int):Abs.V:=.agg [.str (str f.host),.str (str f.path),.bool f.secure,.bool f.script,.bool f.abroad,.int .i64 now]
theorem live_v {c:Cookie} {now:Int}:ACalls Tryz.prog 11 [c.v,.int .i64 now] (.bool (decide (now<c.expiry))):=by
 refine fun2 tb_ok Tryz.func11 rfl Tryz.ntmps11 Tryz.results11 rfl fun N=>?_
 repeat' (first|refine zt ?_|(refine isR ?_;first|refine zo ?_|(refine zs3 ?_ ?_<;>intro hc))|refine zr ?_|exact x_le)
 all_goals (show V.bool _=V.bool _;first|rfl|simp_all)
theorem alive_v {c:Cookie} {f:From} {now:Int}:ACalls Tryz.prog 189 [askV f now,c.v] (.bool (decide (now<c.expiry))):=by
 have c1:=live_v (c:=c) (now:=now)
 refine fun2 tb_ok Tryz.func189 rfl Tryz.ntmps189 Tryz.results189 rfl fun N=>?_
 repeat' (first|refine zt ?_|(refine isR ?_;first|refine zo ?_|refine zk c1 ?_)|refine zr ?_|exact x_le)
 rfl
theorem along_v {c:Cookie} {f:From} {now:Int}:ACalls Tryz.prog 191 [askV f now,c.v] (.bool (pathF f.path c.path)):=by
 have c1:=path_v (p:=f.path) (o:=c.path)
 refine fun2 tb_ok Tryz.func191 rfl Tryz.ntmps191 Tryz.results191 rfl fun N=>?_
 repeat' (first|refine zt ?_|(refine isR ?_;first|refine zo ?_|refine zk c1 ?_)|refine zr ?_|exact x_le)
 rfl
theorem at_v {c:Cookie} {f:From} {now:Int} (hd:c.domain.length≤140737488355327) (hf:f.host.length≤4398046511104):ACallsG Tryz.prog gStr 190 [askV f now,c.v] (.bool (atF c f)):=by
 have c1:=match_v (l:=f.host) (m:=c.domain) hf hd
 unfold atF
 obtain ⟨f1,f2,f3,f4,f5⟩:=f
 obtain ⟨d1,d2,d3,d4,d5,d6,d7,d8,d9,d10,d11,d12,d13⟩:=c
 dsimp only at *
 cases d5
 ·skip
  refine funG2 tb_ok Tryz.func190 rfl Tryz.ntmps190 Tryz.results190 rfl fun N=>?_
  repeat' (first|refine zt ?_|(refine isR ?_;first|refine zo ?_|refine zk c1 ?_|(refine zs5 ?_ ?_<;>intro hc))|refine zr ?_|exact x_le)
  rfl
 ·skip
  refine funG2 tb_ok Tryz.func190 rfl Tryz.ntmps190 Tryz.results190 rfl fun N=>?_
  repeat' (first|refine zt ?_|(refine isR ?_;first|refine zo ?_|refine zk c1 ?_|(refine zs5 ?_ ?_<;>intro hc))|refine zr ?_|exact x_le)
  all_goals (show V.bool _=V.bool _;first|rfl|simp_all)
theorem may_v {c:Cookie} {f:From} {now:Int}:ACalls Tryz.prog 192 [askV f now,c.v] (.bool (mayF c f)):=by
 unfold mayF
 obtain ⟨f1,f2,f3,f4,f5⟩:=f
 obtain ⟨d1,d2,d3,d4,d5,d6,d7,d8,d9,d10,d11,d12,d13⟩:=c
 dsimp only at *
 cases d6
 ·cases d7
  ·cases f5
   all_goals
    refine fun2 tb_ok Tryz.func192 rfl Tryz.ntmps192 Tryz.results192 rfl fun N=>?_
    repeat' (first|refine zt ?_|(refine isR ?_;first|refine zo ?_|(refine zs6 ?_ ?_<;>intro hc))|refine zr ?_|exact x_le)
    all_goals (show V.bool _=V.bool _;first|rfl|simp_all)
  ·cases f4<;>cases f5
   all_goals
    refine fun2 tb_ok Tryz.func192 rfl Tryz.ntmps192 Tryz.results192 rfl fun N=>?_
    repeat' (first|refine zt ?_|(refine isR ?_;first|refine zo ?_|(refine zs6 ?_ ?_<;>intro hc))|refine zr ?_|exact x_le)
    all_goals (show V.bool _=V.bool _;first|rfl|simp_all)
 ·cases f3
  ·skip
   refine fun2 tb_ok Tryz.func192 rfl Tryz.ntmps192 Tryz.results192 rfl fun N=>?_
   repeat' (first|refine zt ?_|(refine isR ?_;first|refine zo ?_|(refine zs6 ?_ ?_<;>intro hc))|refine zr ?_|exact x_le)
   all_goals (show V.bool _=V.bool _;first|rfl|simp_all)
  ·cases d7
   ·cases f5
    all_goals
     refine fun2 tb_ok Tryz.func192 rfl Tryz.ntmps192 Tryz.results192 rfl fun N=>?_
     repeat' (first|refine zt ?_|(refine isR ?_;first|refine zo ?_|(refine zs6 ?_ ?_<;>intro hc))|refine zr ?_|exact x_le)
     all_goals (show V.bool _=V.bool _;first|rfl|simp_all)
   ·cases f4<;>cases f5
    all_goals
     refine fun2 tb_ok Tryz.func192 rfl Tryz.ntmps192 Tryz.results192 rfl fun N=>?_
     repeat' (first|refine zt ?_|(refine isR ?_;first|refine zo ?_|(refine zs6 ?_ ?_<;>intro hc))|refine zr ?_|exact x_le)
     all_goals (show V.bool _=V.bool _;first|rfl|simp_all)
theorem goes_v {c:Cookie} {f:From} {now:Int} (hd:c.domain.length≤140737488355327) (hf:f.host.length≤4398046511104):ACallsG Tryz.prog gStr 144 [c.v,f.v,.int .i64 now] (.bool (goesF c f now)):=by
 have c1:=alive_v (c:=c) (f:=f) (now:=now)
 have c2:=at_v (c:=c) (f:=f) (now:=now) hd hf
 have c3:=along_v (c:=c) (f:=f) (now:=now)
 have c4:=may_v (c:=c) (f:=f) (now:=now)
 have e:goesF c f now=(decide (now<c.expiry)&&(atF c f&&(pathF f.path c.path&&mayF c f))):=rfl
 rw [e]
 generalize decide (now<c.expiry)=x at *
 generalize atF c f=y at *
 generalize pathF f.path c.path=z at *
 generalize mayF c f=u at *
 refine funG3 tb_ok Tryz.func144 rfl Tryz.ntmps144 Tryz.results144 rfl fun N=>?_
 repeat' (first|with_reducible refine rounds_on ?_|with_reducible refine awp_rounds 6 ?_|refine zt ?_|(refine isR ?_;first|refine zo ?_|refine x_callvS (c1 _) (fun hb=>?_) (fun hb=>?_)|refine x_callvS (c1) (fun hb=>?_) (fun hb=>?_)|refine x_callvS (c2 _) (fun hb=>?_) (fun hb=>?_)|refine x_callvS (c2) (fun hb=>?_) (fun hb=>?_)|refine x_callvS (c3 _) (fun hb=>?_) (fun hb=>?_)|refine x_callvS (c3) (fun hb=>?_) (fun hb=>?_)|refine x_callvS (c4 _) (fun hb=>?_) (fun hb=>?_)|refine x_callvS (c4) (fun hb=>?_) (fun hb=>?_)|refine zA ?_|refine zc1 ?_|refine zI ?_)|refine zr ?_|exact x_le)
 all_goals (show V.bool _=V.bool _;first|rfl|simp_all)
end Go.Proofs.YtlfdjpgghiemfaaGreatDoor.GoesW
end
section
namespace Go.Proofs.YtlfdjpgghiemfaaGreatDoor.SufP
open HostP WordP WordS Abs
deriving instance DecidableEq for Suffix
theorem find_idx {α:Type} {p:α→Bool}:∀ {xs:List α} {b:α},xs.find? p=some b↔∃ i:Nat,xs[i]? = some b∧p b=true∧∀ (j:Nat) c,j<i→xs[j]? = some c→p c=false
 | [],b=>by simp
 | x::xs,b=>by
  rw [List.find?_cons]
  cases h:p x with
  | true =>
   constructor
   ·intro e;cases e
    exact ⟨0,rfl,h,fun j c hj=>by omega⟩
   ·rintro ⟨i,h1,h2,h3⟩
    rcases i with _|i
    ·exact h1
    ·have:=h3 0 x (by omega) rfl
     rw [h] at this;cases this
  | false =>
   show List.find? p xs=some b↔_
   rw [find_idx (xs:=xs)]
   constructor
   ·rintro ⟨i,h1,h2,h3⟩
    refine ⟨i+1,by simpa using h1,h2,fun j c hj hc=>?_⟩
    rcases j with _|j
    ·simp at hc;subst hc;exact h
    ·exact h3 j c (by omega) (by simpa using hc)
   ·rintro ⟨i,h1,h2,h3⟩
    rcases i with _|i
    ·simp at h1;subst h1;rw [h] at h2;cases h2
    ·exact ⟨i,by simpa using h1,h2,fun j c hj hc=>h3 (j+1) c (by omega) (by simpa using hc)⟩
theorem find_no {α:Type} {p:α→Bool} {xs:List α}:xs.find? p=none↔∀ (j:Nat) c,xs[j]? = some c→p c=false:=by
 rw [List.find?_eq_none]
 constructor
 ·intro h j c hc
  simpa using h c (List.mem_of_getElem? hc)
 ·intro h c hc
  obtain ⟨j,hj⟩:=List.mem_iff_getElem?.1 hc
  simpa using h j c hj
theorem find_on {α:Type} {p:α→Bool} {xs:List α} {k:Nat} {d:α} (h:xs[k]? = some d):(xs.take (k+1)).find? p=((xs.take k).find? p).or (if p d then some d else none):=by
 obtain ⟨hk,rfl⟩:=List.getElem?_eq_some_iff.1 h
 rw [List.take_succ_eq_append_getElem hk,List.find?_append]
 congr 1
 rw [List.find?_cons]
 cases p xs[k]<;>rfl
def up:List UInt8→List UInt8
 | []=>[]
 | c::r=>if c=46 then r else up r
theorem up_none {l:List UInt8} (h:l.contains 46=false):up l=[]:=by
 induction l with
 | nil=>rfl
 | cons c r ih =>
  simp only [List.contains_cons,Bool.or_eq_false_iff,beq_eq_false_iff_ne] at h
  unfold up
  rw [if_neg (fun e=>h.1 e.symm),ih h.2]
theorem up_at {a r:List UInt8} (h:a.contains 46=false):up (a++46::r)=r:=by
 induction a with
 | nil=>simp [up]
 | cons c a ih =>
  simp only [List.contains_cons,Bool.or_eq_false_iff,beq_eq_false_iff_ne] at h
  rw [List.cons_append,up,if_neg (fun e=>h.1 e.symm),ih h.2]
def ch (l:List UInt8):List (List UInt8):=l::after l
theorem ups_ch {h:List UInt8} (h0:h≠[]) (ha:address h=false):upsF h=ch h:=by unfold upsF ch;rw [if_neg h0,ha];rfl
def hostOk (l:List UInt8):Bool:=decide (canonF l=(l,0))
structure Hst (l:List UInt8):Prop where
 fold:fold l=l
 len:l.length≤253
 lab:(split 46 l).all label=true
theorem host_iff (l:List UInt8):hostOk l=true↔Hst l:=by
 unfold hostOk
 rw [decide_eq_true_eq]
 constructor
 ·intro e
  obtain ⟨h1,h2,h3⟩:=canon_ok e
  exact ⟨h1.symm,h2,by rw [← h1] at h3;exact h3⟩
 ·intro ⟨h1,h2,h3⟩
  unfold canonF
  rw [if_neg (by omega),h1,if_pos h3]
theorem Hst.ne {l:List UInt8} (h:Hst l):l≠[]:=fun e=>by
 have:=h.lab
 rw [e] at this
 simp [split,label] at this
theorem Hst.part {x u:List UInt8} (h:Hst (x++46::u)):Hst u:=by
 obtain ⟨h1,h2,h3⟩:=h
 refine ⟨?_,by simp at h2;omega,?_⟩
 ·rw [fold_app,show WordP.fold (46::u)=foldB 46::WordP.fold u from rfl] at h1
  have hl:(WordP.fold x).length=x.length:=by simp [WordP.fold]
  have:=(List.append_inj h1 hl).2
  exact (List.cons.injEq _ _ _ _ ▸ this).2
 ·rw [split_mid,List.all_append,Bool.and_eq_true] at h3
  exact h3.2
theorem Hst.mem {l u:List UInt8} (h:Hst l) (hu:u∈ch l):Hst u:=by
 unfold ch at hu
 rcases List.mem_cons.1 hu with rfl|hu
 ·exact h
 ·obtain ⟨x,rfl⟩:=(mem_after u l).1 hu
  exact h.part
def bad1 (r:Suffix):Nat:=if r.kind<1∨3<r.kind then 7 else if hostOk r.name=false∨address r.name=true∨(r.kind=3∧up r.name=[]) then 1 else 0
def checkG (seen:List Suffix):List Suffix→Nat
 | []=>0
 | r::rest=>if bad1 r≠0 then bad1 r else if r∈seen then 6 else checkG (seen++[r]) rest
def checkF (L:List Suffix):Nat:=if 16<L.length then 2 else checkG [] L
structure Rules (L:List Suffix):Prop where
 ok:∀ r∈L,bad1 r=0
 once:∀ (i:Nat) r,L[i]? = some r→r ∉ L.take i
theorem checkG_ok:∀ {L seen:List Suffix},checkG seen L=0→∀ (i:Nat) r,L[i]? = some r→bad1 r=0∧r ∉ seen++L.take i
 | [],_,_,i,r,h=>by simp at h
 | x::L,seen,e,i,r,h=>by
  unfold checkG at e
  split at e
  ·rename_i hb;exact absurd e hb
  ·rename_i hb
   split at e
   ·cases e
   ·rename_i hs
    rcases i with _|i
    ·simp at h;subst h
     exact ⟨by omega,by simpa using hs⟩
    ·obtain ⟨h1,h2⟩:=checkG_ok e i r (by simpa using h)
     exact ⟨h1,by simpa using h2⟩
theorem check_rules {L:List Suffix} (h:checkF L=0):Rules L∧L.length≤16:=by
 unfold checkF at h
 split at h
 ·cases h
 ·refine ⟨⟨fun r hr=>?_,fun i r hi=>?_⟩,by omega⟩
  ·obtain ⟨i,hi⟩:=List.mem_iff_getElem?.1 hr
   exact (checkG_ok h i r hi).1
  ·have:=(checkG_ok h i r hi).2
   simpa using this
theorem bad_ok {r:Suffix} (h:bad1 r=0):1≤r.kind∧r.kind≤3∧Hst r.name∧address r.name=false∧(r.kind=3→up r.name≠[]):=by
 unfold bad1 at h
 split at h
 ·cases h
 ·rename_i h1
  split at h
  ·cases h
  ·rename_i h2
   refine ⟨by omega,by omega,(host_iff _).1 ?_,?_,fun h3 h4=>h2 (.inr (.inr ⟨h3,h4⟩))⟩
   ·cases hh:hostOk r.name with
    | true=>rfl
    | false=>exact absurd (.inl hh) h2
   ·cases hh:address r.name with
    | false=>rfl
    | true=>exact absurd (.inr (.inl hh)) h2
def rIn (L:List Suffix) (kd:Int) (d:List UInt8):Bool:=decide ((⟨kd,d⟩:Suffix)∈L)
def bIn (L:List Suffix) (d:List UInt8):Bool:=rIn L 1 d||rIn L 2 (up d)
def pubF (L:List Suffix) (h:List UInt8):List UInt8:=if address h then [] else match (ch h).find? (rIn L 3) with
 | some d=>up d
 | none=>match (ch h).find? (bIn L) with
  | some d=>d
  | none=>((ch h).getLast?).getD h
def pubNo (L:List Suffix) (h:List UInt8):List UInt8 × Nat:=if checkF L≠0 then ([],checkF L) else if hostOk h then (pubF L h,0) else ([],1)
def owner (L:List Suffix) (h:List UInt8):List UInt8:=((ch h).find? fun u=>up u==pubF L h).getD []
def ownF (L:List Suffix) (h:List UInt8):List UInt8 × Nat:=if (pubNo L h).2≠0 then ([],(pubNo L h).2) else if address h then (h,0) else if pubF L h=h then ([],5) else (owner L h,0)
inductive PubAt (L:List Suffix) (h p:List UInt8) (m:Nat):Prop
 | exc (k:Nat) (d:List UInt8) (hm:m=k+1) (hd:(ch h)[k]? = some d) (hr:rIn L 3 d=true) (hf:∀ (j:Nat) c,j<k→(ch h)[j]? = some c→rIn L 3 c=false)
 | bst (hn:∀ (j:Nat) c,(ch h)[j]? = some c→rIn L 3 c=false) (hr:bIn L p=true) (hf:∀ (j:Nat) c,j<m→(ch h)[j]? = some c→bIn L c=false)
 | lst (hn:∀ (j:Nat) c,(ch h)[j]? = some c→rIn L 3 c=false) (hf:∀ (j:Nat) c,(ch h)[j]? = some c→bIn L c=false) (hm:m+1=(ch h).length)
end Go.Proofs.YtlfdjpgghiemfaaGreatDoor.SufP
end
