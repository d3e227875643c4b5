/- Texts of the proof, joined: AbsD. -/
import Derived.Test.YtlfdjpgghiemfaaGreatDoorH13
namespace Go.Proofs.YtlfdjpgghiemfaaGreatDoor
namespace Abs
open Go.RowKit Mem Facts
section
variable {X A A':Nat→Prop} {φ φ':Nat→Pl} {w w':World} {P:Program} {tb:List Ty} {T:Nat} {e ee:Ty} {N:Env} {M:Nat→Prop} {o:Oper} {s:S} {a:Act}
variable {es:List (V × V)} {i clock:Nat} {ents:Array MapEntry} {k:V}
def eqK (e:Ty):V→V→Bool
 | .agg us,.agg vs=>eqF us vs e.flds
 | u,v=>eqS u v
def okK (tb:List Ty) (e:Ty):V→V→Bool
 | .agg us,.agg vs=>Nat.beq e.knd 9&&okF tb us vs e.flds
 | u,v=>okS e.knd u v
def fF (P:Program) (T:Nat) (e:Ty):Bool:=bif Nat.beq e.knd 9 then jD P T else true
theorem FP {n:Nat} {u v:V} (h:okS n u v=true):(∀ us,u ≠ .agg us)∧∀ us,v ≠ .agg us:=by
 unfold okS at h
 split at h<;>first|(cases h;done)|exact ⟨fun _ e=>(by cases e),fun _ e=>(by cases e)⟩
theorem zw {u v:V} (h:okK tb e u v=true):(∃ us vs,u = .agg us∧v = .agg vs∧Nat.beq e.knd 9=true∧okF tb us vs e.flds=true∧eqK e u v=eqF us vs e.flds)∨(okS e.knd u v=true∧eqK e u v=eqS u v):=by
 unfold okK at h
 split at h
 ·rw [Bool.and_eq_true] at h
  exact .inl ⟨_,_,rfl,rfl,h.1,h.2,rfl⟩
 ·refine .inr ⟨h,?_⟩
  have:=(FP h).1
  unfold eqK
  split
  ·exact absurd rfl (this _)
  ·rfl
theorem XK {u v:V} {x y:Value} (htb:aL P tb) (hT:nth tb T=some e) (hq:fF P T e=true) (hok:okK tb e u v=true) (hx:Rep X A φ w u x) (hy:Rep X A φ w v y) (w1:World):(Op.equal T x y).run P w1 = .ok (eqK e u v) w1:=by
 rcases zw hok with ⟨us,vs,rfl,rfl,h1,h2,h3⟩|⟨h1,h2⟩
 ·unfold fF at hq
  rw [h1,cond_true] at hq
  obtain ⟨cx,cy,rfl,rfl,h⟩:=rU htb hT h1 hq h2 rfl hx hy
  rw [h3]
  exact h w1
 ·rw [h2]
  exact (Bc htb hT h1 hx hy 9999).2 w1
theorem Pk {t:Nat} {u:V} {x:Value} (htb:aL P tb) (hT:nth tb t=some e) (hok:okS e.knd u u=true) (hx:Rep X A φ w u x) (em:Bool) (n:Nat) (w1:World):(Instr.checkKey em (n+1) t x).run P w1 = .ok () w1:=by
 obtain ⟨ti,d,ht⟩:=aV htb hT
 have hu:=ht.und
 unfold okS at hok
 split at hok
 ·rw [Bool.and_eq_true] at hok
  rw [fJ hx]
  have hd:=rP ((Nat.eq_of_beq_eq_true hok.1).symm.trans ht.knd)
  subst hd
  simp [Instr.checkKey,run_underlying hu]
 ·rw [iV hx]
  have hd:d = .bool:=Ff ((Nat.eq_of_beq_eq_true hok).symm.trans ht.knd)
  subst hd
  simp [Instr.checkKey,run_underlying hu]
 ·rw [(jq hx).1]
  have hd:d = .string:=pq ((Nat.eq_of_beq_eq_true hok).symm.trans ht.knd)
  subst hd
  simp [Instr.checkKey,run_underlying hu]
 ·cases hok
theorem Pj {us : List V} {xs : Array Value} (htb : aL P tb) (hx : gG X A φ w us xs.toList) (em : Bool) (n : Nat) (w1 : World) : ∀ fs : List Field, okF tb us us (fs.map fun f => (f.offset, f.type)) = true → fs.all (·.name != "_") = true →
  ((forIn fs PUnit.unit fun f _ => if f.name ≠ "_" then (do
   let c ← part f.type xs f.offset
   Instr.checkKey em (n+1) f.type c
   pure (ForInStep.yield PUnit.unit)) else pure (ForInStep.yield PUnit.unit):Sem PUnit).run P w1) = .ok PUnit.unit w1
 | [],_,_=>by simp
 | f::fs,hok,hn=>by
  simp only [List.map_cons,okF,Bool.and_eq_true] at hok
  obtain ⟨h1,h2⟩:=hok
  rw [List.all_cons,Bool.and_eq_true] at hn
  have ih:=Pj htb hx em n w1 fs h2 hn.2
  cases ht:nth tb f.type with
  | none=>rw [ht] at h1;cases h1
  | some ef =>
   cases hu:nth us f.offset with
   | none=>rw [ht,hu] at h1;cases h1
   | some u =>
    rw [ht,hu] at h1
    simp only at h1
    rw [dw] at hu
    obtain ⟨cx,k1,k2⟩:=hx.2 _ _ hu
    rw [Array.getElem?_toList] at k1
    obtain ⟨g1,_⟩:=Bc (P:=P) htb ht h1 k2 k2 0
    have g2:=Pk htb ht h1 k2 em n w1
    have hne : f.name ≠ "_" := by simpa using hn.1
    simp only [List.forIn_cons,Sem.run_bind,hne,ne_eq,not_false_eq_true,if_true,Result.andThen_ok,run_part_plain w1 g1 k1,g2,Sem.run_pure]
    exact ih
theorem AY {u:V} {x:Value} (htb:aL P tb) (hT:nth tb T=some e) (hq:fF P T e=true) (hok:okK tb e u u=true) (hx:Rep X A φ w u x) (em:Bool) (w1:World):(Instr.checkKey em 10000 T x).run P w1 = .ok () w1:=by
 rcases zw hok with ⟨us,vs,rfl,hv,h1,h2,h3⟩|⟨h1,h2⟩
 ·cases hv
  unfold fF at hq
  rw [h1,cond_true] at hq
  obtain ⟨cx,rfl,g1,g2,g3⟩:=jw hx
  obtain ⟨ti,d,ht⟩:=aV htb hT
  obtain ⟨fs,rfl⟩:∃ fs,d = .struct fs:=qZ ((Nat.eq_of_beq_eq_true h1).symm.trans ht.knd)
  have hu:=ht.und
  have hfl:e.flds=(fs.toList.map fun f=>(f.offset,f.type)):=by rw [ht.flds];rfl
  rw [hfl] at h2
  unfold jD at hq
  simp only [Bool.and_eq_true] at hq
  have hfo:P.fieldsOf T=fs:=by simp [Program.fieldsOf,hu]
  have hn : (fs.toList.all (·.name != "_")) = true := by
   have:=hq.2;rw [hfo] at this
   simpa [Array.all_toList] using this
  have:=Pj (w:=w) htb (gG.mk' (by simpa using g1) fun j u c hu hc=>g3 j u c hu (by simpa using hc)) em 9998 w1 fs.toList h2 hn
  rw [show (10000:Nat)=9999+1 from rfl,Instr.checkKey]
  simp only [Sem.run_bind,run_underlying hu,Result.andThen_ok]
  rw [← Array.forIn_toList]
  rw [this]
  simp
 ·exact Pk htb hT h1 hx em 9999 w1
def dI (e:Ty) (k:V):List (V × V)→Nat→Option Nat
 | [],_=>none
 | p::r,i=>bif eqK e k p.1 then some i else dI e k r (i+1)
def Found (ents:List MapEntry) (i0:Nat):Option Nat→Option (Nat × Value)→Prop
 | none,r=>r=none
 | some i,r=>∃ j en,i=i0+j∧ents[j]? = some en∧r=some (i,en.val)
theorem Found.on {en:MapEntry} {ents:List MapEntry} {i0:Nat} {f:Option Nat} {r:Option (Nat × Value)} (h:Found ents (i0+1) f r):Found (en::ents) i0 f r:=by
 cases f with
 | none=>exact h
 | some i =>
  obtain ⟨j,e',h1,h2,h3⟩:=h
  exact ⟨j+1,e',by omega,by simpa using h2,h3⟩
def pI (X:Nat→Prop) (w:World) (es:List (V × V)) (ents:List MapEntry):Prop:=ents.length=es.length∧∀ (i:Nat) p en,es[i]? = some p→ents[i]? = some en→Fz X w p.1 en.key
theorem pI.on {p:V × V} {es:List (V × V)} {en:MapEntry} {ents:List MapEntry} (h:pI X w (p::es) (en::ents)):Fz X w p.1 en.key∧pI X w es ents :=
 ⟨h.2 0 p en rfl rfl,by simpa using h.1,fun i q f h1 h2=>h.2 (i+1) q f (by simpa using h1) (by simpa using h2)⟩
theorem DC {k:V} {x:Value} (htb:aL P tb) (hT:nth tb T=some e) (hq:fF P T e=true) (hx:Rep X A φ w k x) (w1:World):∀ (es:List (V × V)) (ents:List MapEntry) (i0:Nat),pI X w es ents→(∀ p∈es,okK tb e k p.1=true) →
  ∃ r,(Instr.findAsking T x ents i0).run P w1 = .ok r w1∧Found ents i0 (dI e k es i0) r
 | [],ents,i0,h,_=>by
  have:ents=[]:=List.eq_nil_of_length_eq_zero (by simpa using h.1)
  subst this
  exact ⟨none,by simp [Instr.findAsking],rfl⟩
 | p::es,[],i0,h,_=>by simp [pI] at h
 | p::es,en::ents,i0,h,hok=>by
  obtain ⟨h1,h2⟩:=h.on
  have hr:=XK htb hT hq (hok p (by simp)) hx (.fz h1) w1
  rw [dI]
  cases hb:eqK e k p.1 with
  | true =>
   rw [hb] at hr
   exact ⟨some (i0,en.val),by simp [Instr.findAsking,hr],0,en,rfl,rfl,rfl⟩
  | false =>
   rw [hb] at hr
   obtain ⟨r,g1,g2⟩:=DC htb hT hq hx w1 es ents (i0+1) h2 fun q hq'=>hok q (by simp [hq'])
   exact ⟨r,by simp [Instr.findAsking,hr,g1],g2.on⟩
theorem Fa (p q:ByteArray):(p==q)=decide (p=q):=by
 obtain ⟨p⟩:=p
 obtain ⟨q⟩:=q
 show (p==q)=_
 by_cases h:p=q
 ·subst h;simp
 ·rw [decide_eq_false (fun e=>h (by cases e;rfl))];simpa using h
theorem acI {v:V} {x y:Value} {ti:TypeInfo} {d:TypeDesc} (ht:GV P T e ti d) (hok:okK tb e k v=true) (hx:Rep X A φ w k x) (hy:Rep X A φ w v y) {b:Bool} (h:Instr.sameNow d x y=some b):b=eqK e k v:=by
 rcases zw hok with ⟨us,vs,rfl,rfl,h1,h2,h3⟩|⟨h1,h2⟩
 ·obtain ⟨fs,rfl⟩:∃ fs,d = .struct fs:=qZ ((Nat.eq_of_beq_eq_true h1).symm.trans ht.knd)
  simp [Instr.sameNow] at h
 ·rw [h2]
  unfold okS at h1
  split at h1
  ·rename_i q m q' m'
   rw [fJ hx,fJ hy] at h
   unfold Instr.sameNow at h
   split at h
   ·rename_i heq1 heq2
    cases heq1;cases heq2
    split at h<;>cases h
    simp only [eqS]
    by_cases hh:m=m'<;>simp [hh]
   ·rename_i heq1 heq2;cases heq1
   ·rename_i heq1 heq2;cases heq1
   ·cases h
  ·rename_i p q
   rw [iV hx,iV hy] at h
   unfold Instr.sameNow at h
   split at h
   ·rename_i heq1 heq2;cases heq1
   ·rename_i heq1 heq2;cases heq1
   ·rename_i heq1 heq2;cases heq1;cases heq2;cases h;rfl
   ·cases h
  ·rename_i p q
   rw [(jq hx).1,(jq hy).1] at h
   unfold Instr.sameNow at h
   split at h
   ·rename_i heq1 heq2;cases heq1
   ·rename_i heq1 heq2;cases heq1;cases heq2;cases h
    simp only [eqS]
    exact Fa p q
   ·rename_i heq1 heq2;cases heq1
   ·cases h
  ·cases h1
theorem Lp {k:V} {x:Value} {ti:TypeInfo} {d:TypeDesc} (ht:GV P T e ti d) (hx:Rep X A φ w k x):∀ (es:List (V × V)) (ents:List MapEntry) (i0:Nat),pI X w es ents→(∀ p∈es,okK tb e k p.1=true) →
  Instr.findNow d x ents i0=none∨∃ r,Instr.findNow d x ents i0=some r∧Found ents i0 (dI e k es i0) r
 | [],ents,i0,h,_=>by
  have:ents=[]:=List.eq_nil_of_length_eq_zero (by simpa using h.1)
  subst this
  exact .inr ⟨none,rfl,rfl⟩
 | p::es,[],i0,h,_=>by simp [pI] at h
 | p::es,en::ents,i0,h,hok=>by
  obtain ⟨h1,h2⟩:=h.on
  rw [dI,Instr.findNow]
  cases hs:Instr.sameNow d x en.key with
  | none=>exact .inl rfl
  | some b =>
   have hb:=acI ht (hok p (by simp)) hx (.fz h1) hs
   cases b with
   | true =>
    rw [← hb]
    exact .inr ⟨_,rfl,0,en,rfl,rfl,rfl⟩
   | false =>
    rw [← hb]
    rcases Lp ht hx es ents (i0+1) h2 fun q hq'=>hok q (by simp [hq']) with g|⟨r,g1,g2⟩
    ·exact .inl g
    ·exact .inr ⟨r,g1,g2.on⟩
theorem uz {x:Value} (htb:aL P tb) (hT:nth tb T=some e) (hq:fF P T e=true) (hx:Rep X A φ w k x) (w1:World) {ents:List MapEntry} (h:pI X w es ents) (hok:∀ p∈es,okK tb e k p.1=true):
  ∃ r,(Instr.findKey T x ents).run P w1 = .ok r w1∧Found ents 0 (dI e k es 0) r:=by
 obtain ⟨ti,d,ht⟩:=aV htb hT
 have hu:=ht.und
 rcases Lp ht hx es ents 0 h hok with g|⟨r,g1,g2⟩
 ·obtain ⟨r,h1,h2⟩:=DC htb hT hq hx w1 es ents 0 h hok
  exact ⟨r,by simp [Instr.findKey,run_underlying hu,Result.andThen,g,h1],h2⟩
 ·exact ⟨r,by simp [Instr.findKey,run_underlying hu,Result.andThen,g1],g2⟩
theorem Nh {u:V} {x y:Value} {n:Nat} (hok:okS n u u=true) (hx:Rep X A φ w u x) (hy:Rep X A' φ' w' u y):x=y:=by
 unfold okS at hok
 split at hok
 ·rw [fJ hx,fJ hy]
 ·rw [iV hx,iV hy]
 ·rw [(jq hx).1,(jq hy).1]
 ·cases hok
theorem MG {u:V} {x:Value} {n m:Nat} (hok:okS n u u=true) (hx:Rep X A φ w u x):Instr.sameBits (m+1) x x=true:=by
 unfold okS at hok
 split at hok
 ·rw [fJ hx];simp [Instr.sameBits]
 ·rw [iV hx];simp [Instr.sameBits]
 ·rw [(jq hx).1];simp [Instr.sameBits,Fa]
 ·cases hok
theorem aaW {n:Nat} {x:Value} (h:Rep X A φ w (.mp n) x):∃ b,(φ n).blk=some b∧x = .map (some b):=by
 cases h with
 | fz h=>cases h
 | mp h1 h2=>exact ⟨_,h2,rfl⟩
theorem Ap.push {en:MapEntry} {p:V × V} (h:Ap ents clock es.length) (he:en.born=clock):Ap (ents.push en) (clock+1) (es++[p]).length :=
 ⟨by simp [h.sz],by simp [h.ck],fun i x hx=>by
  rw [Array.getElem?_push] at hx
  split at hx
  ·rename_i e;cases hx;rw [he,h.ck,e,h.sz]
  ·exact h.bn i x hx⟩
theorem Ap.modify {n j:Nat} {f:MapEntry→MapEntry} (h:Ap ents clock n) (hf:∀ e,(f e).born=e.born):Ap (ents.modify j f) clock n :=
 ⟨by simp [h.sz],h.ck,fun i x hx=>by
  rw [Array.getElem?_modify] at hx
  split at hx
  ·rw [Option.map_eq_some_iff] at hx
   obtain ⟨y,hy,rfl⟩:=hx
   rw [hf]
   exact h.bn i y hy
  ·exact h.bn i x hx⟩
theorem KD {ν:Nat} (ho:o.op = .makeMap T none):aC P N o ⟨[],[]⟩ (.mp ν) [(ν,some (.map []))] [ν]:=fun s M A φ a w hh hr hν hd=>by
 have hrun:(execOp a.eval o).run P w = .ok (.value (.map (some w.heap.size))) (w.alloc (.map #[] 0)):=by
  unfold execOp;simp only [ho]
  have h:(Instr.makeMap T none).run P w = .ok (.map (some w.heap.size)) (w.alloc (.map #[] 0)):=rfl
  simp [h,Result.andThen]
 unfold Oper.wp
 rw [hrun]
 refine AO (pl:=⟨some w.heap.size,0,0⟩) hr (hν ν (by simp)) rfl (fun φ' hφ=>?_) (fun φ' hφ=>?_) hd
 ·exact ⟨_,#[],0,rfl,.inr rfl,heap_alloc_new w _,⟨rfl,rfl,fun i en h=>by simp at h⟩,fun i k v en h=>by simp at h⟩
 ·exact .mp (.inr rfl) (by rw [hφ])
theorem wT {n:Nat} (hr:Rel N M A φ s a w) (hk:s.blk n=some (.map es)) {x:Operand} (hx:s.ev x=some (.mp n)):∃ b ents clock,a.eval x = .map (some b)∧(φ n).blk=some b∧w.heap[b]? = some (.map ents clock)∧Ap ents clock es.length ∧
  pI (fun b=>M b∨N b) w es ents.toList∧∀ (i:Nat) k v en,es[i]? = some (k,v)→ents[i]? = some en→Fz (fun b=>M b∨N b) w k en.key∧Rep (fun b=>M b∨N b) A φ w v en.val:=by
 obtain ⟨b,h1,h2⟩:=aaW (hr.ev hx)
 obtain ⟨_,b',ents,clock,g1,g2,g3,g4,g5⟩:=hr.st n _ hk
 rw [h1] at g1;cases g1
 exact ⟨b,ents,clock,h2,h1,g3,g4,⟨by simpa using g4.sz,fun i p en h3 h4=>(g5 i p.1 p.2 en h3 (by simpa using h4)).1⟩,g5⟩
theorem yj {n:Nat} {x y:Operand} {kt el:Nat} {ek:Ty} (c:Bool) (htb:aL P tb) (hT:nth tb T=some e) (hm:e.mp=some (kt,el)) (hkt:nth tb kt=some ek) (hq:fF P kt ek=true) (hkk:okK tb ek k k=true) (hok:∀ p∈es,okK tb ek k p.1=true) (hr:Rel N M A φ s a w) (hk:s.blk n=some (.map es)) (hx:s.ev x=some (.mp n)) (hy:s.ev y=some k):
  (∀ i q v,dI ek k es 0=some i→es[i]? = some (q,v)→∃ r,(Instr.lookup T (a.eval x) (a.eval y) c).run P w = .ok (if c then .tuple #[r,.bool true] else r) w∧Rep (fun b=>M b∨N b) A φ w v r) ∧
  (dI ek k es 0=none→∀ z,(zeroValue el).run P w = .ok z w→(Instr.lookup T (a.eval x) (a.eval y) c).run P w = .ok (if c then .tuple #[z,.bool false] else z) w):=by
 obtain ⟨b,ents,clock,h1,h2,h3,h4,h5,h6⟩:=wT hr hk hx
 have hrep:=hr.ev hy
 obtain ⟨ti,d,ht⟩:=aV htb hT
 have hu:=ht.und
 have hd:d = .map kt el:=by
  have:=ht.mp
  rw [hm] at this
  cases d<;>simp [Qv] at this
  rename_i k' e'
  rw [this.1,this.2]
 subst hd
 obtain ⟨r,g1,g2⟩:=uz htb hkt hq hrep w h5 hok
 have g3:=AY htb hkt hq hkk hrep ents.isEmpty w
 refine ⟨fun i q v hf hi=>?_,fun hf z hz=>?_⟩
 ·rw [hf] at g2
  obtain ⟨j,en,e1,e2,rfl⟩:=g2
  have:j=i:=by omega
  subst this
  refine ⟨en.val,?_,(h6 j q v en hi (by simpa using e2)).2⟩
  rw [h1]
  cases c<;>simp [Instr.lookup,run_underlying hu,MapKept.run_getObj_map h3,Result.andThen,g1,g3]
 ·rw [hf] at g2
  cases g2
  rw [h1]
  cases c<;>simp [Instr.lookup,run_underlying hu,MapKept.run_getObj_map h3,Result.andThen,g1,g3,hz]
theorem Np {n:Nat} {x y:Operand} {q v:V} {kt el:Nat} {ek:Ty} (htb:aL P tb) (ho:o.op = .lookup T x y false) (hT:nth tb T=some e) (hm:e.mp=some (kt,el)) (hkt:nth tb kt=some ek) (hq:fF P kt ek=true) (hkk:okK tb ek k k=true) (hok:∀ p∈es,okK tb ek k p.1=true) (hf:dI ek k es 0=some i) (hi:es[i]? = some (q,v)):aC P N o ⟨[(x,.mp n),(y,k)],[(n,.map es)]⟩ v [] []:=aD fun s M A φ a w hh hr=>by
 obtain ⟨r,h1,h2⟩:=(yj false htb hT hm hkt hq hkk hok hr hh.n hh.a hh.b).1 i q v hf hi
 refine ⟨r,?_,h2⟩
 unfold execOp;simp only [ho];simp [h1,Result.andThen]
theorem BV {u v:V} {x y:Value} (h1:Rep X A φ w u x) (h2:Rep X A φ w v y):Rep X A φ w (.tup [u,v]) (.tuple #[x,y]):=by
 refine .tup rfl fun i p c hp hc=>?_
 rcases i with _|_|i
 ·simp at hp hc;subst hp hc;exact h1
 ·simp at hp hc;subst hp hc;exact h2
 ·simp at hp
theorem GX {n:Nat} {x y:Operand} {q v:V} {kt el:Nat} {ek:Ty} (htb:aL P tb) (ho:o.op = .lookup T x y true) (hT:nth tb T=some e) (hm:e.mp=some (kt,el)) (hkt:nth tb kt=some ek) (hq:fF P kt ek=true) (hkk:okK tb ek k k=true) (hok:∀ p∈es,okK tb ek k p.1=true) (hf:dI ek k es 0=some i) (hi:es[i]? = some (q,v)):aC P N o ⟨[(x,.mp n),(y,k)],[(n,.map es)]⟩ (.tup [v,.bool true]) [] []:=aD fun s M A φ a w hh hr=>by
 obtain ⟨r,h1,h2⟩:=(yj true htb hT hm hkt hq hkk hok hr hh.n hh.a hh.b).1 i q v hf hi
 refine ⟨.tuple #[r,.bool true],?_,BV h2 (.fz .bool)⟩
 unfold execOp;simp only [ho];simp [h1,Result.andThen]
theorem N7 {n:Nat} {x y:Operand} {v:V} {kt el:Nat} {ek ee:Ty} (htb:aL P tb) (ho:o.op = .lookup T x y false) (hT:nth tb T=some e) (hm:e.mp=some (kt,el)) (hkt:nth tb kt=some ek) (hq:fF P kt ek=true) (hkk:okK tb ek k k=true) (hok:∀ p∈es,okK tb ek k p.1=true) (hf:dI ek k es 0=none) (hel:nth tb el=some ee) (hz:ee.zeroV=some v):aC P N o ⟨[(x,.mp n),(y,k)],[(n,.map es)]⟩ v [] []:=aD fun s M A φ a w hh hr=>by
 obtain ⟨z,g1,g2,_⟩:=l8 htb hel hz
 have h1:=(yj false htb hT hm hkt hq hkk hok hr hh.n hh.a hh.b).2 hf z (g1 w)
 refine ⟨z,?_,g2 _ _ _ _⟩
 unfold execOp;simp only [ho];simp [h1,Result.andThen]
theorem Hy {n:Nat} {x y:Operand} {v:V} {kt el:Nat} {ek ee:Ty} (htb:aL P tb) (ho:o.op = .lookup T x y true) (hT:nth tb T=some e) (hm:e.mp=some (kt,el)) (hkt:nth tb kt=some ek) (hq:fF P kt ek=true) (hkk:okK tb ek k k=true) (hok:∀ p∈es,okK tb ek k p.1=true) (hf:dI ek k es 0=none) (hel:nth tb el=some ee) (hz:ee.zeroV=some v):aC P N o ⟨[(x,.mp n),(y,k)],[(n,.map es)]⟩ (.tup [v,.bool false]) [] []:=aD fun s M A φ a w hh hr=>by
 obtain ⟨z,g1,g2,_⟩:=l8 htb hel hz
 have h1:=(yj true htb hT hm hkt hq hkk hok hr hh.n hh.a hh.b).2 hf z (g1 w)
 refine ⟨.tuple #[z,.bool false],?_,BV (g2 _ _ _ _) (.fz .bool)⟩
 unfold execOp;simp only [ho];simp [h1,Result.andThen]
theorem xg {n b:Nat} {k k':Blk} {ob:Obj} {dst:Option Nat} {nx:Nat} {v:V} {x:Value} (hr:Rel N M A φ s a w) (hk:s.blk n=some k) (hb:(φ n).blk=some b)
  (hnew:∀ w',bF (fun b=>M b∨N b) w w'→w'.heap[b]? = some ob→iT (fun b=>M b∨N b) M A φ w' (φ n) k') (hv:Rep (fun b=>M b∨N b) A φ w v x) (hd:∀ d,dst=some d→d<s.nt) :
  ∃ M' φ',bF M w { w with heap:=w.heap.setIfInBounds b ob }∧(∀ b,b<w.heap.size→M' b→M b)∧Rel N M' (fun n=>A n∨n∈([]:List Nat)) φ' (s.eff dst v [(n,some k')] nx) (a.put dst x) { w with heap:=w.heap.setIfInBounds b ob }:=by
 have hM:M b:=hr.gy hk hb
 have hlt:b<w.heap.size:=hr.lim b (.inl hM)
 have hst:∀ Q:Nat→Prop,Q b→bF Q w { w with heap:=w.heap.setIfInBounds b ob }:=fun Q hQ=>⟨rfl,rfl,rfl,by simp,fun b' _ hb'=>by
  have:¬ b=b':=fun e=>hb' (e ▸ hQ)
  simp [this]⟩
 have hs:=hst (fun b=>M b∨N b) (.inl hM)
 refine ⟨M,φ,hst M hM,fun _ _ h=>h,?_⟩
 have hgrow:Rel N M A φ (s.eff none .und [(n,some k')] nx) a { w with heap:=w.heap.setIfInBounds b ob }:=by
  have eb:∀ m,(s.eff none .und [(n,some k')] nx).blk m=if n=m then some k' else s.blk m:=fun m=>by
   unfold S.blk S.eff
   simp only [List.cons_append,List.nil_append,bW]
   by_cases e:n=m<;>simp [e]
  have name:∀ m q,(s.eff none .und [(n,some k')] nx).blk m=some q→∃ q',s.blk m=some q':=fun m q h=>by
   rw [eb] at h
   split at h
   ·rename_i e;subst e;exact ⟨_,hk⟩
   ·exact ⟨_,h⟩
  refine ⟨fun t u ht=>?_,hr.nt,fun m q hq=>?_,fun m m' q q' b' g1 g2 g3 g4=>?_,fun b' hb'=>?_,hr.dis,hr.df,hr.pin,hr.gl.stays hs fun _ _ h=>h⟩
  ·obtain ⟨g1,g2⟩:=hr.tm t u ht
   exact ⟨g1,g2.mono (fun _ _ h=>h) hs (fun _ h=>h) fun _ _=>rfl⟩
  ·rw [eb] at hq
   split at hq
   ·rename_i e;subst e;cases hq
    exact ⟨(hr.st n _ hk).1,hnew _ hs (by simp [hlt])⟩
   ·rename_i e
    obtain ⟨g0,g1⟩:=hr.st m q hq
    exact ⟨g0,g1.mono (fun _ _ h=>h) hs (fun _ h=>h) (fun _ _=>rfl) (fun _ h=>h) fun b' hb'=>by
     have:¬ b=b':=fun e2=>e (hr.inj n m _ _ b hk hq hb (by rw [hb',e2]))
     simp [this]⟩
  ·obtain ⟨k1,f1⟩:=name m q g1
   obtain ⟨k2,f2⟩:=name m' q' g2
   exact hr.inj m m' k1 k2 b' f1 f2 g3 g4
  ·have:=hr.lim b' hb';simpa using this
 have h9:=eX (nx:=nx) hgrow (hv.mono (fun _ _ h=>h) hs (fun _ h=>h) fun _ _=>rfl) hd
 refine (h9.wider fun n h=>.inl h).as (fun t=>?_) (fun n=>rfl) rfl
 cases dst<;>rfl
theorem Ol {n:Nat} {x y z:Operand} {v:V} {kt el:Nat} {ek:Ty} (htb:aL P tb) (ho:o.op = .mapUpdate T x y z) (hT:nth tb T=some e) (hm:e.mp=some (kt,el)) (hkt:nth tb kt=some ek) (hq:fF P kt ek=true) (hkk:okK tb ek k k=true) (hok:∀ p∈es,okK tb ek k p.1=true) (hn:k.names=[]) (hf:dI ek k es 0=none):aC P N o ⟨[(x,.mp n),(y,k),(z,v)],[(n,.map es)]⟩ .und [(n,some (.map (es++[(k,v)])))] []:=fun s M A φ a w hh hr _ hd=>by
 obtain ⟨b,ents,clock,h1,h2,h3,h4,h5,h6⟩:=wT hr hh.n hh.a
 have hrep:=hr.ev hh.b
 have hval:=hr.ev hh.c
 obtain ⟨ti,d,ht⟩:=aV htb hT
 have hu:=ht.und
 have hdd:d = .map kt el:=by
  have:=ht.mp
  rw [hm] at this
  cases d<;>simp [Qv] at this
  rename_i k' e'
  rw [this.1,this.2]
 subst hdd
 obtain ⟨r,g1,g2⟩:=uz htb hkt hq hrep w h5 hok
 have g3:=AY htb hkt hq hkk hrep false w
 rw [hf] at g2
 cases g2
 have hrun:(execOp a.eval o).run P w = .ok .skip { w with heap:=w.heap.setIfInBounds b (.map (ents.push { key:=a.eval y,val:=a.eval z,born:=clock }) (clock+1)) }:=by
  unfold execOp
  simp only [ho,h1]
  simp [Instr.mapUpdate,run_underlying hu,MapKept.run_getObj_map h3,Result.andThen,g1,g3,MapKept.run_setObj_map _ h3]
 unfold Oper.wp
 rw [hrun]
 refine xg hr hh.n h2 (fun w' hs hb=>?_) (.fz .und) hd
 refine ⟨b,_,_,h2,hr.gy hh.n h2,hb,h4.push rfl,fun i q u en hi he=>?_⟩
 have h4s:=h4.sz
 rw [Array.getElem?_push] at he
 by_cases hil:i=es.length
 ·subst hil
  rw [if_pos h4s.symm] at he
  rw [List.getElem?_append_right (by omega)] at hi
  simp at hi he
  obtain ⟨rfl,rfl⟩:=hi
  subst he
  exact ⟨(pK hrep hn).mono (fun _ _ h=>h) hs,hval.mono (fun _ _ h=>h) hs (fun _ h=>h) fun _ _=>rfl⟩
 ·rw [if_neg (by omega)] at he
  have hlt:i<es.length:=by
   have:=(List.getElem?_eq_some_iff.1 hi).1
   simp at this;omega
  rw [List.getElem?_append_left hlt] at hi
  obtain ⟨k1,k2⟩:=h6 i q u en hi he
  exact ⟨k1.mono (fun _ _ h=>h) hs,k2.mono (fun _ _ h=>h) hs (fun _ h=>h) fun _ _=>rfl⟩
theorem Ns {n:Nat} {x y z:Operand} {v v0:V} {kt el:Nat} {ek:Ty} (htb:aL P tb) (ho:o.op = .mapUpdate T x y z) (hT:nth tb T=some e) (hm:e.mp=some (kt,el)) (hkt:nth tb kt=some ek) (hq:fF P kt ek=true) (hkk:okS ek.knd k k=true) (hok:∀ p∈es,okK tb ek k p.1=true) (hf:dI ek k es 0=some i) (hi:es[i]? = some (k,v0)):aC P N o ⟨[(x,.mp n),(y,k),(z,v)],[(n,.map es)]⟩ .und [(n,some (.map (es.set i (k,v))))] []:=fun s M A φ a w hh hr _ hd=>by
 obtain ⟨b,ents,clock,h1,h2,h3,h4,h5,h6⟩:=wT hr hh.n hh.a
 have hrep:=hr.ev hh.b
 have hval:=hr.ev hh.c
 obtain ⟨ti,d,ht⟩:=aV htb hT
 have hu:=ht.und
 have hdd:d = .map kt el:=by
  have:=ht.mp
  rw [hm] at this
  cases d<;>simp [Qv] at this
  rename_i k' e'
  rw [this.1,this.2]
 subst hdd
 obtain ⟨r,g1,g2⟩:=uz htb hkt hq hrep w h5 hok
 have hkk':okK tb ek k k=true:=by
  have:=(FP hkk).1
  unfold okK
  split
  ·exact absurd rfl (this _)
  ·exact hkk
 have g3:=AY htb hkt hq hkk' hrep false w
 rw [hf] at g2
 obtain ⟨j,en,e1,e2,rfl⟩:=g2
 have:j=i:=by omega
 subst this
 rw [Array.getElem?_toList] at e2
 have hkey:en.key=a.eval y:=Nh hkk (.fz (h6 j k v0 en hi e2).1:Rep _ A φ w k en.key) hrep
 have hbits:=MG (m:=9999) hkk hrep
 have hrun:(execOp a.eval o).run P w = .ok .skip { w with heap:=w.heap.setIfInBounds b (.map (ents.modify j fun e=>{ e with key:=a.eval y,val:=a.eval z }) clock) }:=by
  unfold execOp
  simp only [ho,h1]
  simp [Instr.mapUpdate,run_underlying hu,MapKept.run_getObj_map h3,Result.andThen,g1,g3,MapKept.run_setObj_map _ h3,e2,hkey,Instr.keyThatStays,hbits]
 unfold Oper.wp
 rw [hrun]
 refine xg hr hh.n h2 (fun w' hs hb=>?_) (.fz .und) hd
 refine ⟨b,_,_,h2,hr.gy hh.n h2,hb,by rw [List.length_set];exact h4.modify (fun _=>rfl),fun i q u en' hi' he=>?_⟩
 rw [Array.getElem?_modify] at he
 rw [List.getElem?_set] at hi'
 have hjl:j<es.length:=(List.getElem?_eq_some_iff.1 hi).1
 by_cases hij:j=i
 ·subst hij
  rw [if_pos rfl,e2] at he
  rw [if_pos rfl,if_pos hjl] at hi'
  cases he;cases hi'
  exact ⟨(by have:=(h6 j k v0 en hi e2).1;rw [hkey] at this;exact this.mono (fun _ _ h=>h) hs),hval.mono (fun _ _ h=>h) hs (fun _ h=>h) fun _ _=>rfl⟩
 ·rw [if_neg hij] at he hi'
  obtain ⟨k1,k2⟩:=h6 i q u en' hi' he
  exact ⟨k1.mono (fun _ _ h=>h) hs,k2.mono (fun _ _ h=>h) hs (fun _ h=>h) fun _ _=>rfl⟩
end
theorem aP {P:Program} {N:Env} {c:Code} {Q:Exit→S→Prop} {n:Nat} {s:S} (h:AWp P N c (lg (yu P N c Q n) Q) s):yu P N c Q (n+1) s:=h
theorem JC {e:Ty} {k:V}:∀ {es:List (V × V)} {i:Nat},dI e k es i=none∨∃ j p,dI e k es i=some (i+j)∧es[j]? = some p∧eqK e k p.1=true∧∀ j' q,j'<j→es[j']? = some q→eqK e k q.1=false
 | [],_=>.inl rfl
 | p::es,i=>by
  rw [dI]
  cases h:eqK e k p.1 with
  | true=>exact .inr ⟨0,p,rfl,rfl,h,fun j' q hj=>by omega⟩
  | false =>
   rw [cond_false]
   rcases JC (e:=e) (k:=k) (es:=es) (i:=i+1) with g|⟨j,q,g1,g2,g3,g4⟩
   ·exact .inl g
   ·refine .inr ⟨j+1,q,by rw [g1];congr 1;omega,by simpa using g2,g3,fun j' q' hj hq=>?_⟩
    rcases j' with _|j'
    ·simp at hq;subst hq;exact h
    ·exact g4 j' q' (by omega) (by simpa using hq)
theorem jA (l m:List UInt8):eqS (au l) (au m)=decide (l=m):=by
 show decide (str l=str m)=_
 simp only [str_inj]
theorem pM {α:Type} {tb:List Ty} {ek:Ty} {k:V} {L:List α} {f:α→V × V} (h:∀ a,okK tb ek k (f a).1=true):∀ p∈L.map f,okK tb ek k p.1=true:=fun x hx=>by
 obtain ⟨a,_,rfl⟩:=List.mem_map.1 hx
 exact h a
section
variable {P:Program} {N:Env} {l r:List Oper} {o:Oper} {tm:List (Nat × V)} {st:List (Nat × Option Blk)} {nx nt:Nat} {tr:List Tr} {K:S→List Tr→Prop} {tb:List Ty} {d T:Nat} {t t':TypeId} {x y z:Operand} {a b n:Int} {p q:List UInt8} {u v:Bool} {e ee ek:Ty} {m kt el:Nat} {kd:IntKind}
variable {st2:List (Nat × Option Blk)} {us:List (Option Blk)} {rv:V} {xs:Array Operand} {ts:Array TypeId} {k0:Nat} {α:Type} {up:List (Nat × Option Blk)} {sts:List Blk} {rs:List ResultVar} {sts':List (Option Blk)} {kv:V} {f:α→V} {es:List (V × V)} {nx':Nat} {vs:List V} {r2:V} {i:Nat} {L:List α} {bs:List Blk} {args:List V}
theorem Ci {us:List V} {w:Bool} (htb:aL P tb) (k:ay P N l K r ⟨(d,.bool w)::tm,st,nx,nt⟩ (tr++[aH l o ⟨[(x,.agg us),(y,.agg vs)],[]⟩ []])) (ho:o.op = .binOp .eql t x y t':=by rfl) (hx:S.ev ⟨tm,st,nx,nt⟩ x=some (.agg us):=by rfl) (hy:S.ev ⟨tm,st,nx,nt⟩ y=some (.agg vs):=by rfl) (hg:ax l o ⟨tm,st,nx,nt⟩=some true:=by rfl) (hd:o.dst=some d:=by rfl) (hlt:Nat.blt d nt=true:=by rfl) (hT':nth tb t=some e:=by rfl) (hk:Nat.beq e.knd 9=true:=by rfl) (hq:jD P t=true:=by kernel_rfl) (hok:okF tb us vs e.flds=true:=by rfl) (h:(eqF us vs e.flds)=w:=by first|assumption|rfl):ay P N l K (o::r) ⟨tm,st,nx,nt⟩ tr:=aJ hg hd hlt (zO htb ho hT' hk hq hok h) (hT hx (hT hy h0)) k
theorem AB {us:List V} {w:Bool} (htb:aL P tb) (k1:w=true→ay P N l K r ⟨(d,.bool true)::tm,st,nx,nt⟩ (tr++[aH l o ⟨[(x,.agg us),(y,.agg vs)],[]⟩ []])) (k2:w=false→ay P N l K r ⟨(d,.bool false)::tm,st,nx,nt⟩ (tr++[aH l o ⟨[(x,.agg us),(y,.agg vs)],[]⟩ []])) (ho:o.op = .binOp .eql t x y t':=by rfl) (hx:S.ev ⟨tm,st,nx,nt⟩ x=some (.agg us):=by rfl) (hy:S.ev ⟨tm,st,nx,nt⟩ y=some (.agg vs):=by rfl) (hg:ax l o ⟨tm,st,nx,nt⟩=some true:=by rfl) (hd:o.dst=some d:=by rfl) (hlt:Nat.blt d nt=true:=by rfl) (hT':nth tb t=some e:=by rfl) (hk:Nat.beq e.knd 9=true:=by rfl) (hq:jD P t=true:=by kernel_rfl) (hok:okF tb us vs e.flds=true:=by rfl) (h:(eqF us vs e.flds)=w:=by rfl):ay P N l K (o::r) ⟨tm,st,nx,nt⟩ tr:=si hg hd hlt (zO htb ho hT' hk hq hok h) (hT hx (hT hy h0)) k1 k2
theorem abZ {us:List V} {w:Bool} (htb:aL P tb) (k:ay P N l K r ⟨(d,.bool w)::tm,st,nx,nt⟩ (tr++[aH l o ⟨[(x,.agg us),(y,.agg vs)],[]⟩ []])) (ho:o.op = .binOp .neq t x y t':=by rfl) (hx:S.ev ⟨tm,st,nx,nt⟩ x=some (.agg us):=by rfl) (hy:S.ev ⟨tm,st,nx,nt⟩ y=some (.agg vs):=by rfl) (hg:ax l o ⟨tm,st,nx,nt⟩=some true:=by rfl) (hd:o.dst=some d:=by rfl) (hlt:Nat.blt d nt=true:=by rfl) (hT':nth tb t=some e:=by rfl) (hk:Nat.beq e.knd 9=true:=by rfl) (hq:jD P t=true:=by kernel_rfl) (hok:okF tb us vs e.flds=true:=by rfl) (h:(!eqF us vs e.flds)=w:=by first|assumption|rfl):ay P N l K (o::r) ⟨tm,st,nx,nt⟩ tr:=aJ hg hd hlt (JA htb ho hT' hk hq hok h) (hT hx (hT hy h0)) k
theorem adS (k:ay P N l K r ⟨(d,.mp nx)::tm,(nx,some (.map []))::st,nx+1,nt⟩ (tr++[aH l o ⟨[],[]⟩ [(nx,some (.map []))]])) (ho:o.op = .makeMap T none:=by rfl) (hg:ax l o ⟨tm,st,nx,nt⟩=some true:=by rfl) (hd:o.dst=some d:=by rfl) (hlt:Nat.blt d nt=true:=by rfl):ay P N l K (o::r) ⟨tm,st,nx,nt⟩ tr:=FB rfl hg hd hlt (KD ho) h0 k
theorem VN {q w:V} (htb:aL P tb) (k:ay P N l K r ⟨(d,w)::tm,st,nx,nt⟩ (tr++[aH l o ⟨[(x,.mp m),(y,kv)],[(m,.map es)]⟩ []])) (ho:o.op = .lookup T x y false:=by rfl) (hx:S.ev ⟨tm,st,nx,nt⟩ x=some (.mp m):=by rfl) (hy:S.ev ⟨tm,st,nx,nt⟩ y=some (kv):=by rfl) (hB:S.blk ⟨tm,st,nx,nt⟩ m=some (.map es):=by rfl) (hg:ax l o ⟨tm,st,nx,nt⟩=some true:=by rfl) (hd:o.dst=some d:=by rfl) (hlt:Nat.blt d nt=true:=by rfl) (hT':nth tb T=some e:=by rfl) (hm:e.mp=some (kt,el):=by rfl) (hkt:nth tb kt=some ek:=by rfl) (hq:fF P kt ek=true:=by kernel_rfl) (hkk:okK tb ek kv kv=true:=by rfl) (hok:∀ p∈es,okK tb ek kv p.1=true:=by first|assumption|exact pM (fun _=>rfl)|exact (fun _ h=>nomatch h)) (hf:dI ek kv es 0=some i:=by assumption) (hi:es[i]? = some (q,w):=by assumption):ay P N l K (o::r) ⟨tm,st,nx,nt⟩ tr:=aJ hg hd hlt (Np htb ho hT' hm hkt hq hkk hok hf hi) (hT hx (hT hy (hN hB h0))) k
theorem Wy {w:V} (htb:aL P tb) (k:ay P N l K r ⟨(d,w)::tm,st,nx,nt⟩ (tr++[aH l o ⟨[(x,.mp m),(y,kv)],[(m,.map es)]⟩ []])) (ho:o.op = .lookup T x y false:=by rfl) (hx:S.ev ⟨tm,st,nx,nt⟩ x=some (.mp m):=by rfl) (hy:S.ev ⟨tm,st,nx,nt⟩ y=some (kv):=by rfl) (hB:S.blk ⟨tm,st,nx,nt⟩ m=some (.map es):=by rfl) (hg:ax l o ⟨tm,st,nx,nt⟩=some true:=by rfl) (hd:o.dst=some d:=by rfl) (hlt:Nat.blt d nt=true:=by rfl) (hT':nth tb T=some e:=by rfl) (hm:e.mp=some (kt,el):=by rfl) (hkt:nth tb kt=some ek:=by rfl) (hq:fF P kt ek=true:=by kernel_rfl) (hkk:okK tb ek kv kv=true:=by rfl) (hok:∀ p∈es,okK tb ek kv p.1=true:=by first|assumption|exact pM (fun _=>rfl)|exact (fun _ h=>nomatch h)) (hf:dI ek kv es 0=none:=by first|assumption|rfl) (hel:nth tb el=some ee:=by rfl) (hz:ee.zeroV=some w:=by rfl):ay P N l K (o::r) ⟨tm,st,nx,nt⟩ tr:=aJ hg hd hlt (N7 htb ho hT' hm hkt hq hkk hok hf hel hz) (hT hx (hT hy (hN hB h0))) k
theorem Oh {q w:V} (htb:aL P tb) (k:ay P N l K r ⟨(d,.tup [w,.bool true])::tm,st,nx,nt⟩ (tr++[aH l o ⟨[(x,.mp m),(y,kv)],[(m,.map es)]⟩ []])) (ho:o.op = .lookup T x y true:=by rfl) (hx:S.ev ⟨tm,st,nx,nt⟩ x=some (.mp m):=by rfl) (hy:S.ev ⟨tm,st,nx,nt⟩ y=some (kv):=by rfl) (hB:S.blk ⟨tm,st,nx,nt⟩ m=some (.map es):=by rfl) (hg:ax l o ⟨tm,st,nx,nt⟩=some true:=by rfl) (hd:o.dst=some d:=by rfl) (hlt:Nat.blt d nt=true:=by rfl) (hT':nth tb T=some e:=by rfl) (hm:e.mp=some (kt,el):=by rfl) (hkt:nth tb kt=some ek:=by rfl) (hq:fF P kt ek=true:=by kernel_rfl) (hkk:okK tb ek kv kv=true:=by rfl) (hok:∀ p∈es,okK tb ek kv p.1=true:=by first|assumption|exact pM (fun _=>rfl)|exact (fun _ h=>nomatch h)) (hf:dI ek kv es 0=some i:=by assumption) (hi:es[i]? = some (q,w):=by assumption):ay P N l K (o::r) ⟨tm,st,nx,nt⟩ tr:=aJ hg hd hlt (GX htb ho hT' hm hkt hq hkk hok hf hi) (hT hx (hT hy (hN hB h0))) k
theorem NY {w:V} (htb:aL P tb) (k:ay P N l K r ⟨(d,.tup [w,.bool false])::tm,st,nx,nt⟩ (tr++[aH l o ⟨[(x,.mp m),(y,kv)],[(m,.map es)]⟩ []])) (ho:o.op = .lookup T x y true:=by rfl) (hx:S.ev ⟨tm,st,nx,nt⟩ x=some (.mp m):=by rfl) (hy:S.ev ⟨tm,st,nx,nt⟩ y=some (kv):=by rfl) (hB:S.blk ⟨tm,st,nx,nt⟩ m=some (.map es):=by rfl) (hg:ax l o ⟨tm,st,nx,nt⟩=some true:=by rfl) (hd:o.dst=some d:=by rfl) (hlt:Nat.blt d nt=true:=by rfl) (hT':nth tb T=some e:=by rfl) (hm:e.mp=some (kt,el):=by rfl) (hkt:nth tb kt=some ek:=by rfl) (hq:fF P kt ek=true:=by kernel_rfl) (hkk:okK tb ek kv kv=true:=by rfl) (hok:∀ p∈es,okK tb ek kv p.1=true:=by first|assumption|exact pM (fun _=>rfl)|exact (fun _ h=>nomatch h)) (hf:dI ek kv es 0=none:=by first|assumption|rfl) (hel:nth tb el=some ee:=by rfl) (hz:ee.zeroV=some w:=by rfl):ay P N l K (o::r) ⟨tm,st,nx,nt⟩ tr:=aJ hg hd hlt (Hy htb ho hT' hm hkt hq hkk hok hf hel hz) (hT hx (hT hy (hN hB h0))) k
theorem wZ (f:α→V × V) (a1:α) (htb:aL P tb) (k:ay P N l K r ⟨tm,(m,some (.map ((L++[a1]).map f)))::st,nx,nt⟩ (tr++[aH l o ⟨[(x,.mp m),(y,(f a1).1),(z,(f a1).2)],[(m,.map (L.map f))]⟩ [(m,some (.map ((L++[a1]).map f)))]])) (ho:o.op = .mapUpdate T x y z:=by rfl) (hx:S.ev ⟨tm,st,nx,nt⟩ x=some (.mp m):=by rfl) (hy:S.ev ⟨tm,st,nx,nt⟩ y=some ((f a1).1):=by rfl) (hz:S.ev ⟨tm,st,nx,nt⟩ z=some ((f a1).2):=by rfl) (hB:S.blk ⟨tm,st,nx,nt⟩ m=some (.map (L.map f)):=by rfl) (hg:ax l o ⟨tm,st,nx,nt⟩=some true:=by rfl) (hd:o.dst=none:=by rfl) (hT':nth tb T=some e:=by rfl) (hm:e.mp=some (kt,el):=by rfl) (hkt:nth tb kt=some ek:=by rfl) (hq:fF P kt ek=true:=by kernel_rfl) (hkk:okK tb ek (f a1).1 (f a1).1=true:=by rfl) (hok:∀ p∈L.map f,okK tb ek (f a1).1 p.1=true:=by exact pM (fun _=>rfl)) (hn:(f a1).1.names=[]:=by rfl) (hf:dI ek (f a1).1 (L.map f) 0=none:=by assumption):ay P N l K (o::r) ⟨tm,st,nx,nt⟩ tr:=BD hg hd (by have:=Ol (P:=P) (N:=N) htb ho hT' hm hkt hq hkk hok hn hf (v:=(f a1).2) (n:=m);simpa using this) (hT hx (hT hy (hT hz (hN hB h0)))) k
theorem UQ (htb:aL P tb) (k:ay P N l K r ⟨(d,.fro ((L.drop a.toNat).map f))::tm,st,nx,nt⟩ (tr++[aH l o ⟨[(x,.fro (L.map f)),(y,.int kd a)],[]⟩ []])) (ho:o.op = .slice T x (some y) none none:=by rfl) (hx:S.ev ⟨tm,st,nx,nt⟩ x=some (.fro (L.map f)):=by rfl) (hy:S.ev ⟨tm,st,nx,nt⟩ y=some (.int kd a):=by rfl) (hg:ax l o ⟨tm,st,nx,nt⟩=some true:=by rfl) (hd:o.dst=some d:=by rfl) (hlt:Nat.blt d nt=true:=by rfl) (hT':nth tb T=some e:=by rfl) (hs:e.sl=some el:=by rfl) (hE:nth tb el=some ee:=by rfl) (hc:∀ a,(f a).cells.length=ee.size:=by exact fun _=>rfl) (h0':0≤a:=by omega) (h1:a≤L.length:=by omega):ay P N l K (o::r) ⟨tm,st,nx,nt⟩ tr:=aJ hg hd hlt (by have:=Bu (P:=P) (N:=N) (k:=kd) htb ho hT' hs hE (fun x hx=>by obtain ⟨a,_,rfl⟩:=List.mem_map.1 hx;exact hc a) h0' (by simpa using h1);simpa using this) (hT hx (hT hy h0)) k
theorem abQ (htb:aL P tb) (k:ay P N l K r ⟨(d,.fro ((L.take b.toNat).map f))::tm,st,nx,nt⟩ (tr++[aH l o ⟨[(x,.fro (L.map f)),(z,.int kd b)],[]⟩ []])) (ho:o.op = .slice T x none (some z) none:=by rfl) (hx:S.ev ⟨tm,st,nx,nt⟩ x=some (.fro (L.map f)):=by rfl) (hz:S.ev ⟨tm,st,nx,nt⟩ z=some (.int kd b):=by rfl) (hg:ax l o ⟨tm,st,nx,nt⟩=some true:=by rfl) (hd:o.dst=some d:=by rfl) (hlt:Nat.blt d nt=true:=by rfl) (hT':nth tb T=some e:=by rfl) (hs:e.sl=some el:=by rfl) (hE:nth tb el=some ee:=by rfl) (hc:∀ a,(f a).cells.length=ee.size:=by exact fun _=>rfl) (h0':0≤b:=by omega) (h1:b≤L.length:=by omega):ay P N l K (o::r) ⟨tm,st,nx,nt⟩ tr:=aJ hg hd hlt (by have:=GJ (P:=P) (N:=N) (k:=kd) htb ho hT' hs hE (fun x hx=>by obtain ⟨a,_,rfl⟩:=List.mem_map.1 hx;exact hc a) h0' (by simpa using h1);simpa using this) (hT hx (hT hz h0)) k
def yD (s:S):List Nat→Option (List Blk)
 | []=>some []
 | n::r=>match s.blk n,yD s r with
  | some b,some q=>some (b::q)
  | _,_=>none
theorem oL {s:S}:∀ {ns:List Nat} {bs:List Blk},yD s ns=some bs→∀ p∈uS ns bs,s.blk p.1=some p.2
 | [],bs,h,p,hp=>by rw [yD] at h;cases h;simp [uS] at hp
 | n::r,bs,h,p,hp=>by
  rw [yD] at h
  split at h<;>cases h
  rename_i b q hb hq
  rw [uS] at hp
  rcases List.mem_cons.1 hp with rfl|hp
  ·exact hb
  ·exact oL hq p hp
theorem x_m {f:Nat} (ns news:List Nat) (h:aR P N.g f args sts rv sts') (k:ay P N l K r ⟨(d,r2)::tm,st2,nx',nt⟩ (tr++[aH l o ⟨jm xs.toList vs,uS ns bs⟩ up])) (ho:o.op = .call { callee:=.value (.func f),args:=xs,argTypes:=ts }:=by rfl) (he:evL ⟨tm,st,nx,nt⟩ xs.toList=some vs:=by rfl) (hargs:jM ns args=some vs:=by rfl) (hg:ax l o ⟨tm,st,nx,nt⟩=some true:=by rfl) (hd:o.dst=some d:=by rfl) (hlt:Nat.blt d nt=true:=by rfl) (hb:dZ P f=true:=by kernel_rfl) (_hnx:nx+news.length=nx':=by rfl) (hbs:yD ⟨tm,st,nx,nt⟩ ns=some bs:=by rfl) (hst:gJ ns sts bs:=by repeat' first|exact gJ.nil|apply gJ.cons|exact cO.same (aT fun _=>rfl)|exact cO.ren rfl|exact cO.sit|exact cO.map (jV fun _=>rfl)|exact cO.map (by assumption)) (hlen:Nat.beq ns.length sts.length=true:=by rfl) (hdis:dO (ns++news)=true:=by rfl) (hlen':Nat.beq (ns++news).length sts'.length=true:=by rfl) (hr2:nW (ns++news) rv=some r2:=by rfl) (hus:dU (ns++news) sts' us:=by repeat' first|exact dU.nil|apply dU.no|apply dU.on|exact cO.same (aT fun _=>rfl)|exact cO.ren rfl|exact cO.sit|exact cO.map (jV fun _=>rfl)|exact cO.map (by assumption)) (hup:yR (ns++news) us=some up:=by rfl) (hst2:Ey up st=some st2:=by rfl) (hnw:sP nx nx' news=true:=by rfl):ay P N l K (o::r) ⟨tm,st,nx,nt⟩ tr:=r_m (za ns news ho (enters hb) h hargs (kW he) hst hlen hdis hlen' hr2 hus hup) nx' hnw hg hd hlt (oO he (oL hbs)) hst2 k
theorem Qm {f:Nat} (ns news:List Nat) (h:aR P N.g f args sts rv sts') (k:ay P N l K r ⟨tm,st2,nx',nt⟩ (tr++[aH l o ⟨jm xs.toList vs,uS ns bs⟩ up])) (ho:o.op = .call { callee:=.value (.func f),args:=xs,argTypes:=ts }:=by rfl) (he:evL ⟨tm,st,nx,nt⟩ xs.toList=some vs:=by rfl) (hargs:jM ns args=some vs:=by rfl) (hg:ax l o ⟨tm,st,nx,nt⟩=some true:=by rfl) (hd:o.dst=none:=by rfl) (hb:dZ P f=true:=by kernel_rfl) (_hnx:nx+news.length=nx':=by rfl) (hbs:yD ⟨tm,st,nx,nt⟩ ns=some bs:=by rfl) (hst:gJ ns sts bs:=by repeat' first|exact gJ.nil|apply gJ.cons|exact cO.same (aT fun _=>rfl)|exact cO.ren rfl|exact cO.sit|exact cO.map (jV fun _=>rfl)|exact cO.map (by assumption)) (hlen:Nat.beq ns.length sts.length=true:=by rfl) (hdis:dO (ns++news)=true:=by rfl) (hlen':Nat.beq (ns++news).length sts'.length=true:=by rfl) (hr2:nW (ns++news) rv=some r2:=by rfl) (hus:dU (ns++news) sts' us:=by repeat' first|exact dU.nil|apply dU.no|apply dU.on|exact cO.same (aT fun _=>rfl)|exact cO.ren rfl|exact cO.sit|exact cO.map (jV fun _=>rfl)|exact cO.map (by assumption)) (hup:yR (ns++news) us=some up:=by rfl) (hst2:Ey up st=some st2:=by rfl) (hnw:sP nx nx' news=true:=by rfl):ay P N l K (o::r) ⟨tm,st,nx,nt⟩ tr:=adU (za ns news ho (enters hb) h hargs (kW he) hst hlen hdis hlen' hr2 hus hup) nx' hnw hg hd (oO he (oL hbs)) hst2 k
def EH (s:S):List Nat→List (Option Blk)→Option (List (Option Blk))
 | [],[]=>some []
 | _::ms,none::l=>match EH s ms l with
  | some q=>some (none::q)
  | none=>none
 | m::ms,some _::l=>match s.blk m,EH s ms l with
  | some b,some q=>some (some b::q)
  | _,_=>none
 | _,_=>none
theorem Ie {s:S}:∀ {ms:List Nat} {l us:List (Option Blk)},EH s ms l=some us→Abs.Pub s ms us
 | [],[],us,h=>by rw [EH] at h;cases h;exact .nil
 | m::ms,none::l,us,h=>by
  rw [EH] at h
  split at h<;>cases h
  rename_i q hq
  exact .no (Ie hq)
 | m::ms,some b0::l,us,h=>by
  rw [EH] at h
  split at h<;>cases h
  rename_i b q hb hq
  exact .on hb (Ie hq)
 | [],_::_,us,h=>by simp [EH] at h
 | _::_,[],us,h=>by simp [EH] at h
theorem aA {s:S} {w:V} (ms:List Nat) (h3:nW ms w=some (pack vs)) (h4:dU ms sts' us) (h1:wR ms k0 s.nx=true:=by rfl) (h2:nG tb s rs=some vs:=by rfl) (h5:EH s ms sts'=some us:=by rfl):Q0 tb rs k0 w sts' .ret s:=⟨ms,vs,us,h1,h2,h3,h4,Ie h5⟩
theorem T9 {s:S} {w:V} (ms:List Nat) (h3:nW ms w=some (pack vs)) (h4:dU ms sts' us) (h1:wR ms k0 s.nx=true:=by rfl) (h2:nG tb s rs=some vs:=by rfl) (h5:EH s ms sts'=some us:=by rfl):Q0 tb rs k0 w sts' .normal s:=⟨ms,vs,us,h1,h2,h3,h4,Ie h5⟩
end
end Abs
end Go.Proofs.YtlfdjpgghiemfaaGreatDoor
