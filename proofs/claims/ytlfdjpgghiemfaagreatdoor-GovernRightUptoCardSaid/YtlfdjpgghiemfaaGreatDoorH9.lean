/- Texts of the proof, joined: AbsH. -/
import Derived.Test.YtlfdjpgghiemfaaGreatDoorH7
namespace Go.Proofs.YtlfdjpgghiemfaaGreatDoor
section
namespace Abs
open Go.RowKit Mem Facts
section
variable {X A:Nat→Prop} {φ:Nat→Pl} {w w':World} {P:Program} {tb:List Ty} {T:Nat} {e ee:Ty} {N:Env} {M:Nat→Prop} {o:Oper} {s:S} {a:Act}
variable {x:Value} {xs:List Value} {f:FuncId}
def gG (X A:Nat→Prop) (φ:Nat→Pl) (w:World) (cs:List V) (xs:List Value):Prop:=cs.length=xs.length∧∀ (j:Nat) u,cs[j]? = some u→∃ c,xs[j]? = some c∧Rep X A φ w u c
theorem gG.at {cs:List V} {xs:List Value} (h:gG X A φ w cs xs) {j:Nat} {u:V} {c:Value} (hu:cs[j]? = some u) (hc:xs[j]? = some c):Rep X A φ w u c:=by
 obtain ⟨c',h1,h2⟩:=h.2 j u hu
 rw [hc] at h1;cases h1;exact h2
theorem gG.mk' {cs:List V} (hl:cs.length=xs.length) (h:∀ (j:Nat) u c,cs[j]? = some u→xs[j]? = some c→Rep X A φ w u c):gG X A φ w cs xs:=⟨hl,fun j u hu=>by
 have hj:j<xs.length:=by rw [← hl];exact (List.getElem?_eq_some_iff.1 hu).1
 exact ⟨xs[j],by simp [hj],h j u _ hu (by simp [hj])⟩⟩
theorem gG.append {cs ds:List V} {ys:List Value} (h:gG X A φ w cs xs) (k:gG X A φ w ds ys):gG X A φ w (cs++ds) (xs++ys):=by
 refine .mk' (by simp [h.1,k.1]) fun j u c hu hc=>?_
 by_cases hj:j<cs.length
 ·rw [List.getElem?_append_left hj] at hu
  rw [List.getElem?_append_left (by rw [← h.1];exact hj)] at hc
  exact h.at hu hc
 ·rw [List.getElem?_append_right (by omega)] at hu
  rw [List.getElem?_append_right (by rw [← h.1];omega),← h.1] at hc
  exact k.at hu hc
theorem gG.take {cs:List V} (h:gG X A φ w cs xs) (n:Nat):gG X A φ w (cs.take n) (xs.take n):=by
 refine .mk' (by simp [h.1]) fun j u c hu hc=>?_
 rw [List.getElem?_take] at hu hc
 split at hu
 ·rename_i hj;rw [if_pos hj] at hc;exact h.at hu hc
 ·cases hu
theorem gG.drop {cs:List V} (h:gG X A φ w cs xs) (n:Nat):gG X A φ w (cs.drop n) (xs.drop n):=by
 refine .mk' (by simp [h.1]) fun j u c hu hc=>?_
 rw [List.getElem?_drop] at hu hc
 exact h.at hu hc
theorem yw {v:V} (h:Rep X A φ w v x) (h1:v.cells.all V.one=true):gG X A φ w v.cells x.cells.toList:=by
 obtain ⟨h2,h3⟩:=jW h h1
 exact ⟨by simpa using h2,fun j u hu=>by
  obtain ⟨c,h4,h5⟩:=h3 j u hu
  exact ⟨c,by simpa using h4,h5⟩⟩
theorem Lx:∀ (vs:List Value) (off k:Nat) (cur:Array Value),off+k+vs.length≤cur.size →
  (((vs.zipIdx k).foldl (fun cs p=>cs.setIfInBounds (off+p.2) p.1) cur).toList=cur.toList.take (off+k)++vs++cur.toList.drop (off+k+vs.length))
 | [],off,k,cur,_=>by simp
 | v::r,off,k,cur,h=>by
  simp only [List.length_cons] at h
  rw [List.zipIdx_cons,List.foldl_cons,Lx r off (k+1) _ (by simp;omega)]
  simp only [Array.toList_setIfInBounds]
  have e1:(cur.toList.set (off+k) v).take (off+(k+1))=cur.toList.take (off+k)++[v]:=by
   rw [show off+(k+1)=off+k+1 from by omega,List.take_add_one,List.take_set_of_le (Nat.le_refl _),List.getElem?_set_self (by simp;omega)]
   rfl
  have e2:(cur.toList.set (off+k) v).drop (off+(k+1)+r.length)=cur.toList.drop (off+k+(r.length+1)):=by
   rw [List.drop_set_of_lt (by omega)]
   congr 1;omega
  rw [e1,e2]
  simp
def mY (pl:Nat→Option (Nat × Nat)):List V→List (Nat × V)→Option (List V)
 | cs,[]=>some cs
 | cs,(i,v)::r=>match pl i with
  | none=>none
  | some (off,sz)=>bif Nat.beq v.cells.length sz then (match sW cs off v.cells with
   | none=>none
   | some cs'=>mY pl cs' r) else none
theorem yF {pl:Nat→Option (Nat × Nat)}:∀ {ps:List (Nat × V)} {qs:List (Nat × Value)} {cs cs':List V} {cur:Array Value},ps.map (·.1)=qs.map (·.1)→(∀ p∈ps,p.2.cells.all V.one=true)→gG X A φ w cs cur.toList →
   (∀ (i:Nat) p q,ps[i]? = some p→qs[i]? = some q→Rep X A φ w p.2 q.2)→mY pl cs ps=some cs'→∃ out,Instr.fill pl cur qs=some out∧gG X A φ w cs' out.toList
 | [],[],cs,cs',cur,_,_,hr,_,h=>by
  rw [mY] at h;cases h
  exact ⟨cur,rfl,hr⟩
 | [],_::_,_,_,_,h,_,_,_,_=>by simp at h
 | _::_,[],_,_,_,h,_,_,_,_=>by simp at h
 | (i,v)::ps,(i',x)::qs,cs,cs',cur,hi,h1,hr,hp,h=>by
  simp only [List.map_cons,List.cons.injEq] at hi
  obtain ⟨rfl,hi⟩:=hi
  rw [mY] at h
  cases hpl:pl i with
  | none=>rw [hpl] at h;cases h
  | some q =>
   obtain ⟨off,sz⟩:=q
   rw [hpl] at h
   simp only at h
   cases hb:Nat.beq v.cells.length sz with
   | false=>rw [hb] at h;cases h
   | true =>
    rw [hb] at h
    simp only [cond_true] at h
    have hsz:=Nat.eq_of_beq_eq_true hb
    have hv1:=h1 (i,v) List.mem_cons_self
    have hvx:=yw (hp 0 _ _ rfl rfl) hv1
    simp only at hvx
    cases hs:sW cs off v.cells with
    | none=>rw [hs] at h;cases h
    | some ds =>
     rw [hs] at h
     simp only at h
     obtain ⟨g1,rfl⟩:=nZ hs
     have hxs:x.cells.size=v.cells.length:=by have:=hvx.1;simpa using this.symm
     have hcur:cs.length=cur.size:=by have:=hr.1;simpa using this
     have hfold:=Lx x.cells.toList off 0 cur (by simp [hxs];omega)
     have hz:x.cells.zipIdx.foldl (fun cs p=>cs.setIfInBounds (off+p.2) p.1) cur=(x.cells.toList.zipIdx 0).foldl (fun cs p=>cs.setIfInBounds (off+p.2) p.1) cur:=by
      rw [← Array.foldl_toList,Array.toList_zipIdx]
     have hrep':gG X A φ w (cs.take off++v.cells++cs.drop (off+v.cells.length)) (x.cells.zipIdx.foldl (fun cs p=>cs.setIfInBounds (off+p.2) p.1) cur).toList:=by
      rw [hz,hfold]
      rw [show off+0=off from rfl,show off+x.cells.toList.length=off+v.cells.length from by simp [hxs]]
      exact ((hr.take off).append hvx).append (hr.drop _)
     obtain ⟨out,g2,g3⟩:=yF (pl:=pl) hi (fun p hp'=>h1 p (List.mem_cons_of_mem _ hp')) hrep' (fun j p q hj hq=>hp (j+1) p q (by simpa using hj) (by simpa using hq)) h
     refine ⟨out,?_,g3⟩
     rw [Instr.fill,hpl]
     simp only
     rw [if_neg (by rw [hxs,← hcur];simp;omega)]
     exact g2
theorem Wu:∀ {l:List V} {n:Nat} {us q:List V},sW l n us=some q→(∀ u∈l,u.one=true)→(∀ u∈us,u.one=true)→∀ u∈q,u.one=true:=fun {l n us q} h h1 h2 u hu=>by
 obtain ⟨_,rfl⟩:=nZ h
 simp only [List.mem_append] at hu
 rcases hu with (hu|hu)|hu
 ·exact h1 u (List.mem_of_mem_take hu)
 ·exact h2 u hu
 ·exact h1 u (List.mem_of_mem_drop hu)
theorem Gv {pl:Nat→Option (Nat × Nat)}:∀ {ps:List (Nat × V)} {cs cs':List V},(∀ p∈ps,p.2.cells.all V.one=true)→(∀ u∈cs,u.one=true)→mY pl cs ps=some cs'→∀ u∈cs',u.one=true
 | [],cs,cs',_,hc,h=>by rw [mY] at h;cases h;exact hc
 | (i,v)::ps,cs,cs',h1,hc,h=>by
  rw [mY] at h
  cases hpl:pl i with
  | none=>rw [hpl] at h;cases h
  | some q =>
   obtain ⟨off,sz⟩:=q
   rw [hpl] at h
   simp only at h
   cases hb:Nat.beq v.cells.length sz with
   | false=>rw [hb] at h;cases h
   | true =>
    rw [hb] at h
    simp only [cond_true] at h
    cases hs:sW cs off v.cells with
    | none=>rw [hs] at h;cases h
    | some ds =>
     rw [hs] at h
     exact Gv (fun p hp=>h1 p (List.mem_cons_of_mem _ hp)) (Wu hs hc fun u hu=>List.all_eq_true.1 (h1 (i,v) List.mem_cons_self) u hu) h
def Ty.place (tb:List Ty) (e:Ty) (i:Nat):Option (Nat × Nat):=match e.arr with
 | some (_,el)=>(match nth tb el with
  | some ee=>some (i*ee.size,ee.size)
  | none=>none)
 | none=>(match nth e.flds i with
  | some (off,ft)=>(match nth tb ft with
   | some ef=>some (off,ef.size)
   | none=>none)
  | none=>none)
def Ty.AZ (tb:List Ty) (e:Ty):Bool:=match e.arr with
 | some (_,el)=>(nth tb el).isSome
 | none=>e.flds.all fun p=>(nth tb p.2).isSome
theorem BF {pl pl':Nat→Option (Nat × Nat)} (h:∀ i,pl i=pl' i):pl=pl':=funext h
theorem Aa {tb:List Ty} (htb:aL P tb):∀ (fs:List Field),(∀ f∈fs,(nth tb f.type).isSome=true)→∃ q,fs.mapM (fun f=>(P.info? f.type).map fun i=>(f.offset,i.size))=some q∧∀ i:Nat,q[i]? = (match (fs.map fun f=>(f.offset,f.type))[i]? with
   | some (off,ft)=>(match nth tb ft with
    | some ef=>some (off,ef.size)
    | none=>none)
   | none=>none)
 | [],_=>⟨[],rfl,fun i=>by simp⟩
 | f::fs,h=>by
  obtain ⟨q,h1,h2⟩:=Aa htb fs fun g hg=>h g (List.mem_cons_of_mem _ hg)
  obtain ⟨ef,hef⟩:=Option.isSome_iff_exists.1 (h f List.mem_cons_self)
  obtain ⟨ti,d,ht⟩:=aV htb hef
  refine ⟨(f.offset,ef.size)::q,by simp [List.mapM_cons,ht.info,h1,ht.size],fun i=>?_⟩
  rcases i with _|i
  ·simp [hef]
  ·simpa using h2 i
def EZ:List (Nat × Operand)→List V→List (Nat × V)
 | (i,_)::r,v::q=>(i,v)::EZ r q
 | _,_=>[]
theorem Eo:∀ (ps:List (Nat × Operand)) (vs:List V),vs.length=ps.length→EZ ps vs=(ps.map (·.1)).zip vs
 | [],vs,h=>by have:vs=[]:=List.eq_nil_of_length_eq_zero h;subst this;rfl
 | (i,x)::r,v::q,h=>by rw [EZ,Eo r q (by simpa using h)];rfl
 | _::_,[],h=>by simp at h
theorem RZ {ps:Array (Nat × Operand)} {vs cs:List V} {z:V} (htb:aL P tb) (ho:o.op = .build T ps) (hl:Nat.beq vs.length ps.size=true) (hT:nth tb T=some e) (hpl:e.AZ tb=true) (hz:e.zeroV=some z) (hag:e.agg=true) (h1:(vs.all fun v=>v.cells.all V.one)=true) (hf:mY (e.place tb) z.cells (EZ ps.toList vs)=some cs) :
  aC P N o ⟨(ps.toList.map (·.2)).zip vs,[]⟩ (.agg cs) [] []:=aD fun s M A φ a w hh hr=>by
 have hlen:vs.length=ps.toList.length:=by simpa using Nat.eq_of_beq_eq_true hl
 obtain ⟨ti,d,ht⟩:=aV htb hT
 obtain ⟨zv,hzv,hrep,hz1,hz0,_⟩:=l8 htb hT hz
 have hzi:ti.zero=some zv:=by
  have:=hzv default
  unfold zeroValue typeInfo at this
  simp [ht.info] at this
  cases h:ti.zero with
  | none=>simp [h] at this
  | some q=>simp [h] at this;rw [this]
 have hzr:=yw (hrep (fun b=>M b∨N b) A φ w) hz1
 rw [Eo _ _ hlen] at hf
 have hps:∀ p∈(ps.toList.map (·.1)).zip vs,p.2.cells.all V.one=true:=fun p hp=>List.all_eq_true.1 h1 _ (List.of_mem_zip hp).2
 have hat:∀ (i:Nat) p q,((ps.toList.map (·.1)).zip vs)[i]? = some p→((ps.map fun (i,x)=>(i,a.eval x)).toList)[i]? = some q→Rep (fun b=>M b∨N b) A φ w p.2 q.2:=fun i p q hp hq=>by
  rw [List.getElem?_zip_eq_some] at hp
  obtain ⟨hp1,hp2⟩:=hp
  simp only [Array.toList_map,List.getElem?_map,Option.map_eq_some_iff] at hq hp1
  obtain ⟨q0,hq0,rfl⟩:=hq
  refine hr.ev (hh.1 (q0.2,p.2) ?_)
  exact List.mem_of_getElem? (i:=i) (by rw [List.getElem?_zip_eq_some];exact ⟨by simp [hq0],hp2⟩)
 obtain ⟨out,g1,g2⟩:=yF (pl:=e.place tb) (by rw [List.map_fst_zip (by simp [hlen])];simp) hps hzr hat hf
 have hone:∀ u∈cs,u.one=true:=Gv hps (fun u hu=>List.all_eq_true.1 hz1 u hu) hf
 have hb:P.built T (ps.map fun (i,x)=>(i,a.eval x)).toList=some out:=by
  unfold Program.built
  rw [ht.info,ht.und]
  have hag':=ht.agg
  rw [hag] at hag'
  have ha:=ht.arr
  have hfl:=ht.flds
  cases d<;>simp only [DT] at hag'<;>try (cases hag')
  ·rename_i n el
   simp only [hzi]
   unfold Ty.AZ at hpl
   rw [ha] at hpl
   simp only [yC] at hpl
   obtain ⟨ee,hee⟩:=Option.isSome_iff_exists.1 hpl
   obtain ⟨ti',d',ht'⟩:=aV htb hee
   rw [ht'.info]
   simp only
   have:(fun i=>some (i*ti'.size,ti'.size))=e.place tb:=BF fun i=>by
    unfold Ty.place
    rw [ha]
    simp only [yC]
    rw [hee,ht'.size]
   rw [this];exact g1
  ·rename_i fs
   simp only [hzi]
   unfold Ty.AZ at hpl
   rw [ha] at hpl
   simp only [yC] at hpl
   rw [hfl] at hpl
   simp only [Dn,List.all_map,List.all_eq_true,Function.comp] at hpl
   obtain ⟨q,k1,k2⟩:=Aa (P:=P) htb fs.toList hpl
   rw [k1]
   simp only
   have:(fun i=>q.toArray[i]?)=e.place tb:=BF fun i=>by
    rw [List.getElem?_toArray,k2]
    unfold Ty.place
    rw [ha]
    simp only [yC]
    rw [dw,hfl]
    rfl
   rw [this];exact g1
 refine ⟨.agg out,?_,.agg (by simpa using g2.1) hone fun i x c hx hc=>g2.at hx (by simpa using hc)⟩
 unfold execOp
 simp only [ho,Sem.run_bind,run_build w T _ out hb,Result.andThen_ok,Sem.run_pure]
def flat (xs:List V):List V:=xs.flatMap V.cells
theorem KP (xs ys:List V):flat (xs++ys)=flat xs++flat ys:=by simp [flat]
theorem gW {sz:Nat}:∀ {xs:List V},(∀ x∈xs,x.cells.length=sz)→(flat xs).length=xs.length*sz
 | [],_=>by simp [flat]
 | x::r,h=>by
  have:=gW (xs:=r) fun y hy=>h y (List.mem_cons_of_mem _ hy)
  unfold flat at this ⊢
  rw [List.flatMap_cons,List.length_append,this,h x List.mem_cons_self,List.length_cons,Nat.add_mul]
  omega
theorem wS {sz:Nat}:∀ {xs:List V},(∀ x∈xs,x.cells.length=sz)→∀ {i j:Nat} {x u:V},xs[i]? = some x→x.cells[j]? = some u→(flat xs)[i*sz+j]? = some u
 | [],_,i,j,x,u,hx,_=>by simp at hx
 | y::r,h,i,j,x,u,hx,hu=>by
  have hy:=h y List.mem_cons_self
  unfold flat
  rw [List.flatMap_cons]
  rcases i with _|i
  ·simp at hx;subst hx
   have hj:=(List.getElem?_eq_some_iff.1 hu).1
   rw [Nat.zero_mul,Nat.zero_add,List.getElem?_append_left hj]
   exact hu
  ·have:=wS (xs:=r) (fun z hz=>h z (List.mem_cons_of_mem _ hz)) (i:=i) (by simpa using hx) hu
   rw [List.getElem?_append_right (by rw [hy,Nat.add_mul];omega)]
   rw [hy,show (i+1)*sz+j-sz=i*sz+j from by rw [Nat.add_mul];omega]
   exact this
theorem tT {sz:Nat}:∀ {xs:List V},(∀ x∈xs,x.cells.length=sz)→∀ {q:Nat} {u:V},(flat xs)[q]? = some u→∃ i j x,q=i*sz+j∧xs[i]? = some x∧x.cells[j]? = some u
 | [],_,q,u,hu=>by simp [flat] at hu
 | y::r,h,q,u,hu=>by
  have hy:=h y List.mem_cons_self
  unfold flat at hu
  rw [List.flatMap_cons] at hu
  by_cases hq:q<y.cells.length
  ·rw [List.getElem?_append_left hq] at hu
   exact ⟨0,q,y,by simp,rfl,hu⟩
  ·rw [List.getElem?_append_right (by omega)] at hu
   obtain ⟨i,j,x,h1,h2,h3⟩:=tT (xs:=r) (fun z hz=>h z (List.mem_cons_of_mem _ hz)) hu
   exact ⟨i+1,j,x,by rw [Nat.add_mul];omega,by simpa using h2,h3⟩
theorem KI {xs:List V} (h:∀ x∈xs,∀ u∈x.cells,u.one=true):∀ u∈flat xs,u.one=true:=fun u hu=>by
 obtain ⟨x,hx,hu⟩:=List.mem_flatMap.1 hu
 exact h x hx u hu
theorem gG.one {cs:List V} (h:gG X A φ w cs xs) (h1:∀ u∈cs,u.one=true):∀ c∈xs,c.oneCell'=true:=fun c hc=>by
 obtain ⟨j,hj⟩:=List.mem_iff_getElem?.1 hc
 have hjl:j<cs.length:=by rw [h.1];exact (List.getElem?_eq_some_iff.1 hj).1
 have hu:cs[j]? = some cs[j]:=by simp [hjl]
 exact (h.at hu hj).one (h1 _ (List.getElem_mem hjl))
theorem jR {el sz m ν nx:Nat} {zs:List V} {vals:List Value} {vx v':Value} {kill:Option Nat} {dst:Option Nat} (hr:Rel N M A φ s a w) (hν:¬ A ν) (hkill:∀ n,kill=some n→∃ k,s.blk n=some k) (hx:∀ b,vx.ownBlock=some b→∃ n,kill=some n∧(φ n).blk=some b)
  (how:w'.ownsRow 0 el sz v' m vals) (hg:w.grownBy w' vx.ownBlock) (hat:v'.ownBlock=vx.ownBlock∨v'.ownBlock=some w.heap.size) (h0:0<sz) (hz:zs.length=m) (hl:m≤LIM) (hzs:∀ x∈zs,x.cells.length=sz∧∀ u∈x.cells,u.one=true) (hrep:gG (fun b=>M b∨N b) A φ w (flat zs) vals)
  (hd:∀ d,dst=some d→d<s.nt) :
  ∃ M' φ',bF M w w'∧(∀ b,b<w.heap.size→M' b→M b)∧Rel N M' (fun n=>A n∨n∈[ν]) φ' (s.eff dst (.own ν 0 m) ((kill.map fun n=>(n,none)).toList++[(ν,some (.els el sz zs))]) nx) (a.put dst v') w':=by
 have hxM:∀ b,vx.ownBlock=some b→M b:=fun b hb=>by
  obtain ⟨n,h1,h2⟩:=hx b hb
  obtain ⟨k,hk⟩:=hkill n h1
  exact hr.gy hk h2
 have hst:∀ Q:Nat→Prop,(∀ b,vx.ownBlock=some b→Q b)→bF Q w w':=fun Q hQ=>⟨hg.os,hg.tape,hg.output,hg.size,fun b hb hq=>hg.block b hb fun e=>hq (hQ b e.symm)⟩
 have hs:bF (fun b=>M b∨N b) w w':=hst _ fun b hb=>.inl (hxM b hb)
 let bl:Option Nat:=v'.ownBlock
 obtain ⟨cap,hcap⟩:∃ cap,v' = .slice none 0 0∧cap=0∧m=0∨∃ g,v' = .slice (some ⟨g,0,none⟩) m cap∧m≤cap∧cap≤maxLen:=by
  rcases how.2 with ⟨h1,h2⟩|⟨g,cap,cur,h1,_,_,h3,h4,_⟩
  ·exact ⟨0,.inl ⟨h1,rfl,h2⟩⟩
  ·exact ⟨cap,.inr ⟨g,h1,h3,h4⟩⟩
 let pl:Pl:=⟨bl,sz,cap⟩
 let φ':Nat→Pl:=fun n=>if n=ν then pl else φ n
 have hφ:∀ n,A n→φ' n=φ n:=fun n hn=>if_neg fun (e:n=ν)=>hν (e ▸ hn)
 have hφν:φ' ν=pl:=if_pos rfl
 let M':Nat→Prop:=fun b=>M b∨bl=some b
 have hMb:∀ b,b<w.heap.size→M' b→M b:=fun b hb h=>h.elim id fun h=>by
  rcases hat with e|e
  ·exact hxM b (e ▸ h)
  ·have:some b=some w.heap.size:=h ▸ e
   injection this;omega
 have hX:∀ b,b<w.heap.size→(M' b∨N b)→M b∨N b:=fun b hb h=>h.imp (hMb b hb) id
 have hbl:∀ b,bl=some b→b<w'.heap.size:=fun b h=>by
  rcases how.2 with ⟨h1,_⟩|⟨g,cap,cur,h1,_,h2,_⟩
  ·have:v'.ownBlock=some b:=h
   rw [h1] at this;cases this
  ·have:v'.ownBlock=some b:=h
   rw [h1] at this;cases this
   exact block_lt h2
 have hmono:∀ {v:V} {x:Value},Rep (fun b=>M b∨N b) A φ w v x→Rep (fun b=>M' b∨N b) (fun n=>A n∨n=ν) φ' w' v x:=fun h=>h.mono hX hs (fun _ h=>.inl h) hφ
 have eb:∀ n,(s.eff none .und ((kill.map fun n=>(n,none)).toList++[(ν,some (.els el sz zs))]) nx).blk n=if kill=some n then none else if ν=n then some (.els el sz zs) else s.blk n:=fun n=>by
  unfold S.blk S.eff
  cases kill with
  | none =>
   simp only [Option.map_none,Option.toList_none,List.nil_append,List.cons_append,bW]
   by_cases e:ν=n<;>simp [e]
  | some k =>
   simp only [Option.map_some,Option.toList_some,List.nil_append,List.cons_append,bW,Option.some.injEq]
   by_cases e:k=n
   ·simp [e]
   ·by_cases e2:ν=n<;>simp [e,e2]
 have hrow:iT (fun b=>M' b∨N b) M' (fun n=>A n∨n=ν) φ' w' pl (.els el sz zs):=by
  refine ⟨rfl,h0,by rw [hz];exact hl,hzs,?_⟩
  rcases how.2 with ⟨h1,h2⟩|⟨g,cap',cur,h1,_,h2,h3,h4,h5,h6⟩
  ·refine .inl ⟨?_,?_,?_⟩
   ·show v'.ownBlock=none;rw [h1];rfl
   ·exact List.eq_nil_of_length_eq_zero (by rw [hz,h2])
   ·rcases hcap with ⟨_,h,_⟩|⟨g,h,_⟩
    ·exact h
    ·rw [h1] at h;cases h
  ·have hc:cap'=cap:=by
    rcases hcap with ⟨h,_⟩|⟨g',h,_⟩
    ·rw [h1] at h;cases h
    ·rw [h1] at h;cases h;rfl
   subst hc
   have hb:bl=some g:=by show v'.ownBlock=some g;rw [h1];rfl
   refine .inr ⟨g,cur,hb,.inr hb,h2,h5,by rw [hz];exact h3,h4,fun i j x u hx' hu=>?_⟩
   have hf:=wS (fun x hx=>(hzs x hx).1) hx' hu
   obtain ⟨c,hc1,hc2⟩:=hrep.2 _ _ hf
   refine ⟨c,?_,hmono hc2⟩
   rw [← h6] at hc1
   have:i*sz+j<m*sz:=by
    have:=(List.getElem?_eq_some_iff.1 hf).1
    rwa [gW (fun x hx=>(hzs x hx).1),hz] at this
   rw [List.getElem?_take_of_lt this] at hc1
   simpa using hc1
 have hnew:Rel N M' (fun n=>A n∨n=ν) φ' (s.eff none .und ((kill.map fun n=>(n,none)).toList++[(ν,some (.els el sz zs))]) nx) a w':=by
  have old:∀ m q,s.blk m=some q→kill≠some m→∀ b,(φ m).blk=some b→b<w.heap.size∧vx.ownBlock≠some b:=fun m q hq hk b hb=>by
   refine ⟨hr.lim b (.inl (hr.gy hq hb)),fun e=>?_⟩
   obtain ⟨n,h1,h2⟩:=hx b e
   obtain ⟨k,hk'⟩:=hkill n h1
   exact hk (by rw [hr.inj m n q k b hq hk' hb h2];exact h1)
  have sep:∀ m q,s.blk m=some q→kill≠some m→∀ b,(φ m).blk=some b→bl≠some b:=fun m q hq hk b hb e=>by
   obtain ⟨h1,h2⟩:=old m q hq hk b hb
   rcases hat with h|h
   ·exact h2 (h ▸ e)
   ·have:some b=some w.heap.size:=e ▸ h
    injection this;omega
  refine ⟨fun t u ht=>?_,hr.nt,fun n q hq=>?_,fun n n' q q' b g1 g2 g3 g4=>?_,fun b hb=>?_,fun b hb hn=>?_,hr.df,fun n hn=>⟨.inl (hr.pin n hn).1,(hφ n (hr.pin n hn).1).trans (hr.pin n hn).2⟩,hr.gl.stays hs hX⟩
  ·obtain ⟨g1,g2⟩:=hr.tm t u ht
   exact ⟨g1,hmono g2⟩
  ·rw [eb] at hq
   split at hq
   ·cases hq
   ·split at hq
    ·rename_i e1 e2;subst e2;cases hq
     exact ⟨.inr rfl,by rw [hφν];exact hrow⟩
    ·rename_i e1 e2
     obtain ⟨g0,g1⟩:=hr.st n q hq
     refine ⟨.inl g0,?_⟩
     rw [hφ n g0]
     exact g1.mono hX hs (fun _ h=>.inl h) hφ (fun _ h=>.inl h) fun b hb=>hg.block b (old n q hq e1 b hb).1 fun e=>(old n q hq e1 b hb).2 e.symm
  ·rw [eb] at g1 g2
   split at g1
   ·cases g1
   ·split at g2
    ·cases g2
    ·split at g1<;>split at g2
     ·rename_i e1 e2;rw [← e1,← e2]
     ·rename_i e1 e2 e3 e4
      subst e3
      rw [hφν] at g3
      rw [hφ n' (hr.st n' q' g2).1] at g4
      exact absurd g3 (sep n' q' g2 e2 b g4)
     ·rename_i e1 e2 e3 e4
      subst e4
      rw [hφν] at g4
      rw [hφ n (hr.st n q g1).1] at g3
      exact absurd g4 (sep n q g1 e1 b g3)
     ·rw [hφ n (hr.st n q g1).1] at g3
      rw [hφ n' (hr.st n' q' g2).1] at g4
      exact hr.inj n n' q q' b g1 g2 g3 g4
  ·rcases hb with (hb|hb)|hb
   ·exact Nat.lt_of_lt_of_le (hr.lim b (.inl hb)) hg.size
   ·exact hbl b hb
   ·exact Nat.lt_of_lt_of_le (hr.lim b (.inr hb)) hg.size
  ·have:=hr.lim b (.inr hn)
   exact hr.dis b (hMb b this hb) hn
 refine ⟨M',φ',hst M hxM,hMb,?_⟩
 have hv:Rep (fun b=>M' b∨N b) (fun n=>A n∨n=ν) φ' w' (.own ν 0 m) v':=by
  rcases hcap with ⟨h1,h2,h3⟩|⟨g,h1,h2,h3⟩
  ·subst h1 h3
   exact .own0 (.inr rfl) (by rw [hφν];rfl)
  ·have hb:bl=some g:=by show v'.ownBlock=some g;rw [h1];rfl
   have:=Rep.own (X:=fun b=>M' b∨N b) (A:=fun n=>A n∨n=ν) (φ:=φ') (w:=w') (n:=ν) (i:=0) (len:=m) (b:=g) (.inr rfl) (by rw [hφν];exact hb) (by rw [hφν];simpa using h2) (by rw [hφν];exact h3)
   rw [hφν] at this
   rw [h1]
   simpa using this
 have h9:=eX (nx:=nx) hnew hv hd
 refine (h9.wider fun n h=>h.imp id fun h=>by simpa using h).as (fun t=>?_) (fun n=>rfl) rfl
 cases dst<;>rfl
def V.nf1:V→V
 | .nils=>.fro []
 | v=>v
def V.nf:V→V
 | .nils=>.fro []
 | .agg vs=>.agg (vs.map V.nf1)
 | v=>v
theorem Fz.nf1 {v:V} (h:Fz X w v x):Fz X w v.nf1 x:=by
 cases h with
 | nils=>exact .fro0 (fun _=>rfl)
 | int h=>exact .int h
 | bool=>exact .bool
 | str h=>exact .str h
 | agg h1 h2 h3=>exact .agg h1 h2 h3
 | tup h1 h2=>exact .tup h1 h2
 | fro0 h=>exact .fro0 h
 | fro c h1 h2 h3 h4 h5 h6 h7 h8=>exact .fro c h1 h2 h3 h4 h5 h6 h7 h8
 | fp c h1 h2 h3 h4 h5=>exact .fp c h1 h2 h3 h4 h5
 | nilp=>exact .nilp
 | fn h1 h2 h3 h4=>exact .fn h1 h2 h3 h4
 | nilf=>exact .nilf
 | ifc h=>exact .ifc h
 | nili=>exact .nili
 | nilm=>exact .nilm
 | und=>exact .und
theorem Fz.nf {v:V} (h:Fz X w v x):Fz X w v.nf x:=by
 cases h with
 | nils=>exact .fro0 (fun _=>rfl)
 | @agg vs cs h1 h2 h3 =>
  refine .agg (by simpa using h1) (fun v hv=>?_) fun i x c hx hc=>?_
  ·obtain ⟨u,hu,rfl⟩:=List.mem_map.1 hv
   have:=h2 u hu
   cases u<;>first|rfl|exact this
  ·rw [List.getElem?_map,Option.map_eq_some_iff] at hx
   obtain ⟨u,hu,rfl⟩:=hx
   exact (h3 i u c hu hc).nf1
 | int h=>exact .int h
 | bool=>exact .bool
 | str h=>exact .str h
 | tup h1 h2=>exact .tup h1 h2
 | fro0 h=>exact .fro0 h
 | fro c h1 h2 h3 h4 h5 h6 h7 h8=>exact .fro c h1 h2 h3 h4 h5 h6 h7 h8
 | fp c h1 h2 h3 h4 h5=>exact .fp c h1 h2 h3 h4 h5
 | nilp=>exact .nilp
 | fn h1 h2 h3 h4=>exact .fn h1 h2 h3 h4
 | nilf=>exact .nilf
 | ifc h=>exact .ifc h
 | nili=>exact .nili
 | nilm=>exact .nilm
 | und=>exact .und
theorem av.nf {g:iI} {args args':List V} {r:V} (h:av P g f args' r) (e:args.map V.nf=args'):av P g f args r:=fun N w vs hG hN hl hv=>by
 subst e
 refine h N w vs hG hN (by simpa using hl) fun i x c hx hc=>?_
 rw [List.getElem?_map,Option.map_eq_some_iff] at hx
 obtain ⟨u,hu,rfl⟩:=hx
 exact (hv i u c hu hc).nf
theorem aj.nf {args args':List V} {r:V} (h:aj P f args' r) (e:args.map V.nf=args'):aj P f args r:=fun g=>(h g).nf e
end
end Abs
namespace Abs
open Go.RowKit Mem Facts
section
variable {X A:Nat→Prop} {φ:Nat→Pl} {w w':World} {P:Program} {tb:List Ty} {T:Nat} {e ee:Ty} {N:Env} {M:Nat→Prop} {o:Oper} {s:S} {a:Act}
variable {el:Nat} {x:Value} {n sz:Nat} {kl kc:IntKind} {z:V} {k:Nat} {ys:List V} {ν:Nat} {y:Operand} {xs:List V} {c:Int}
structure Src (X A:Nat→Prop) (φ:Nat→Pl) (w:World) (ys:List V) (sz:Nat) (x:Value):Prop where
 ex:∃ B cap news,x = .slice B ys.length cap∧Row w w.heap.size B news∧(B=none→cap=0)∧gG X A φ w (flat ys) news
 len:ys.length≤maxLen
theorem ku (h:n≤LIM):n≤maxLen:=Nat.le_trans h (by simp [LIM,maxLen])
theorem XC (h:Rep X A φ w (.fro ys) x) (hs:∀ y∈ys,y.cells.length=sz):Src X A φ w ys sz x:=by
 obtain ⟨hl,⟨rfl,B,cap,rfl,hn⟩|⟨b,o,sz',cap,c,rfl,hX,hb,hsz,hcap,hcs,hcell,hrep⟩⟩:=tO h
 ·exact ⟨⟨B,cap,[],rfl,Row.nil _ _ _,hn,⟨rfl,fun j u hu=>by simp [flat] at hu⟩⟩,Nat.zero_le _⟩
 ·refine ⟨?_,ku hl⟩
  by_cases hy:ys=[]
  ·subst hy
   exact ⟨_,cap,[],rfl,Row.nil _ _ _,(fun h=>by cases h),⟨rfl,fun j u hu=>by simp [flat] at hu⟩⟩
  ·have hsz':sz'=sz:=by
    obtain ⟨y,r,rfl⟩:=List.exists_cons_of_ne_nil hy
    rw [← (hcs y List.mem_cons_self).1,hs y List.mem_cons_self]
   subst hsz'
   refine ⟨_,cap,(List.range (ys.length*sz')).map fun q=>c (q/sz') (q % sz'),rfl,fun _=>⟨b,o,rfl,hb,fun j hj=>?_⟩,(fun h=>by cases h),.mk' (by simp [gW hs]) fun j u v hu hv=>?_⟩
   ·simp only [List.length_map,List.length_range] at hj
    have hf:j<(flat ys).length:=by rw [gW hs];exact hj
    obtain ⟨i,k,y,h1,h2,h3⟩:=tT hs (List.getElem?_eq_getElem hf)
    have hk:k<sz':=by rw [← hs y (List.mem_of_getElem? h2)];exact (List.getElem?_eq_some_iff.1 h3).1
    have e1:j/sz'=i:=by rw [h1,Nat.mul_comm,Nat.mul_add_div hsz,Nat.div_eq_of_lt hk];omega
    have e2:j % sz'=k:=by rw [h1,Nat.mul_comm,Nat.mul_add_mod];exact Nat.mod_eq_of_lt hk
    simp only [List.getElem_map,List.getElem_range,e1,e2]
    rw [h1,← Nat.add_assoc]
    exact hcell i k y _ h2 h3
   ·obtain ⟨i,k,y,h1,h2,h3⟩:=tT hs hu
    have hk:k<sz':=by rw [← hs y (List.mem_of_getElem? h2)];exact (List.getElem?_eq_some_iff.1 h3).1
    have e1:j/sz'=i:=by rw [h1,Nat.mul_comm,Nat.mul_add_div hsz,Nat.div_eq_of_lt hk];omega
    have e2:j % sz'=k:=by rw [h1,Nat.mul_comm,Nat.mul_add_mod];exact Nat.mod_eq_of_lt hk
    rw [List.getElem?_map,Option.map_eq_some_iff] at hv
    obtain ⟨q,hq,rfl⟩:=hv
    obtain ⟨_,rfl⟩:=List.getElem?_eq_some_iff.1 hq
    simp only [List.getElem_range,e1,e2]
    exact .fz (hrep i k y u h2 h3)
theorem Bn (hr:Rel N M A φ s a w) (hk:s.blk n=some (.els el sz xs)) (h:Rep X A φ w (.own n 0 k) x) (hl:xs.length=k):
  ∃ vals,w.ownsRow 0 el sz x k vals∧gG (fun b=>M b∨N b) A φ w (flat xs) vals∧(∀ b,x.ownBlock=some b→(φ n).blk=some b):=by
 obtain ⟨g0,g1,g2,g3,g4,g5⟩:=hr.st n _ hk
 cases h with
 | fz h=>cases h
 | own0 h1 h2 =>
  have:xs=[]:=List.eq_nil_of_length_eq_zero hl
  subst this
  exact ⟨[],World.ownsRow_nil _ _ _ _,⟨rfl,fun j u hu=>by simp [flat] at hu⟩,fun b hb=>by simp [Value.ownBlock] at hb⟩
 | @own _ _ _ b h1 h2 h3 h4 =>
  rcases g5 with ⟨k1,_⟩|⟨b',cur,k1,k2,k3,k4,k5,k6,k7⟩
  ·rw [h2] at k1;cases k1
  rw [h2] at k1;cases k1
  have hlen:(cur.toList.take (k*sz)).length=k*sz:=by
   have:k*sz≤(φ n).cap*sz:=Nat.mul_le_mul_right _ (by omega)
   simp;omega
  refine ⟨cur.toList.take (k*sz),⟨hlen,.inr ⟨b,(φ n).cap,cur,by simp,Nat.zero_le _,k3,by omega,k6,k4,rfl⟩⟩,?_,fun b' hb'=>by simp [Value.ownBlock] at hb';rw [h2,hb']⟩
  have hf:∀ x∈xs,x.cells.length=sz:=fun x hx=>(g4 x hx).1
  refine .mk' (by rw [hlen,gW hf,hl]) fun j u c hu hc=>?_
  obtain ⟨i,q,y,e1,e2,e3⟩:=tT hf hu
  obtain ⟨c',e4,e5⟩:=k7 i q y u e2 e3
  have hj:j<k*sz:=by rw [← hlen];exact (List.getElem?_eq_some_iff.1 hc).1
  rw [List.getElem?_take_of_lt hj,e1] at hc
  rw [Array.getElem?_toList,e4] at hc
  cases hc;exact e5
theorem Xy {i len:Nat} (hr:Rel N M A φ s a w) (hk:s.blk n=some (.els el sz xs)) (h:Rep (fun b=>M b∨N b) A φ w (.own n i len) x) (hl:i+len≤xs.length):
  Src (fun b=>M b∨N b) A φ w ((xs.drop i).take len) sz x:=by
 obtain ⟨g0,g1,g2,g3,g4,g5⟩:=hr.st n _ hk
 have hf:∀ x∈xs,x.cells.length=sz:=fun x hx=>(g4 x hx).1
 have hf':∀ x∈(xs.drop i).take len,x.cells.length=sz:=fun x hx=>hf x (List.mem_of_mem_drop (List.mem_of_mem_take hx))
 have hlen:((xs.drop i).take len).length=len:=by simp;omega
 refine ⟨?_,by rw [hlen];exact O7 h⟩
 rw [hlen]
 cases h with
 | fz h=>cases h
 | own0 h1 h2=>exact ⟨none,0,[],rfl,Row.nil _ _ _,fun _=>rfl,⟨by simp [flat],fun j u hu=>by simp [flat] at hu⟩⟩
 | @own _ _ _ b h1 h2 h3 h4 =>
  rcases g5 with ⟨k1,_⟩|⟨b',cur,k1,k2,k3,k4,k5,k6,k7⟩
  ·rw [h2] at k1;cases k1
  rw [h2] at k1;cases k1
  rw [g1] at *
  have hfit:i*sz+len*sz≤cur.size:=by
   rw [k4,← Nat.add_mul];exact Nat.mul_le_mul_right _ (by omega)
  refine ⟨_,_,(cur.toList.drop (i*sz)).take (len*sz),rfl,fun _=>⟨b,i*sz,rfl,block_lt k3,fun j hj=>?_⟩,(fun h=>by cases h),.mk' (by rw [gW hf',hlen];simp;omega) fun j u c hu hc=>?_⟩
  ·simp only [List.length_take,List.length_drop,Array.length_toList] at hj
   simp only [List.getElem_take,List.getElem_drop,Array.getElem_toList]
   simp [World.cell?,k3]
  ·obtain ⟨i',q,y,e1,e2,e3⟩:=tT hf' hu
   have hi':i'<len:=by have:=(List.getElem?_eq_some_iff.1 e2).1;omega
   rw [List.getElem?_take_of_lt hi',List.getElem?_drop] at e2
   obtain ⟨c',e4,e5⟩:=k7 (i+i') q y u e2 e3
   have hj:j<len*sz:=by
    have:=(List.getElem?_eq_some_iff.1 hu).1
    rwa [gW hf',hlen] at this
   rw [List.getElem?_take_of_lt hj,List.getElem?_drop,e1,← Nat.add_assoc,← Nat.add_mul,Array.getElem?_toList,e4] at hc
   cases hc;exact e5
theorem dF {ti:TypeInfo} {d:TypeDesc} (ht:GV P T e ti d) (hs:e.sl=some el):P.underlying T=some (.slice el):=by
 have:=ht.sl;rw [hs] at this
 have hu:=ht.und
 cases d<;>simp [MW] at this
 rw [hu,this]
theorem Eu {bytes:Nat} {y:Value} {vals:List Value} {ty:TypeId} (hu:P.underlying T=some (.slice el)) {i:TypeInfo} {z:Value} (hi:P.info? el=some i) (hz:i.zero=some z) (hsize:i.size=sz) (hby:i.bytes=bytes) (hzs:z.cells.size=sz) (h0:0<sz) (how:w.ownsRow 0 el sz x k vals) (hy:Src X A φ w ys sz y) (hys:∀ y∈ys,y.cells.length=sz∧∀ u∈y.cells,u.one=true) (hb:(k+ys.length)*bytes≤140737488355328) (hm:k+ys.length≤maxLen):
  ∃ v' w' news,(Builtin.append_ #[T,T] ty #[x,y]).run P w = .ok v' w'∧w'.ownsRow 0 el sz v' (k+ys.length) (vals++news)∧gG X A φ w (flat ys) news∧w.grownBy w' x.ownBlock∧(v'.ownBlock=x.ownBlock∨v'.ownBlock=some w.heap.size):=by
 obtain ⟨B,cap,news,rfl,hrow,hn,hrep⟩:=hy.ex
 have hl:news.length=ys.length*sz:=by rw [← hrep.1,gW fun y hy=>(hys y hy).1]
 have h1:=hrep.one (KI fun y hy=>(hys y hy).2)
 cases B with
 | none =>
  have hn0:news=[]:=by
   rcases news with _|⟨q,l⟩
   ·rfl
   ·obtain ⟨_,_,e,_⟩:=hrow (by simp);cases e
  subst hn0
  have hm0:ys.length=0:=by
   rcases Nat.mul_eq_zero.1 (show ys.length*sz=0 from hl.symm) with h|h
   ·exact h
   ·omega
  have hrun:=run_append_owned_none (P:=P) (w:=w) 0 T ty el i sz hu hi x k vals how
  rw [hn rfl,hm0]
  refine ⟨x,w,[],hrun,by simpa using how,hrep,⟨rfl,rfl,rfl,Nat.le_refl _,fun _ _ _=>rfl⟩,.inl rfl⟩
 | some ad =>
  obtain ⟨v',w',g1,g2,g3,_,g5⟩:=run_append_own_at (P:=P) w 0 T ty el i z sz bytes hu hi hz hsize hby hzs h0 x k vals how ad ys.length cap news hl (fun j u hj=>by
   obtain ⟨hjl,rfl⟩:=List.getElem?_eq_some_iff.1 hj
   obtain ⟨b,o',e',_,hc⟩:=hrow (by omega)
   cases e'
   have:=hc j hjl
   unfold Addr.add
   split
   ·subst_vars;simpa using this
   ·exact this) h1 hm hb (Nat.zero_le _)
  exact ⟨v',w',news,g1,g2,hrep,g3,g5⟩
theorem ni (w:World) (htb:aL P tb) (hE:nth tb el=some ee) (hz:ee.zeroV=some z) (hsz:ee.size=sz) (hzl:z.cells.length=sz):∃ i zv,P.info? el=some i∧i.zero=some zv∧i.size=sz∧i.bytes=ee.bytes∧zv.cells.size=sz∧(∀ X A φ w,Rep X A φ w z zv)∧z.cells.all V.one=true:=by
 obtain ⟨ti,d,ht⟩:=aV htb hE
 obtain ⟨zv,hzv,hrep,hz1,hz0,_⟩:=l8 htb hE hz
 have hzi:ti.zero=some zv:=by
  have:=hzv w
  unfold zeroValue typeInfo at this
  simp [ht.info] at this
  cases h:ti.zero with
  | none=>simp [h] at this
  | some q=>simp [h] at this;rw [this]
 have:=(jW (hrep (fun _=>False) (fun _=>True) (fun _=>⟨none,0,0⟩) w) hz1).1
 exact ⟨ti,zv,ht.info,hzi,by rw [ht.size,hsz],ht.bytes,by rw [← this,hzl],hrep,hz1⟩
theorem nM {x:Operand} {v:Value} (ho:o.op = .call { callee:=.builtin .append,args := #[x,y],argTypes := #[T,T] }) (h:(Builtin.append_ #[T,T] o.type #[a.eval x,a.eval y]).run P w = .ok v w'):(execOp a.eval o).run P w = .ok (.value v) w':=by
 unfold execOp
 simp only [ho,resolve,invoke,builtin,Sem.run_bind,Sem.run_pure,Result.andThen_ok,List.map_toArray,List.map_cons,List.map_nil,h]
theorem Ej {x:Operand} {m:Nat} {zs:List V} (htb:aL P tb) (ho:o.op = .call { callee:=.builtin .append,args := #[x,y],argTypes := #[T,T] }) (hT:nth tb T=some e) (hs:e.sl=some el) (hE:nth tb el=some ee) (hz:ee.zeroV=some z) (hsz:ee.size=sz) (hzl:z.cells.length=sz) (hys:∀ y∈ys,y.cells.length=sz∧∀ u∈y.cells,u.one=true) (hk:xs.length=k) (hcat:xs++ys=zs) (hm:zs.length=m) (hlim:m≤LIM) (hby:m*ee.bytes≤140737488355328):
  aC P N o ⟨[(x,.own n 0 k),(y,.fro ys)],[(n,.els el sz xs)]⟩ (.own ν 0 m) [(n,none),(ν,some (.els el sz zs))] [ν]:=fun s M A φ a w hh hr hν hd=>by
 obtain ⟨ti,d,ht⟩:=aV htb hT
 obtain ⟨i,zv,e1,e2,e3,e4,e5,_,_⟩:=ni w htb hE hz hsz hzl
 obtain ⟨g0,g1,g2,g3,g4,g5⟩:=hr.st n _ hh.n
 obtain ⟨vals,h1,h2,h3⟩:=Bn hr hh.n (hr.ev hh.a) hk
 have hmk:k+ys.length=m:=by rw [← hm,← hcat,List.length_append,hk]
 obtain ⟨v',w',news,h4,h5,h6,h7,h8⟩:=Eu (P:=P) (ty:=o.type) (dF ht hs) e1 e2 e3 e4 e5 g2 h1 (XC (hr.ev hh.b) fun y hy=>(hys y hy).1) hys (by rw [hmk];exact hby) (by rw [hmk];exact ku hlim)
 unfold Oper.wp
 rw [nM ho h4]
 rw [hmk] at h5
 refine jR (kill:=some n) hr (hν ν (by simp)) (fun n' hn=>by cases hn;exact ⟨_,hh.n⟩) (fun b hb=>⟨n,rfl,h3 b hb⟩) h5 h7 h8 g2 hm hlim (fun q hq=>?_) (by rw [← hcat,KP];exact h2.append h6) hd
 rw [← hcat,List.mem_append] at hq
 exact hq.elim (g4 q) (hys q)
theorem F6 {zv:Value} (hz:∀ X A φ w,Rep X A φ w z zv) (h1:z.cells.all V.one=true) (hl:z.cells.length=sz) (_h0:0<sz) (n:Nat):gG X A φ w (flat (List.replicate n z)) (madeCells zv.cells (n*sz)).toList:=by
 have hf:∀ x∈List.replicate n z,x.cells.length=sz:=fun x hx=>by rw [List.eq_of_mem_replicate hx,hl]
 have hr:=yw (hz X A φ w) h1
 refine .mk' (by rw [gW hf];simp [size_madeCells]) fun j u c hu hc=>?_
 obtain ⟨i,k,x,e1,e2,e3⟩:=tT hf hu
 have hx:=List.eq_of_mem_replicate (List.mem_of_getElem? e2)
 subst hx
 have hk:k<sz:=by rw [← hl];exact (List.getElem?_eq_some_iff.1 e3).1
 have hzs:zv.cells.size=sz:=by have:=hr.1;simp only [Array.length_toList] at this;omega
 unfold madeCells at hc
 rw [Array.getElem?_toList,Array.getElem?_map,Option.map_eq_some_iff] at hc
 obtain ⟨q,hq,rfl⟩:=hc
 obtain ⟨hq1,rfl⟩:=Array.getElem?_eq_some_iff.1 hq
 simp only [Array.getElem_range]
 have:j % zv.cells.size=k:=by rw [hzs,e1,Nat.mul_comm,Nat.mul_add_mod];exact Nat.mod_eq_of_lt hk
 rw [this]
 refine hr.at e3 ?_
 rw [Array.getElem?_toList,getElem!_pos zv.cells k (by omega)]
 simp [hzs,hk]
theorem ED {x:Operand} (htb:aL P tb) (ho:o.op = .makeSlice T x y) (hT:nth tb T=some e) (hs:e.sl=some el) (hE:nth tb el=some ee) (hz:ee.zeroV=some z) (hsz:ee.size=sz) (hzl:z.cells.length=sz) (h0:Nat.ble 1 sz=true) (hn:c=(n:Int)) (hlim:n≤LIM) (hby:ee.bytes*n≤281474976710656):
  aC P N o ⟨[(x,.int kl c),(y,.int kc c)],[]⟩ (.own ν 0 n) [(ν,some (.els el sz (List.replicate n z)))] [ν]:=fun s M A φ a w hh hr hν hd=>by
 subst hn
 have h0:=Nat.le_of_ble_eq_true h0
 obtain ⟨ti,d,ht⟩:=aV htb hT
 obtain ⟨i,zv,e1,e2,e3,e4,e5,e6,e7⟩:=ni w htb hE hz hsz hzl
 obtain ⟨w',h1,h2,h3⟩:=run_make_full (P:=P) w 0 T el i zv sz (dF ht hs) e1 e2 e3 kl kc n (by rw [e4];exact hby) (ku hlim) (Nat.zero_le _)
 unfold Oper.wp
 have hrun:(execOp a.eval o).run P w = .ok (.value (.slice (some ⟨w.heap.size,0,none⟩) n n)) w':=by
  unfold execOp
  simp only [ho,hr.int hh.a,hr.int hh.b,Sem.run_bind,h1,Result.andThen_ok,Sem.run_pure]
 rw [hrun]
 exact jR (kill:=none) (vx:=.slice none 0 0) hr (hν ν (by simp)) (fun n' hn=>by cases hn) (fun b hb=>by simp [Value.ownBlock] at hb) h2 h3 (.inr rfl) h0 (by simp) hlim (fun x hx=>by rw [List.eq_of_mem_replicate hx];exact ⟨hzl,fun u hu=>List.all_eq_true.1 e7 u hu⟩) (F6 e6 e7 hzl h0 n) hd
theorem Dw {x:Operand} (htb:aL P tb) (ho:o.op = .makeSlice T x y) (hT:nth tb T=some e) (hs:e.sl=some el) (hE:nth tb el=some ee) (hz:ee.zeroV=some z) (hsz:ee.size=sz) (hzl:z.cells.length=sz) (h0:Nat.ble 1 sz=true) (hn:c=(n:Int)) (hlim:n≤LIM) (hby:ee.bytes*n≤281474976710656):
  aC P N o ⟨[(x,.int kl 0),(y,.int kc c)],[]⟩ (.own ν 0 0) [(ν,some (.els el sz []))] [ν]:=fun s M A φ a w hh hr hν hd=>by
 subst hn
 have h0:=Nat.le_of_ble_eq_true h0
 obtain ⟨ti,d,ht⟩:=aV htb hT
 obtain ⟨i,zv,e1,e2,e3,e4,e5,e6,e7⟩:=ni w htb hE hz hsz hzl
 obtain ⟨w',h1,h2,h3⟩:=run_make_own (P:=P) w 0 T el i zv sz (dF ht hs) e1 e2 e3 kl kc n (by rw [e4];exact hby) (ku hlim) (Nat.zero_le _)
 unfold Oper.wp
 have hrun:(execOp a.eval o).run P w = .ok (.value (.slice (some ⟨w.heap.size,0,none⟩) 0 n)) w':=by
  unfold execOp
  simp only [ho,hr.int hh.a,hr.int hh.b,Sem.run_bind,h1,Result.andThen_ok,Sem.run_pure]
 rw [hrun]
 exact jR (kill:=none) (vx:=.slice none 0 0) hr (hν ν (by simp)) (fun n' hn=>by cases hn) (fun b hb=>by simp [Value.ownBlock] at hb) h2 h3 (.inr rfl) h0 rfl (by simp [LIM]) (fun x hx=>by cases hx) ⟨rfl,fun j u hu=>by simp [flat] at hu⟩ hd
end
end Abs
namespace Abs
open Go.RowKit Mem Facts
section
variable {X A:Nat→Prop} {φ:Nat→Pl} {w w':World} {P:Program} {tb:List Ty} {T:Nat} {e ee:Ty} {N:Env} {M:Nat→Prop} {o:Oper} {s:S} {a:Act}
variable {el:Nat} {ps:Array (Nat × Operand)} {len:Nat} {vs:List V} {sz:Nat} {z:V}
theorem run_buildSlice (hr:Rel N M A φ s a w) (hh:∀ p∈(ps.toList.map (·.2)).zip vs,s.ev p.1=some p.2) (htb:aL P tb) (ho:o.op = .buildSlice T len ps) (hl:Nat.beq vs.length ps.size=true) (hT:nth tb T=some e) (hs:e.sl=some el) (hE:nth tb el=some ee) (hz:ee.zeroV=some z) (hsz:ee.size=sz) (hzl:z.cells.length=sz) (h0:0<sz) (hbig:Nat.ble (len*sz) 16777216=true) (h1:(vs.all fun v=>v.cells.all V.one)=true) (hf:mY (fun i=>some (i*sz,sz)) (flat (List.replicate len z)) (EZ ps.toList vs)=some (flat vs)):
  ∃ cells,(execOp a.eval o).run P w = .ok (.value (.slice (some ⟨w.heap.size,0,none⟩) len len)) (w.alloc (.cells cells el))∧gG (fun b=>M b∨N b) A φ w (flat vs) cells.toList:=by
 have hlen:vs.length=ps.toList.length:=by simpa using Nat.eq_of_beq_eq_true hl
 obtain ⟨ti,d,ht⟩:=aV htb hT
 obtain ⟨i,zv,e1,e2,e3,e4,e5,e6,e7⟩:=ni w htb hE hz hsz hzl
 rw [Eo _ _ hlen] at hf
 have hps:∀ p∈(ps.toList.map (·.1)).zip vs,p.2.cells.all V.one=true:=fun p hp=>List.all_eq_true.1 h1 _ (List.of_mem_zip hp).2
 have hat:∀ (i:Nat) p q,((ps.toList.map (·.1)).zip vs)[i]? = some p→((ps.map fun (i,x)=>(i,a.eval x)).toList)[i]? = some q→Rep (fun b=>M b∨N b) A φ w p.2 q.2:=fun i p q hp hq=>by
  rw [List.getElem?_zip_eq_some] at hp
  obtain ⟨hp1,hp2⟩:=hp
  simp only [Array.toList_map,List.getElem?_map,Option.map_eq_some_iff] at hq hp1
  obtain ⟨q0,hq0,rfl⟩:=hq
  refine hr.ev (hh (q0.2,p.2) ?_)
  exact List.mem_of_getElem? (i:=i) (by rw [List.getElem?_zip_eq_some];exact ⟨by simp [hq0],hp2⟩)
 have hmade:=F6 (X:=fun b=>M b∨N b) (A:=A) (φ:=φ) (w:=w) e6 e7 hzl h0 len
 obtain ⟨out,g1,g2⟩:=yF (pl:=fun i=>some (i*sz,sz)) (by rw [List.map_fst_zip (by simp [hlen])];simp) hps hmade hat hf
 refine ⟨out,?_,g2⟩
 have hbig:=Nat.le_of_ble_eq_true hbig
 have hzero:(zeroValue el).run P w = .ok zv w:=by simp [zeroValue,typeInfo,e1,e2]
 have hrun:∀ qs:Array (Nat × Value),Instr.fill (fun i=>some (i*sz,sz)) (madeCells zv.cells (len*sz)) qs.toList=some out→(Instr.buildSlice T len qs).run P w = .ok (.slice (some ⟨w.heap.size,0,none⟩) len len) (w.alloc (.cells out el)):=fun qs g1=>by
  by_cases hn:len*sz=0
  ·have hm0:madeCells zv.cells (len*sz) = #[]:=by rw [hn];simp [madeCells]
   rw [hm0] at g1
   simp [Instr.buildSlice,run_underlying (dF ht hs),sizeOf,typeInfo,e1,e3,hn,newRow,Array.range_zero',g1]
  ·have:¬ (16777216<len*sz):=by omega
   unfold madeCells at g1
   simp [Instr.buildSlice,run_underlying (dF ht hs),sizeOf,typeInfo,e1,e3,hn,newRow,this,hzero,g1]
 unfold execOp
 simp only [ho,Sem.run_bind,hrun _ g1,Result.andThen_ok,Sem.run_pure]
theorem DR (htb:aL P tb) (ho:o.op = .buildSlice T len ps) (hl:Nat.beq vs.length ps.size=true) (hT:nth tb T=some e) (hs:e.sl=some el) (hE:nth tb el=some ee) (hz:ee.zeroV=some z) (hsz:ee.size=sz) (hzl:z.cells.length=sz) (h0:Nat.ble 1 sz=true) (hbig:Nat.ble (len*sz) 16777216=true) (hvl:Nat.beq vs.length len=true) (h1:(vs.all fun v=>v.cells.all V.one&&Nat.beq v.cells.length sz)=true) (hn:V.bf vs=[]) (hf:mY (fun i=>some (i*sz,sz)) (flat (List.replicate len z)) (EZ ps.toList vs)=some (flat vs)):
  aC P N o ⟨(ps.toList.map (·.2)).zip vs,[]⟩ (.fro vs) [] []:=fun s M A φ a w hh hr hν hd=>by
 have h0:=Nat.le_of_ble_eq_true h0
 have hvl:=Nat.eq_of_beq_eq_true hvl
 have hone:(vs.all fun v=>v.cells.all V.one)=true:=by
  rw [List.all_eq_true] at h1 ⊢
  exact fun v hv=>(Bool.and_eq_true _ _ ▸ h1 v hv).1
 have hcl:∀ v∈vs,v.cells.length=sz:=fun v hv=>by
  have:=List.all_eq_true.1 h1 v hv
  rw [Bool.and_eq_true] at this
  exact Nat.eq_of_beq_eq_true this.2
 obtain ⟨cells,g1,g2⟩:=run_buildSlice hr hh.1 htb ho hl hT hs hE hz hsz hzl h0 hbig hone hf
 have hbel:Below w.heap.size w (w.alloc (.cells cells el)):=(Below.refl _ w).alloc (Nat.le_refl _) _
 unfold Oper.wp
 rw [g1]
 refine gL hr hbel ?_ hd
 have hcs:cells.size=len*sz:=by have:=g2.1;rw [gW hcl,hvl] at this;simpa using this.symm
 have hnn:∀ u∈flat vs,u.names=[]:=fun u hu=>by
  obtain ⟨v,hv,hu⟩:=List.mem_flatMap.1 hu
  refine List.eq_nil_iff_forall_not_mem.2 fun m hm=>?_
  have:m∈V.bf vs:=aB.2 ⟨v,hv,by
   by_cases hg:∃ us,v = .agg us
   ·obtain ⟨us,rfl⟩:=hg
    rw [V.names];exact aB.2 ⟨u,hu,hm⟩
   ·have:v.cells=[v]:=by
     cases v<;>first|rfl|exact absurd ⟨_,rfl⟩ hg
    rw [this,List.mem_singleton] at hu
    subst hu;exact hm⟩
  rw [hn] at this;cases this
 have hlen:len≤LIM:=by
  have:=Nat.le_of_ble_eq_true hbig
  have:len*1≤len*sz:=Nat.mul_le_mul_left _ h0
  simp only [LIM];omega
 have:=Fz.fro (X:=fun b=>M b∨N b) (w:=w.alloc (.cells cells el)) (xs:=vs) (b:=w.heap.size) (o:=0) (sz:=sz) (cap:=len) (fun i j=>(cells[i*sz+j]?).getD undef) (fun h=>by have:=hr.lim _ h;omega) (by simp) h0 (by omega) (by omega) (fun x hx=>⟨hcl x hx,fun u hu=>List.all_eq_true.1 (List.all_eq_true.1 hone x hx) u hu⟩) (fun i j x u hx hu=>by
  have hf:=wS hcl hx hu
  obtain ⟨c,k1,k2⟩:=g2.2 _ _ hf
  rw [Array.getElem?_toList] at k1
  simp [World.cell?_alloc_new,k1]) (fun i j x u hx hu=>by
  have hf:=wS hcl hx hu
  obtain ⟨c,k1,k2⟩:=g2.2 _ _ hf
  rw [Array.getElem?_toList] at k1
  rw [k1]
  exact (pK k2 (hnn u (List.mem_of_getElem? hf))).mono (fun _ _ h=>h) (.of_below hbel))
 rw [hvl] at this
 exact .fz this
theorem wm {ν:Nat} (htb:aL P tb) (ho:o.op = .buildSlice T len ps) (hl:Nat.beq vs.length ps.size=true) (hT:nth tb T=some e) (hs:e.sl=some el) (hE:nth tb el=some ee) (hz:ee.zeroV=some z) (hsz:ee.size=sz) (hzl:z.cells.length=sz) (h0:Nat.ble 1 sz=true) (hbig:Nat.ble (len*sz) 16777216=true) (hvl:Nat.beq vs.length len=true) (h1:(vs.all fun v=>v.cells.all V.one&&Nat.beq v.cells.length sz)=true) (hf:mY (fun i=>some (i*sz,sz)) (flat (List.replicate len z)) (EZ ps.toList vs)=some (flat vs)):
  aC P N o ⟨(ps.toList.map (·.2)).zip vs,[]⟩ (.own ν 0 len) [(ν,some (.els el sz vs))] [ν]:=fun s M A φ a w hh hr hν hd=>by
 have h0:=Nat.le_of_ble_eq_true h0
 have hvl:=Nat.eq_of_beq_eq_true hvl
 have hone:(vs.all fun v=>v.cells.all V.one)=true:=by
  rw [List.all_eq_true] at h1 ⊢
  exact fun v hv=>(Bool.and_eq_true _ _ ▸ h1 v hv).1
 have hcl:∀ v∈vs,v.cells.length=sz:=fun v hv=>by
  have:=List.all_eq_true.1 h1 v hv
  rw [Bool.and_eq_true] at this
  exact Nat.eq_of_beq_eq_true this.2
 obtain ⟨cells,g1,g2⟩:=run_buildSlice hr hh.1 htb ho hl hT hs hE hz hsz hzl h0 hbig hone hf
 have hcs:cells.size=len*sz:=by have:=g2.1;rw [gW hcl,hvl] at this;simpa using this.symm
 have hlen:len≤LIM:=by
  have:=Nat.le_of_ble_eq_true hbig
  have:len*1≤len*sz:=Nat.mul_le_mul_left _ h0
  simp only [LIM];omega
 unfold Oper.wp
 rw [g1]
 exact jR (kill:=none) (vx:=.slice none 0 0) hr (hν ν (by simp)) (fun n' hn=>by cases hn) (fun b hb=>by simp [Value.ownBlock] at hb) (World.ownsRow_lit w (base:=0) cells len (Nat.zero_le _) (ku hlen) hcs) (World.grownBy_alloc w _ none) (.inr rfl) h0 hvl hlen (fun x hx=>⟨hcl x hx,fun u hu=>List.all_eq_true.1 (List.all_eq_true.1 hone x hx) u hu⟩) g2 hd
end
end Abs
namespace Abs
open Go.RowKit Mem Facts
section
variable {X A:Nat→Prop} {φ:Nat→Pl} {w w':World} {P:Program} {tb:List Ty} {T:Nat} {e ee:Ty} {N:Env} {M:Nat→Prop} {o:Oper} {s:S} {a:Act}
variable {t':TypeId} {e':Ty} {r:Bool} {x:Operand} {n:Int} {vs:List V} {t:TypeId} {y:Operand} {T':TypeId} {us:List V} {k:IntKind} {src:TypeId} {b:Int} {dst:TypeId}
def eqS:V→V→Bool
 | .int _ a,.int _ b=>decide (a=b)
 | .bool a,.bool b=>a==b
 | .str a,.str b=>decide (a=b)
 | _,_=>false
def okS (n:Nat):V→V→Bool
 | .int k _,.int k' _=>Nat.beq n (jN k)&&Nat.beq n (jN k')
 | .bool _,.bool _=>Nat.beq n 1
 | .str _,.str _=>Nat.beq n 2
 | _,_=>false
def eqF (us vs:List V):List (Nat × Nat)→Bool
 | []=>true
 | (off,_)::r=>(match nth us off,nth vs off with
  | some u,some v=>eqS u v
  | _,_=>false)&&eqF us vs r
def okF (tb:List Ty) (us vs:List V):List (Nat × Nat)→Bool
 | []=>true
 | (off,ft)::r=>(match nth tb ft,nth us off,nth vs off with
  | some ef,some u,some v=>okS ef.knd u v
  | _,_,_=>false)&&okF tb us vs r
def jD (P : Program) (T : Nat) : Bool := !P.stoodInHeld T && !P.eqGuardType P.depth T && (P.fieldsOf T).all (·.name != "_")
theorem Bc {t:Nat} {u v:V} {x y:Value} (htb:aL P tb) (hT:nth tb t=some e) (hok:okS e.knd u v=true) (hx:Rep X A φ w u x) (hy:Rep X A φ w v y) (d:Nat):P.plainKey t=true∧∀ w1,(Op.equalIn (d+1) t x y).run P w1 = .ok (eqS u v) w1:=by
 obtain ⟨ti,de,ht⟩:=aV htb hT
 unfold okS at hok
 split at hok
 ·rename_i k n k' m
  rw [Bool.and_eq_true] at hok
  have e1:=Nat.eq_of_beq_eq_true hok.1
  have e2:=Nat.eq_of_beq_eq_true hok.2
  have:k'=k:=Gj (by rw [← e1,← e2])
  subst this
  rw [fJ hx,fJ hy]
  have hu:P.underlying t=some (.int k'):=by rw [ht.und,rP (e1.symm.trans ht.knd)]
  refine ⟨by simp [Program.plainKey,hu],fun w1=>?_⟩
  rw [run_equalIn_int w1 d t k' k' n m hu]
  rfl
 ·have e1:=Nat.eq_of_beq_eq_true hok
  rw [iV hx,iV hy]
  have hd:de = .bool:=Ff (e1.symm.trans ht.knd)
  have hu:P.underlying t=some .bool:=by rw [ht.und,hd]
  exact ⟨by simp [Program.plainKey,hu],fun w1=>run_equalIn_bool w1 d t _ _ hu⟩
 ·have e1:=Nat.eq_of_beq_eq_true hok
  rw [(jq hx).1,(jq hy).1]
  have hd:de = .string:=pq (e1.symm.trans ht.knd)
  have hu:P.underlying t=some .string:=by rw [ht.und,hd]
  refine ⟨by simp [Program.plainKey,hu],fun w1=>?_⟩
  rw [run_equalIn_string w1 d t _ _ hu,vv]
  rfl
 ·cases hok
theorem Pw {us vs : List V} {xs ys : Array Value} (htb : aL P tb) (hx : gG X A φ w us xs.toList) (hy : gG X A φ w vs ys.toList) (d : Nat) : ∀ (fs : List Field), (fs.all (·.name != "_")) = true → okF tb us vs (fs.map fun f => (f.offset, f.type)) = true → ∀ w1, (Op.eqFields (d + 1) xs ys fs).run P w1 = .ok (eqF us vs (fs.map fun f => (f.offset, f.type))) w1
 | [],_,_,w1=>by simp [Op.eqFields,eqF]
 | f::fs,hn,hok,w1=>by
  simp only [List.map_cons,okF,Bool.and_eq_true] at hok
  obtain ⟨h1,h2⟩:=hok
  rw [List.all_cons,Bool.and_eq_true] at hn
  have ih:=Pw htb hx hy d fs hn.2 h2
  cases ht:nth tb f.type with
  | none=>rw [ht] at h1;cases h1
  | some ef =>
   cases hu:nth us f.offset with
   | none=>rw [ht,hu] at h1;cases h1
   | some u =>
    cases hv:nth vs f.offset with
    | none=>rw [ht,hu,hv] at h1;cases h1
    | some v =>
     rw [ht,hu,hv] at h1
     simp only at h1
     rw [dw] at hu hv
     obtain ⟨cx,k1,k2⟩:=hx.2 _ _ hu
     obtain ⟨cy,k3,k4⟩:=hy.2 _ _ hv
     rw [Array.getElem?_toList] at k1 k3
     obtain ⟨g1,g2⟩:=Bc (P:=P) htb ht h1 k2 k4 d
     have hne : f.name ≠ "_" := by simpa using hn.1
     simp only [Op.eqFields,hne,ne_eq,not_false_eq_true,if_true,Sem.run_bind,run_part_plain w1 g1 k1,run_part_plain w1 g1 k3,Result.andThen_ok,g2 w1,List.map_cons,eqF,dw,hu,hv]
     cases eqS u v
     ·simp
     ·simp [ih w1]
theorem rU {x y:Value} (htb:aL P tb) (hT:nth tb T=some e) (hk:Nat.beq e.knd 9=true) (hq:jD P T=true) (hok:okF tb us vs e.flds=true) (h:eqF us vs e.flds=r) (hx:Rep X A φ w (.agg us) x) (hy:Rep X A φ w (.agg vs) y):
  ∃ cx cy,x = .agg cx∧y = .agg cy∧∀ w1,(Op.equalIn 10000 T (.agg cx) (.agg cy)).run P w1 = .ok r w1:=by
 obtain ⟨cx,rfl,h1,h2,h3⟩:=jw hx
 obtain ⟨cy,rfl,g1,g2,g3⟩:=jw hy
 obtain ⟨ti,d,ht⟩:=aV htb hT
 have hk:=Nat.eq_of_beq_eq_true hk
 unfold jD at hq
 simp only [Bool.and_eq_true,Bool.not_eq_true'] at hq
 have hd:∃ fs,d = .struct fs:=qZ (hk.symm.trans ht.knd)
 obtain ⟨fs,rfl⟩:=hd
 have hu:=ht.und
 have hfo:P.fieldsOf T=fs:=by simp [Program.fieldsOf,hu]
 have hfl:e.flds=(fs.toList.map fun f=>(f.offset,f.type)):=by rw [ht.flds];rfl
 refine ⟨cx,cy,rfl,rfl,fun w1=>?_⟩
 rw [run_equalIn_struct (P:=P) w1 9999 T cx cy (by rw [hu,hfo]) hq.1.1,hfo]
 rw [hfl] at hok h
 rw [← h]
 have hn : (fs.toList.all (·.name != "_")) = true := by
  have:=hq.2;rw [hfo] at this
  simpa [Array.all_toList] using this
 exact Pw (w:=w) htb (gG.mk' (by simpa using h1) fun j u c hu hc=>h3 j u c hu (by simpa using hc)) (gG.mk' (by simpa using g1) fun j u c hu hc=>g3 j u c hu (by simpa using hc)) 9998 fs.toList hn hok w1
theorem zO (htb:aL P tb) (ho:o.op = .binOp .eql T x y T') (hT:nth tb T=some e) (hk:Nat.beq e.knd 9=true) (hq:jD P T=true) (hok:okF tb us vs e.flds=true) (h:eqF us vs e.flds=r):
  aC P N o ⟨[(x,.agg us),(y,.agg vs)],[]⟩ (.bool r) [] []:=aD fun s M A φ ac w hh hr=>by
 obtain ⟨cx,cy,e1,e2,e3⟩:=rU htb hT hk hq hok h (hr.ev hh.a) (hr.ev hh.b)
 refine ⟨.bool r,?_,.fz .bool⟩
 unfold jD at hq
 simp only [Bool.and_eq_true,Bool.not_eq_true'] at hq
 unfold execOp
 simp only [ho,e1,e2,Sem.run_bind,run_eqGuard_agg w .eql T x y cx cy hq.1.2,Result.andThen_ok,run_eql_struct,e3 w,Sem.run_pure]
theorem JA (htb:aL P tb) (ho:o.op = .binOp .neq T x y T') (hT:nth tb T=some e) (hk:Nat.beq e.knd 9=true) (hq:jD P T=true) (hok:okF tb us vs e.flds=true) (h:(!eqF us vs e.flds)=r):
  aC P N o ⟨[(x,.agg us),(y,.agg vs)],[]⟩ (.bool r) [] []:=aD fun s M A φ ac w hh hr=>by
 obtain ⟨cx,cy,e1,e2,e3⟩:=rU htb hT hk hq hok rfl (hr.ev hh.a) (hr.ev hh.b)
 refine ⟨.bool r,?_,.fz .bool⟩
 unfold jD at hq
 simp only [Bool.and_eq_true,Bool.not_eq_true'] at hq
 unfold execOp
 simp only [ho,e1,e2,Sem.run_bind,run_eqGuard_agg w .neq T x y cx cy hq.1.2,Result.andThen_ok,run_neq_struct,e3 w,Sem.run_pure,h]
theorem ZM {a:Int} (ho:o.op = .binOp .quo t x y t') (hb:¬ b=0) (h:k.wrap (a.tdiv b)=n):aC P N o ⟨[(x,.int k a),(y,.int k b)],[]⟩ (.int k n) [] [] :=
 fP (v:=.int k n) ho rfl (fun _ _ _ _=>.fz (.int (NH h))) fun w=>by subst h;simp [binOp,Op.intDiv,hb]
theorem ZF {a:Int} (ho:o.op = .binOp .rem t x y t') (hb:¬ b=0) (h:a.tmod b=n) (hn:InR k n):aC P N o ⟨[(x,.int k a),(y,.int k b)],[]⟩ (.int k n) [] [] :=
 fP (v:=.int k n) ho rfl (fun _ _ _ _=>.fz (.int hn)) fun w=>by subst h;simp [binOp,Op.intDiv,hb]
theorem Ac {k':IntKind} {m:Int} (htb:aL P tb) (ho:o.op = .convert src dst x) (hS:nth tb src=some e) (hD:nth tb dst=some e') (hk:Nat.beq e'.knd (jN k')=true) (h:k'.wrap n=m):aC P N o ⟨[(x,.int k n)],[]⟩ (.int k' m) [] []:=aD fun s M A φ ac w hh hr=>by
 obtain ⟨ti,d,ht⟩:=aV htb hS
 obtain ⟨ti',d',ht'⟩:=aV htb hD
 have hu:P.underlying dst=some (.int k'):=by rw [ht'.und,rP ((Nat.eq_of_beq_eq_true hk).symm.trans ht'.knd)]
 have hi:P.intKind dst=k':=by simp [Program.intKind,hu]
 refine ⟨.int k' m,?_,.fz (.int (NH h))⟩
 subst h
 have:=run_convert_int (P:=P) w src dst k n (by rw [ht.und];rfl) (by rw [hu,hi])
 rw [hi] at this
 unfold execOp
 simp only [ho,hr.int hh.a,Sem.run_bind,this,Result.andThen_ok,Sem.run_pure]
theorem QG {b:ByteArray} {el:Nat} (htb:aL P tb) (ho:o.op = .convert src dst x) (hS:nth tb src=some e) (hD:nth tb dst=some e') (hk:Nat.beq e.knd 2=true) (hs:e'.sl=some el) (hE:nth tb el=some ee) (he:Nat.beq ee.knd 24=true) (hl:b.size≤LIM):
  aC P N o ⟨[(x,.str b)],[]⟩ (.fro (b.data.toList.map fun c=>.int .u8 c.toNat)) [] []:=fun s M A φ a w hh hr hν hd=>by
 obtain ⟨ti,d,ht⟩:=aV htb hS
 obtain ⟨ti',d',ht'⟩:=aV htb hD
 obtain ⟨ti2,d2,ht2⟩:=aV htb hE
 have hu:P.underlying el=some (.int .u8):=by rw [ht2.und,rP (k:=.u8) ((Nat.eq_of_beq_eq_true he).symm.trans ht2.knd)]
 have hd1:d = .string:=pq ((Nat.eq_of_beq_eq_true hk).symm.trans ht.knd)
 have hrun:=run_bytes_of_string (P:=P) w src dst el b (by rw [ht.und,hd1]) (dF ht' hs) hu
 have hcap:=grownCap_ge w b.size 0 el
 generalize grownCap w b.size 0 el=cap at hrun hcap
 unfold Oper.wp
 have:(execOp a.eval o).run P w = .ok (.value (.slice (some ⟨w.heap.size,0,none⟩) b.size cap)) (w.drew.alloc (.cells (bytesRow b cap) el ((bytesRow b cap).size,(bytesRow b cap).size+1))):=by
  unfold execOp
  simp only [ho,(hr.str hh.a).1,Sem.run_bind,hrun,Result.andThen_ok,Sem.run_pure]
 rw [this]
 have hbel:Below w.heap.size w (w.drew.alloc (.cells (bytesRow b cap) el ((bytesRow b cap).size,(bytesRow b cap).size+1))):=⟨rfl,rfl,rfl,by simp,fun k hk=>heap_alloc_old w.drew _ hk⟩
 refine gL hr hbel ?_ hd
 refine .fz ?_
 have hrow:∀ j (hj:j<b.data.toList.length),(w.drew.alloc (.cells (bytesRow b cap) el ((bytesRow b cap).size,(bytesRow b cap).size+1))).cell? ⟨w.heap.size,0+j,none⟩=some (Value.int .u8 (b.data.toList[j].toNat:Int)):=fun j hj=>by
  have hh:(w.drew.alloc (.cells (bytesRow b cap) el ((bytesRow b cap).size,(bytesRow b cap).size+1))).heap[w.heap.size]? = some (.cells (bytesRow b cap) el ((bytesRow b cap).size,(bytesRow b cap).size+1)):=heap_alloc_new w.drew _
  have hj':j<b.data.size:=by simpa using hj
  unfold World.cell?
  simp only [hh]
  simp [bytesRow,Array.getElem?_append,show j<b.size from hj']
 have:=WA (X:=fun b=>M b∨N b) (w:=w.drew.alloc (.cells (bytesRow b cap) el ((bytesRow b cap).size,(bytesRow b cap).size+1))) (f:=fun c:UInt8=>V.int .u8 (c.toNat:Int)) (g:=fun c:UInt8=>Value.int .u8 (c.toNat:Int)) (L:=b.data.toList) (b:=w.heap.size) (o:=0) (cap:=cap) (fun _=>rfl) (fun _=>rfl) (fun c _=>.int ⟨by simp only [rng];omega,by have:=c.toNat_lt;simp only [rng];omega⟩) (fun h=>by have:=hr.lim _ h;omega) (by show w.heap.size<(w.drew.alloc _).heap.size;simp) (by simpa using hcap) (by simpa using hl) hrow
 simpa using this
end
end Abs
end
end Go.Proofs.YtlfdjpgghiemfaaGreatDoor
