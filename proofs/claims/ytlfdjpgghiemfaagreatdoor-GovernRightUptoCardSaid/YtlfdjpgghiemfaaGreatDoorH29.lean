/- Texts of the proof, joined: Mut. -/
import Derived.Test.YtlfdjpgghiemfaaGreatDoorH20
namespace Go.Proofs.YtlfdjpgghiemfaaGreatDoor
namespace Abs
open Go.RowKit Mem Facts
section
variable {X A A':Nat→Prop} {φ φ':Nat→Pl} {w w':World} {P:Program} {tb:List Ty} {T:Nat} {e ee:Ty} {N:Env} {M:Nat→Prop} {o:Oper} {s:S} {a:Act}
variable {h len n sz:Nat} {es:List (V × V)} {i:Nat} {k:V} {ν:Nat} {xs:List V} {T':Nat}
theorem MS {x y:Operand} {z:V} {kt el:Nat} {ek:Ty} (htb:aL P tb) (ho:o.op = .mapEntry T x y) (hT:nth tb T=some e) (hm:e.mp=some (kt,el)) (hkt:nth tb kt=some ek) (hq:fF P kt ek=true) (hkk:okK tb ek k k=true) (hok:∀ p∈es,okK tb ek k p.1=true) (hn:k.names=[]) (hf:dI ek k es 0=none) (hel:nth tb el=some ee) (hz:ee.zeroV=some z) (hl:es.length≤1000000):aC P N o ⟨[(x,.mp n),(y,k)],[(n,.map es)]⟩ (.tup [z,.int .i64 (es.length:Nat)]) [(n,some (.map (es++[(k,z)])))] []:=fun s M A φ a w hh hr _ hd=>by
 obtain ⟨b,ents,clock,h1,h2,h3,h4,h5,h6⟩:=wT hr hh.n hh.a
 have hrep:=hr.ev hh.b
 obtain ⟨ti,d,ht⟩:=aV htb hT
 have hu:=ht.und
 have hdd:d = .map kt el:=by
  have:=ht.mp
  rw [hm] at this
  cases d<;>simp [Qv] at this
  rename_i k' e'
  rw [this.1,this.2]
 subst hdd
 obtain ⟨r,g1,g2⟩:=uz htb hkt hq hrep w h5 hok
 have g3:=AY htb hkt hq hkk hrep false w
 rw [hf] at g2
 cases g2
 obtain ⟨zv,z0,z2,_⟩:=l8 htb hel hz
 have z1:=z0 w
 have hck:clock=es.length:=h4.ck
 have hrun:(execOp a.eval o).run P w = .ok (.value (.tuple #[zv,goInt clock])) { w with heap:=w.heap.setIfInBounds b (.map (ents.push { key:=a.eval y,val:=zv,born:=clock }) (clock+1)) }:=by
  unfold execOp
  simp only [ho,h1]
  simp [Instr.mapEntry,run_underlying hu,MapKept.run_getObj_map h3,Result.andThen,g1,g3,z1,MapKept.run_setObj_map _ h3]
 unfold Oper.wp
 rw [hrun]
 refine xg hr hh.n h2 (fun w' hs hb=>?_) (BV (z2 _ _ _ _) (.fz (by rw [hck];exact .int ⟨by simp only [rng];omega,by simp only [rng];omega⟩))) hd
 refine ⟨b,_,_,h2,hr.gy hh.n h2,hb,h4.push rfl,fun i q u en hi he=>?_⟩
 have h4s:=h4.sz
 rw [Array.getElem?_push] at he
 by_cases hil:i=es.length
 ·subst hil
  rw [if_pos h4s.symm] at he
  rw [List.getElem?_append_right (by omega)] at hi
  simp at hi he
  obtain ⟨rfl,rfl⟩:=hi
  subst he
  exact ⟨(pK hrep hn).mono (fun _ _ h=>h) hs,z2 _ _ _ _⟩
 ·rw [if_neg (by omega)] at he
  have hlt:i<es.length:=by
   have:=(List.getElem?_eq_some_iff.1 hi).1
   simp at this;omega
  rw [List.getElem?_append_left hlt] at hi
  obtain ⟨k1,k2⟩:=h6 i q u en hi he
  exact ⟨k1.mono (fun _ _ h=>h) hs,k2.mono (fun _ _ h=>h) hs (fun _ h=>h) fun _ _=>rfl⟩
theorem WL {ents:Array MapEntry} (hb:∀ (j:Nat) en,ents[j]? = some en→en.born=j) (hi:i<ents.size):ents.findIdx? (fun e=>(e.born:Int)==(i:Int))=some i:=by
 rw [Array.findIdx?_eq_some_iff_getElem]
 refine ⟨hi,?_,fun j hj=>?_⟩
 ·have:=hb i ents[i] (by simp [hi]);simp [this]
 ·have:=hb j ents[j] (by simp [Nat.lt_trans hj hi]);simp [this];omega
theorem Gz {x y z:Operand} {v v0:V} {kd:IntKind} (ho:o.op = .entryStore T x z y) (hi:es[i]? = some (k,v0)):aC P N o ⟨[(x,.mp n),(z,.int kd (i:Nat)),(y,v)],[(n,.map es)]⟩ .und [(n,some (.map (es.set i (k,v))))] []:=fun s M A φ a w hh hr _ hd=>by
 obtain ⟨b,ents,clock,h1,h2,h3,h4,h5,h6⟩:=wT hr hh.n hh.a
 have hst:=hr.int hh.b
 have hval:=hr.ev hh.c
 have hil:i<es.length:=(List.getElem?_eq_some_iff.1 hi).1
 have hat:=WL (i:=i) h4.bn (by rw [h4.sz];exact hil)
 have hrun:(execOp a.eval o).run P w = .ok .skip { w with heap:=w.heap.setIfInBounds b (.map (ents.modify i fun e=>{ e with val:=a.eval y }) clock) }:=by
  unfold execOp
  simp only [ho,h1,hst]
  simp [Instr.entryStore,MapKept.run_getObj_map h3,Result.andThen,hat,asInt,asIntOf,MapKept.run_setObj_map _ h3]
 unfold Oper.wp
 rw [hrun]
 refine xg hr hh.n h2 (fun w' hs hb=>?_) (.fz .und) hd
 refine ⟨b,_,_,h2,hr.gy hh.n h2,hb,by rw [List.length_set];exact h4.modify (fun _=>rfl),fun j q u en' hi' he=>?_⟩
 rw [Array.getElem?_modify] at he
 rw [List.getElem?_set] at hi'
 by_cases hij:i=j
 ·subst hij
  rw [if_pos rfl] at he
  rw [if_pos rfl,if_pos hil] at hi'
  rw [Option.map_eq_some_iff] at he
  obtain ⟨en,e2,rfl⟩:=he
  cases hi'
  exact ⟨(h6 i k v0 en hi e2).1.mono (fun _ _ h=>h) hs,hval.mono (fun _ _ h=>h) hs (fun _ h=>h) fun _ _=>rfl⟩
 ·rw [if_neg hij] at he hi'
  obtain ⟨k1,k2⟩:=h6 j q u en' hi' he
  exact ⟨k1.mono (fun _ _ h=>h) hs,k2.mono (fun _ _ h=>h) hs (fun _ h=>h) fun _ _=>rfl⟩
theorem uG {x:Operand} {lo hi:Option Operand} {l el:Nat} {ts:List (Operand × V)} (htb:aL P tb) (ho:o.op = .slice T x lo hi none) (hT:nth tb T=some e) (hs:e.sl=some el) (hE:nth tb el=some ee) (hsz:ee.size=sz) (hl:qj lo l 0 ts) (hh:qj hi h len ts) (h1:l≤h) (h2:i+h≤xs.length):
  (l<h∨l=0→aC P N o ⟨(x,.own n i len)::ts,[(n,.els T' sz xs)]⟩ (.own n (i+l) (h-l)) [] [])∧(l=h→aC P N o ⟨(x,.own n i len)::ts,[(n,.els T' sz xs)]⟩ (.fro []) [] []):=by
 have key:∀ s' M A φ a w,Holds ⟨(x,.own n i len)::ts,[(n,.els T' sz xs)]⟩ s'→Rel N M A φ s' a w→∃ A0 cap',(A0=none→cap'=0)∧(execOp a.eval o).run P w = .ok (.value (.slice A0 (h-l) cap')) w∧(l<h∨l=0→Rep (fun b=>M b∨N b) A φ w (.own n (i+l) (h-l)) (.slice A0 (h-l) cap')):=by
  intro s' M A φ a w hd hr
  obtain ⟨ti,d,ht⟩:=aV htb hT
  obtain ⟨ei,de,hte⟩:=aV htb hE
  have hu:=Gc ht hs
  have hd':Holds ⟨ts,[]⟩ s':=⟨fun p hp=>hd.1 p (List.mem_cons_of_mem _ hp),fun p hp=>by simp at hp⟩
  have b1:=oH (fp:=⟨ts,[]⟩) hl hd' hr
  have b2:=oH (fp:=⟨ts,[]⟩) hh hd' hr
  obtain ⟨g0,g1,g2,g3,g4,g5⟩:=hr.st n _ hd.n
  have hrep:=hr.ev hd.a
  generalize hx:a.eval x=v at hrep
  cases hrep with
  | fz h=>cases h
  | own0 k1 k2 =>
   have:xs=[]:=by
    rcases g5 with ⟨_,k,_⟩|⟨b,cur,k3,_⟩
    ·exact k
    ·rw [k2] at k3;cases k3
   subst this
   have hh0:h=0:=by simp at h2;omega
   have hl0:l=0:=by omega
   subst hh0 hl0
   refine ⟨none,0,fun _=>rfl,?_,fun _=>.own0 k1 k2⟩
   unfold execOp
   simp only [ho,hx,Instr.sliceAt,Sem.run_bind,run_underlying hu,Result.andThen_ok,Instr.slice,Option.map_none]
   simp [jT (b:=true) b1 b2 (Nat.le_refl 0) (Nat.le_refl 0),eD hte.info]
  | @own _ _ _ b k1 k2 k3 k4 =>
   rcases g5 with ⟨k5,_⟩|⟨b',cur,k5,q2,q3,q4,q5,q6,q7⟩
   ·rw [k2] at k5;cases k5
   have hcap:h≤(φ n).cap-i:=by omega
   have hei:ei.size=(φ n).sz:=by rw [hte.size,hsz,g1]
   refine ⟨if (φ n).cap-i=l then some ⟨b,i*(φ n).sz,none⟩ else some ⟨b,i*(φ n).sz+l*ei.size,none⟩,(φ n).cap-i-l,(by intro h;exfalso;revert h;split<;>simp),?_,fun hlh=>?_⟩
   ·unfold execOp
    simp only [ho,hx,Instr.sliceAt,Sem.run_bind,run_underlying hu,Result.andThen_ok,Instr.slice,Option.map_none]
    simp [jT (b:=true) b1 b2 h1 hcap,eD hte.info,addr_add]
   ·have e1:(if (φ n).cap-i=l then some (⟨b,i*(φ n).sz,none⟩:Addr) else some ⟨b,i*(φ n).sz+l*ei.size,none⟩)=some ⟨b,(i+l)*(φ n).sz,none⟩:=by
     rw [hei,Nat.add_mul]
     split
     ·have:l=0:=by omega
      subst this;simp
     ·rfl
    rw [e1,show (φ n).cap-i-l=(φ n).cap-(i+l) by omega]
    exact .own k1 k2 (by omega) k4
 refine ⟨fun hlh=>aD fun s' M A φ a w hd hr=>?_,fun hlh=>aD fun s' M A φ a w hd hr=>?_⟩
 ·obtain ⟨A0,cap',_,k1,k2⟩:=key s' M A φ a w hd hr
  exact ⟨_,k1,k2 hlh⟩
 ·obtain ⟨A0,cap',k0,k1,_⟩:=key s' M A φ a w hd hr
  rw [hlh,Nat.sub_self] at k1
  exact ⟨_,k1,.fz (.fro0 k0)⟩
theorem Sm {pl:Pl} {nx:Nat} {dst:Option Nat} {v:V} {x:Value} (hr:Rel N M A φ s a w) (hν:¬ A ν) (hv:∀ φ',φ' ν=pl→Rep (fun b=>M b∨N b) (fun n=>A n∨n=ν) φ' w v x) (hd:∀ d,dst=some d→d<s.nt):
  ∃ M' φ',bF M w w∧(∀ b,b<w.heap.size→M' b→M b)∧Rel N M' (fun n=>A n∨n∈[ν]) φ' (s.eff dst v [] nx) (a.put dst x) w:=by
 let φ':Nat→Pl:=fun n=>if n=ν then pl else φ n
 have hφ:∀ n,A n→φ' n=φ n:=fun n hn=>if_neg fun (e:n=ν)=>hν (e ▸ hn)
 have hφν:φ' ν=pl:=if_pos rfl
 have hgrow:Rel N M (fun n=>A n∨n=ν) φ' s a w:=by
  refine ⟨fun t u ht=>?_,hr.nt,fun n q hq=>?_,fun n n' q q' b h1 h2 h3 h4=>?_,hr.lim,hr.dis,hr.df,fun n hn=>⟨.inl (hr.pin n hn).1,(hφ n (hr.pin n hn).1).trans (hr.pin n hn).2⟩,hr.gl⟩
  ·obtain ⟨h1,h2⟩:=hr.tm t u ht
   exact ⟨h1,h2.mono (fun _ _ h=>h) (.refl _ w) (fun _ h=>.inl h) hφ⟩
  ·obtain ⟨h1,h2⟩:=hr.st n q hq
   refine ⟨.inl h1,?_⟩
   rw [hφ n h1]
   exact h2.mono (fun _ _ h=>h) (.refl _ w) (fun _ h=>.inl h) hφ (fun _ h=>h) fun _ _=>rfl
  ·rw [hφ n (hr.st n q h1).1] at h3
   rw [hφ n' (hr.st n' q' h2).1] at h4
   exact hr.inj n n' q q' b h1 h2 h3 h4
 exact ⟨M,φ',.refl _ w,fun _ _ h=>h,(eX hgrow (hv φ' hφν) hd).wider fun n h=>h.imp id fun e=>by simp [e]⟩
theorem Nf {x y z u:Operand} {l m el:Nat} {k1 k2 k3:IntKind} (htb:aL P tb) (ho:o.op = .slice T x (some y) (some z) (some u)) (hT:nth tb T=some e) (hs:e.sl=some el) (hE:nth tb el=some ee) (hsz:ee.size=sz) (h1:l<h) (h2:h≤m) (h3:i+m≤xs.length):
  aC P N o ⟨[(x,.own n i len),(y,.int k1 (l:Nat)),(z,.int k2 (h:Nat)),(u,.int k3 (m:Nat))],[(n,.els T' sz xs)]⟩ (.own ν (i+l) (h-l)) [] [ν]:=fun s' M A φ a w hd hr hν hdst=>by
 obtain ⟨ti,d,ht⟩:=aV htb hT
 obtain ⟨ei,de,hte⟩:=aV htb hE
 have hu:=Gc ht hs
 obtain ⟨g0,g1,g2,g3,g4,g5⟩:=hr.st n _ hd.n
 have hrep:=hr.ev hd.a
 have i1:=hr.int hd.b
 have i2:=hr.int hd.c
 have i3:=hr.int (hd.1 (u,.int k3 (m:Nat)) (by simp))
 generalize hx:a.eval x=v at hrep
 cases hrep with
 | fz h=>cases h
 | own0 q1 q2 =>
  rcases g5 with ⟨_,k,_⟩|⟨b,cur,k3,_⟩
  ·subst k;simp at h3;omega
  ·rw [q2] at k3;cases k3
 | @own _ _ _ b q1 q2 q3 q4 =>
  rcases g5 with ⟨k5,_⟩|⟨b',cur,k5,p2,p3,p4,p5,p6,p7⟩
  ·rw [q2] at k5;cases k5
  have hcap:m≤(φ n).cap-i:=by omega
  have hei:ei.size=(φ n).sz:=by rw [hte.size,hsz,g1]
  have hrun:(execOp a.eval o).run P w = .ok (.value (.slice (some ⟨b,i*(φ n).sz+l*ei.size,none⟩) (h-l) (m-l))) w:=by
   unfold execOp
   simp only [ho,hx,Instr.sliceAt,Sem.run_bind,run_underlying hu,Result.andThen_ok,Instr.slice,Option.map_some,i1,i2,i3]
   have e1:¬ m=l:=by omega
   simp [Instr.sliceBounds,Instr.sliceBound,asIntOf,hcap,h2,Nat.le_of_lt h1,eD hte.info,addr_add,e1]
  unfold Oper.wp
  rw [hrun]
  refine Sm (pl:=⟨some b,(φ n).sz,i+m⟩) hr (hν ν (by simp)) (fun φ' hφ=>?_) hdst
  have:=Rep.own (X:=fun b=>M b∨N b) (A:=fun n=>A n∨n=ν) (φ:=φ') (w:=w) (n:=ν) (i:=i+l) (len:=h-l) (b:=b) (.inr rfl) (by rw [hφ]) (by rw [hφ];show i+l+(h-l)≤i+m;omega) (by rw [hφ];show i+m≤maxLen;omega)
  rw [hφ] at this
  rw [hei,← Nat.add_mul,show m-l=i+m-(i+l) by omega]
  exact this
theorem EF {us:List V} {cs:List Value} (h:gG X A φ w us cs) (h1:us.all V.one=true):∀ c∈cs,c.oneCell'=true:=h.one fun u hu=>List.all_eq_true.1 h1 u hu
theorem Qy {x:Operand} {el:Nat} {z:V} (htb:aL P tb) (ho:o.op = .call { callee:=.builtin .clear,args := #[x],argTypes := #[T] }) (hT:nth tb T=some e) (hs:e.sl=some el) (hE:nth tb el=some ee) (hz:ee.zeroV=some z) (hzl:z.cells.length=sz) (h0:0<len):
  aC P N o ⟨[(x,.own n i len)],[(n,.els T' sz xs)]⟩ (.tup []) [(n,some (.els T' sz (xs.take i)))] []:=fun s M A φ a w hh hr _ hd=>by
 obtain ⟨ti,d,ht⟩:=aV htb hT
 have hu:=Gc ht hs
 obtain ⟨zv,z0,z2,z3,_⟩:=l8 htb hE hz
 obtain ⟨g0,g1,g2,g3,g4,g5⟩:=hr.st n _ hh.n
 have hrep:=hr.ev hh.a
 have zr:=yw (z2 (fun b=>M b∨N b) A φ w) z3
 have zone:=EF zr z3
 have zsz:zv.cells.size=sz:=by rw [← hzl,zr.1];simp
 generalize hx:a.eval x=v at hrep
 cases hrep with
 | fz h=>cases h
 | own0 q1 q2=>omega
 | @own _ _ _ b q1 q2 q3 q4 =>
  rcases g5 with ⟨k5,_⟩|⟨b',cur,k5,p2,p3,p4,p5,p6,p7⟩
  ·rw [q2] at k5;cases k5
  rw [q2] at k5;cases k5
  have hlen:(Builtin.zeroCells zv.cells len).toList.length=len*sz:=by simp [Builtin.zeroCells,zsz]
  have hone:∀ v∈(Builtin.zeroCells zv.cells len).toList,v.oneCell'=true:=by
   intro c hc
   simp only [Builtin.zeroCells,Array.toList_map,List.mem_map] at hc
   obtain ⟨q,_,rfl⟩:=hc
   have hlt:q % zv.cells.size<zv.cells.size:=Nat.mod_lt _ (by omega)
   rw [getElem!_pos zv.cells _ hlt]
   exact zone _ (by simp)
  have hfit:i*sz+0+(Builtin.zeroCells zv.cells len).toList.length≤cur.size:=by
   rw [hlen,p4,Nat.add_zero,← Nat.add_mul]
   exact Nat.mul_le_mul_right _ q3
  have hst:=run_storeCells_at (P:=P) b (i*sz) T' _ 0 cur w p3 hfit hone
  obtain ⟨lenq,rfl⟩:∃ q,len=q+1:=⟨len-1,by omega⟩
  rw [g1] at hx
  have hrun:(execOp a.eval o).run P w = .ok (.value (.tuple #[])) (w.setRow b (cur.toList.take (i*sz+0)++(Builtin.zeroCells zv.cells (lenq+1)).toList++cur.toList.drop (i*sz+0+(Builtin.zeroCells zv.cells (lenq+1)).toList.length)).toArray):=by
   unfold execOp
   simp only [ho,resolve,invoke,builtin,Sem.run_bind,Sem.run_pure,Result.andThen_ok,List.map_toArray,List.map_cons,List.map_nil,hx]
   simp only [Builtin.clear_,run_underlying hu,Sem.run_bind,Result.andThen_ok,z0,hst,Sem.run_pure,List.getElem?_toArray,List.getElem?_cons_zero]
  unfold Oper.wp
  rw [hrun]
  have cell:∀ q,q<i*sz→(cur.toList.take (i*sz+0)++(Builtin.zeroCells zv.cells (lenq+1)).toList++cur.toList.drop (i*sz+0+(Builtin.zeroCells zv.cells (lenq+1)).toList.length)).toArray[q]? = cur[q]? := fun q hq=>by
   have hc:q<cur.size:=by omega
   simp only [List.getElem?_toArray,Nat.add_zero]
   rw [List.append_assoc,List.getElem?_append_left (by simp;omega),List.getElem?_take_of_lt hq]
   simp
  refine Jb hr hh.n q2 p3 (by simp [hlen];simp [hlen] at hfit;omega) (by simp [List.length_take];omega) (fun y hy=>g4 y (List.mem_of_mem_take hy)) (fun i' j y u hy hu=>?_) (.fz (.tup rfl fun i x c h=>by simp at h)) hd
  have hi':i'<i:=by
   have:=(List.getElem?_eq_some_iff.1 hy).1
   simp at this;omega
  rw [List.getElem?_take_of_lt hi'] at hy
  obtain ⟨c,c1,c2⟩:=p7 i' j y u hy hu
  refine ⟨c,?_,c2⟩
  rw [cell _ ?_]
  ·exact c1
  ·have h3:=(g4 y (List.mem_of_getElem? hy)).1
   have h4:=(List.getElem?_eq_some_iff.1 hu).1
   have:(i'+1)*sz≤i*sz:=Nat.mul_le_mul_right _ hi'
   rw [Nat.add_mul] at this
   omega
theorem EP {x y:Operand} {k j m el:Nat} {zs:List V} (htb:aL P tb) (ho:o.op = .call { callee:=.builtin .append,args := #[x,y],argTypes := #[T,T] }) (hT:nth tb T=some e) (hs:e.sl=some el) (hE:nth tb el=some ee) (hsz:ee.size=sz) (hkm:k+m≤xs.length) (hj:j+m≤xs.length) (h0:0<m) (hcat:xs.take k++((xs.drop j).take m++xs.drop (k+m))=zs):aC P N o ⟨[(x,.own n 0 k),(y,.own n j m)],[(n,.els el sz xs)]⟩ (.own n 0 (k+m)) [(n,some (.els el sz zs))] []:=fun s M A φ a w hh hr _ hd=>by
 obtain ⟨ti,d,ht⟩:=aV htb hT
 obtain ⟨ei,de,hte⟩:=aV htb hE
 obtain ⟨g0,g1,g2,g3,g4,g5⟩:=hr.st n _ hh.n
 have hsrc:=Xy hr hh.n (hr.ev hh.b) hj
 obtain ⟨B,cap,news,e1,e2,e3,e4⟩:=hsrc.ex
 have hys:∀ y∈(xs.drop j).take m,y.cells.length=sz∧∀ u∈y.cells,u.one=true:=fun y hy=>g4 y (List.mem_of_mem_drop (List.mem_of_mem_take hy))
 have hyl:((xs.drop j).take m).length=m:=by simp;omega
 have hl:news.length=m*sz:=by rw [← e4.1,gW fun y hy=>(hys y hy).1,hyl]
 have hone:=e4.one (KI fun y hy=>(hys y hy).2)
 have hrep:=hr.ev hh.a
 rw [hyl] at e1
 generalize hx:a.eval x=v at hrep
 cases hrep with
 | fz h=>cases h
 | own0 q1 q2 =>
  rcases g5 with ⟨_,k,_⟩|⟨b,cur,k3,_⟩
  ·subst k;simp at hkm;omega
  ·rw [q2] at k3;cases k3
 | @own _ _ _ b q1 q2 q3 q4 =>
  rcases g5 with ⟨k5,_⟩|⟨b',cur,k5,p2,p3,p4,p5,p6,p7⟩
  ·rw [q2] at k5;cases k5
  rw [q2] at k5;cases k5
  obtain ⟨b2,o2,hB,hb2,hcells⟩:=e2 (by rw [hl];exact Nat.mul_pos h0 g2)
  subst hB
  have hei:ei.size=sz:=by rw [hte.size,hsz]
  have hfit:k*ei.size+news.length≤cur.size:=by
   rw [hei,hl,p4,← Nat.add_mul]
   exact Nat.mul_le_mul_right _ (by omega)
  have hr2:=run_append_room (P:=P) w T o.type el ei (dF ht hs) hte.info b k ((φ n).cap) cur p3 ⟨b2,o2,none⟩ m cap news (by rw [hei];exact hl) (fun j u hj=>by
   obtain ⟨hjl,rfl⟩:=List.getElem?_eq_some_iff.1 hj
   have:=hcells j hjl
   rw [addr_add]
   exact this) hone (by omega) hfit
  unfold Oper.wp
  have e9:Value.slice (some ⟨b,0*(φ n).sz,none⟩) k ((φ n).cap-0) = .slice (some ⟨b,0,none⟩) k (φ n).cap:=by simp
  rw [nM ho (by rw [hx,e1,e9];exact hr2)]
  subst hcat
  have hsz2:(cur.toList.take (k*ei.size)++news++cur.toList.drop (k*ei.size+news.length)).toArray.size=cur.size:=by simp;omega
  refine Jb hr hh.n q2 p3 hsz2 (by simp;omega) (fun y hy=>?_) (fun i' j' y u hy hu=>?_) ?_ hd
  ·simp only [List.mem_append] at hy
   rcases hy with hy|hy|hy
   ·exact g4 y (List.mem_of_mem_take hy)
   ·exact hys y hy
   ·exact g4 y (List.mem_of_mem_drop hy)
  ·have hk1:(xs.take k).length=k:=by simp;omega
   have cell:∀ q,(cur.toList.take (k*ei.size)++news++cur.toList.drop (k*ei.size+news.length)).toArray[q]? = if q<k*sz then cur[q]? else if q<(k+m)*sz then news[q-k*sz]? else cur[q]? := fun q=>by
    simp only [List.getElem?_toArray,hei,hl]
    have hkc:k*sz≤cur.size:=by rw [hei] at hfit;omega
    by_cases h1:q<k*sz
    ·rw [if_pos h1,List.append_assoc,List.getElem?_append_left (by simp;omega),List.getElem?_take_of_lt h1]
     simp
    ·rw [if_neg h1,List.append_assoc,List.getElem?_append_right (by simp;omega)]
     have e5:(cur.toList.take (k*sz)).length=k*sz:=by simp;omega
     rw [e5]
     by_cases h2:q<(k+m)*sz
     ·rw [if_pos h2,List.getElem?_append_left (by rw [hl];rw [Nat.add_mul] at h2;omega)]
     ·rw [if_neg h2]
      rw [Nat.add_mul] at h2
      rw [List.getElem?_append_right (by rw [hl];omega),List.getElem?_drop,hl]
      simp
      congr 1
      omega
   have hjs:j'<sz:=by
    have h4:=(List.getElem?_eq_some_iff.1 hu).1
    have:y∈xs:=by
     have:=List.mem_of_getElem? hy
     simp only [List.mem_append] at this
     rcases this with h|h|h
     ·exact List.mem_of_mem_take h
     ·exact List.mem_of_mem_drop (List.mem_of_mem_take h)
     ·exact List.mem_of_mem_drop h
    rw [(g4 y this).1] at h4
    exact h4
   have hmul:∀ p q:Nat,p<q→p*sz+j'<q*sz:=fun p q h=>by
    have:(p+1)*sz≤q*sz:=Nat.mul_le_mul_right _ h
    rw [Nat.add_mul] at this
    omega
   have hmul2:∀ p q:Nat,q≤p→q*sz≤p*sz:=fun p q h=>Nat.mul_le_mul_right _ h
   rw [cell]
   by_cases h1:i'<k
   ·rw [if_pos (hmul _ _ h1)]
    rw [List.getElem?_append_left (by omega),List.getElem?_take_of_lt h1] at hy
    exact p7 i' j' y u hy hu
   ·rw [if_neg (by have:=hmul2 i' k (by omega);omega)]
    rw [List.getElem?_append_right (by omega),hk1] at hy
    by_cases h2:i'<k+m
    ·rw [if_pos (hmul _ _ h2)]
     rw [List.getElem?_append_left (by omega)] at hy
     have hf:=wS (fun y hy=>(hys y hy).1) hy hu
     have e6:i'*sz+j'-k*sz=(i'-k)*sz+j':=by
      have:=hmul2 i' k (by omega)
      rw [Nat.sub_mul];omega
     rw [e6]
     exact e4.2 _ u hf
    ·rw [if_neg (by have:=hmul2 i' (k+m) (by omega);omega)]
     rw [List.getElem?_append_right (by omega),hyl,List.getElem?_drop,show k+m+(i'-k-m)=i' by omega] at hy
     exact p7 i' j' y u hy hu
  ·have:=Rep.own (X:=fun b=>M b∨N b) (w:=w) (i:=0) (len:=k+m) q1 q2 (by omega) q4
   simpa using this
theorem Az {x y:Operand} {k el:Nat} (htb:aL P tb) (ho:o.op = .call { callee:=.builtin .append,args := #[x,y],argTypes := #[T,T] }) (hT:nth tb T=some e) (hs:e.sl=some el) (hE:nth tb el=some ee) (hk:k≤xs.length):
  aC P N o ⟨[(x,.own n 0 k),(y,.fro [])],[(n,.els T' sz xs)]⟩ (.own n 0 k) [] []:=aD fun s M A φ a w hh hr=>by
 obtain ⟨ti,d,ht⟩:=aV htb hT
 obtain ⟨ei,de,hte⟩:=aV htb hE
 have hrep:=hr.ev hh.a
 refine ⟨a.eval x,?_,hrep⟩
 obtain ⟨_,⟨_,B,cap,g2,g3⟩|⟨b,o',sz',cap,c,g1,_,_,g4,_⟩⟩:=tO (hr.ev hh.b)
 ·have hf:∀ w:World,(Builtin.firstCells ei.size 0 (.slice B 0 cap)).run P w = .ok #[] w:=fun w=>by
   cases B<;>simp [Builtin.firstCells,loadCells,loadCellsFrom]
  refine nM ho ?_
  rw [g2]
  generalize hx:a.eval x=v at hrep
  cases hrep with
  | fz h=>cases h
  | own0 q1 q2=>simp [Builtin.append_,run_underlying (dF ht hs),sizeOf,typeInfo,hte.info,Builtin.lenOf,hf]
  | @own _ _ _ b q1 q2 q3 q4 =>
   have:k≤(φ n).cap-0:=by omega
   simp [Builtin.append_,run_underlying (dF ht hs),sizeOf,typeInfo,hte.info,Builtin.lenOf,hf,storeCells]
   omega
 ·have hf:∀ w:World,(Builtin.firstCells ei.size 0 (.slice (some ⟨b,o',none⟩) 0 cap)).run P w = .ok #[] w:=fun w=>by
   simp [Builtin.firstCells,loadCells,loadCellsFrom]
  refine nM ho ?_
  rw [g1]
  generalize hx:a.eval x=v at hrep
  cases hrep with
  | fz h=>cases h
  | own0 q1 q2=>simp [Builtin.append_,run_underlying (dF ht hs),sizeOf,typeInfo,hte.info,Builtin.lenOf,hf]
  | @own _ _ _ b q1 q2 q3 q4 =>
   have:k≤(φ n).cap-0:=by omega
   simp [Builtin.append_,run_underlying (dF ht hs),sizeOf,typeInfo,hte.info,Builtin.lenOf,hf,storeCells]
   omega
end
section
variable {P:Program} {N:Env} {l r:List Oper} {o:Oper} {tm:List (Nat × V)} {st:List (Nat × Option Blk)} {nx nt:Nat} {tr:List Tr} {K:S→List Tr→Prop} {tb:List Ty} {d T:Nat} {x y z u:Operand} {fp:Fp} {v:V} {e ee ek:Ty} {m kt el:Nat} {kd kd' kd2:IntKind}
variable {α:Type} {i0 len sz:Nat} {f:α→V} {z0:V} {L:List α} {p b T':Nat}
theorem UL {n:Nat} {b:Blk} (hg:ax l o ⟨tm,st,nx,nt⟩=some true) (hd:o.dst=some d) (hlt:Nat.blt d nt=true) (law:aC P N o fp v [(n,some b)] []) (hh:Holds fp ⟨tm,st,nx,nt⟩) (k:ay P N l K r ⟨(d,v)::tm,(n,some b)::st,nx,nt⟩ (tr++[aH l o fp [(n,some b)]])):ay P N l K (o::r) ⟨tm,st,nx,nt⟩ tr :=
 .on fp v [(n,some b)] [] nx hg law hh ⟨Nat.le_refl _,fun n h=>by simp at h⟩ (fun d' h=>by rw [hd] at h;cases h;exact kV hlt) (by
  have e:S.eff ⟨tm,st,nx,nt⟩ o.dst v [(n,some b)] nx=⟨(d,v)::tm,(n,some b)::st,nx,nt⟩:=by rw [hd];rfl
  rw [e];exact k)
theorem Yu {ν:Nat} (hν:ν=nx) (hg:ax l o ⟨tm,st,nx,nt⟩=some true) (hd:o.dst=some d) (hlt:Nat.blt d nt=true) (law:aC P N o fp v [] [ν]) (hh:Holds fp ⟨tm,st,nx,nt⟩) (k:ay P N l K r ⟨(d,v)::tm,st,nx+1,nt⟩ (tr++[aH l o fp []])):ay P N l K (o::r) ⟨tm,st,nx,nt⟩ tr :=
 .on fp v [] [ν] (nx+1) hg law hh ⟨Nat.le_succ _,fun n h=>by rw [List.mem_singleton] at h;show nx≤n∧n<nx+1;omega⟩ (fun d' h=>by rw [hd] at h;cases h;exact kV hlt) (by
  have e:S.eff ⟨tm,st,nx,nt⟩ o.dst v [] (nx+1)=⟨(d,v)::tm,st,nx+1,nt⟩:=by rw [hd];rfl
  rw [e];exact k)
theorem KZ {es:List (V × V)} {kv:V} (htb:aL P tb) (k:ay P N l K r ⟨(d,.tup [z0,.int .i64 (es.length:Nat)])::tm,(m,some (.map (es++[(kv,z0)])))::st,nx,nt⟩ (tr++[aH l o ⟨[(x,.mp m),(y,kv)],[(m,.map es)]⟩ [(m,some (.map (es++[(kv,z0)])))]])) (ho:o.op = .mapEntry T x y:=by rfl) (hx:S.ev ⟨tm,st,nx,nt⟩ x=some (.mp m):=by rfl) (hy:S.ev ⟨tm,st,nx,nt⟩ y=some (kv):=by rfl) (hB:S.blk ⟨tm,st,nx,nt⟩ m=some (.map es):=by rfl) (hg:ax l o ⟨tm,st,nx,nt⟩=some true:=by rfl) (hd:o.dst=some d:=by rfl) (hlt:Nat.blt d nt=true:=by rfl) (hT':nth tb T=some e:=by rfl) (hm:e.mp=some (kt,el):=by rfl) (hkt:nth tb kt=some ek:=by rfl) (hq:fF P kt ek=true:=by kernel_rfl) (hkk:okK tb ek kv kv=true:=by rfl) (hok:∀ p∈es,okK tb ek kv p.1=true:=by exact pM (fun _=>rfl)) (hn:kv.names=[]:=by rfl) (hf:dI ek kv es 0=none:=by assumption) (hel:nth tb el=some ee:=by rfl) (hz:ee.zeroV=some z0:=by rfl) (hl:es.length≤1000000:=by assumption):ay P N l K (o::r) ⟨tm,st,nx,nt⟩ tr :=
 UL hg hd hlt (MS htb ho hT' hm hkt hq hkk hok hn hf hel hz hl) (hT hx (hT hy (hN hB h0))) k
theorem Pq (f:α→V × V) (a1:α) (k:ay P N l K r ⟨tm,(m,some (.map ((L++[a1]).map f)))::st,nx,nt⟩ (tr++[aH l o ⟨[(x,.mp m),(z,.int .i64 ((L.map f).length:Nat)),(y,(f a1).2)],[(m,.map (L.map f++[((f a1).1,z0)]))]⟩ [(m,some (.map ((L++[a1]).map f)))]])) (ho:o.op = .entryStore T x z y:=by rfl) (hx:S.ev ⟨tm,st,nx,nt⟩ x=some (.mp m):=by rfl) (hz:S.ev ⟨tm,st,nx,nt⟩ z=some (.int .i64 ((L.map f).length:Nat)):=by rfl) (hy:S.ev ⟨tm,st,nx,nt⟩ y=some ((f a1).2):=by rfl) (hB:S.blk ⟨tm,st,nx,nt⟩ m=some (.map (L.map f++[((f a1).1,z0)])):=by rfl) (hg:ax l o ⟨tm,st,nx,nt⟩=some true:=by rfl) (hd:o.dst=none:=by rfl):ay P N l K (o::r) ⟨tm,st,nx,nt⟩ tr :=
 BD hg hd (by
  have h:=Gz (P:=P) (N:=N) (n:=m) (i:=(L.map f).length) (es:=L.map f++[((f a1).1,z0)]) (v:=(f a1).2) (k:=(f a1).1) (v0:=z0) (kd:=.i64) ho (by simp)
  have e:(L.map f++[((f a1).1,z0)]).set (L.map f).length ((f a1).1,(f a1).2)=(L++[a1]).map f:=by rw [List.set_append_right _ _ (Nat.le_refl _),Nat.sub_self,List.map_append];rfl
  rw [e] at h
  exact h) (hT hx (hT hz (hT hy (hN hB h0)))) k
theorem Xa (f:α→V × V) (i:Nat) {a0:α} (a1:α) (htb:aL P tb) (k:ay P N l K r ⟨tm,(m,some (.map ((L.set i a1).map f)))::st,nx,nt⟩ (tr++[aH l o ⟨[(x,.mp m),(y,(f a1).1),(z,(f a1).2)],[(m,.map (L.map f))]⟩ [(m,some (.map ((L.set i a1).map f)))]])) (ho:o.op = .mapUpdate T x y z:=by rfl) (hx:S.ev ⟨tm,st,nx,nt⟩ x=some (.mp m):=by rfl) (hy:S.ev ⟨tm,st,nx,nt⟩ y=some ((f a1).1):=by rfl) (hz:S.ev ⟨tm,st,nx,nt⟩ z=some ((f a1).2):=by rfl) (hB:S.blk ⟨tm,st,nx,nt⟩ m=some (.map (L.map f)):=by rfl) (hg:ax l o ⟨tm,st,nx,nt⟩=some true:=by rfl) (hd:o.dst=none:=by rfl) (hT':nth tb T=some e:=by rfl) (hm:e.mp=some (kt,el):=by rfl) (hkt:nth tb kt=some ek:=by rfl) (hq:fF P kt ek=true:=by kernel_rfl) (hkk:okS ek.knd (f a1).1 (f a1).1=true:=by rfl) (hok:∀ p∈L.map f,okK tb ek (f a1).1 p.1=true:=by exact pM (fun _=>rfl)) (hf:dI ek (f a1).1 (L.map f) 0=some i:=by assumption) (hi:L[i]? = some a0:=by assumption) (he:(f a1).1=(f a0).1:=by first|rfl|assumption):ay P N l K (o::r) ⟨tm,st,nx,nt⟩ tr :=
 BD hg hd (by
  have h:=Ns (P:=P) (N:=N) (n:=m) (v:=(f a1).2) (v0:=(f a0).2) htb ho hT' hm hkt hq hkk hok hf (by rw [List.getElem?_map,hi,he];rfl)
  rw [show (L.map f).set i ((f a1).1,(f a1).2)=(L.set i a1).map f from List.map_set.symm] at h
  exact h) (hT hx (hT hy (hT hz (hN hB h0)))) k
theorem Wh {a:Nat} (htb:aL P tb) (k:ay P N l K r ⟨(d,.own m (i0+a) (len-a))::tm,st,nx,nt⟩ (tr++[aH l o ⟨[(x,.own m i0 len),(y,.int kd (a:Nat))],[(m,.els T' sz (L.map f))]⟩ []])) (ho:o.op = .slice T x (some y) none none:=by rfl) (hx:S.ev ⟨tm,st,nx,nt⟩ x=some (.own m i0 len):=by rfl) (hy:S.ev ⟨tm,st,nx,nt⟩ y=some (.int kd (a:Nat)):=by rfl) (hB:S.blk ⟨tm,st,nx,nt⟩ m=some (.els T' sz (L.map f)):=by rfl) (hg:ax l o ⟨tm,st,nx,nt⟩=some true:=by rfl) (hd:o.dst=some d:=by rfl) (hlt:Nat.blt d nt=true:=by rfl) (hT':nth tb T=some e:=by rfl) (hs:e.sl=some el:=by rfl) (hE:nth tb el=some ee:=by rfl) (hsz:ee.size=sz:=by rfl) (h1:a<len:=by omega) (h2:i0+len≤L.length:=by omega):ay P N l K (o::r) ⟨tm,st,nx,nt⟩ tr :=
 aJ hg hd hlt ((uG (ts:=[(y,.int kd (a:Nat))]) (l:=a) (h:=len) htb ho hT' hs hE hsz ⟨kd,by simp⟩ rfl (Nat.le_of_lt h1) (by simpa using h2)).1 (.inl h1)) (hT hx (hT hy (hN hB h0))) k
theorem abd {a:Nat} (htb:aL P tb) (k:ay P N l K r ⟨(d,.fro [])::tm,st,nx,nt⟩ (tr++[aH l o ⟨[(x,.own m i0 len),(y,.int kd (a:Nat))],[(m,.els T' sz (L.map f))]⟩ []])) (ho:o.op = .slice T x (some y) none none:=by rfl) (hx:S.ev ⟨tm,st,nx,nt⟩ x=some (.own m i0 len):=by rfl) (hy:S.ev ⟨tm,st,nx,nt⟩ y=some (.int kd (a:Nat)):=by rfl) (hB:S.blk ⟨tm,st,nx,nt⟩ m=some (.els T' sz (L.map f)):=by rfl) (hg:ax l o ⟨tm,st,nx,nt⟩=some true:=by rfl) (hd:o.dst=some d:=by rfl) (hlt:Nat.blt d nt=true:=by rfl) (hT':nth tb T=some e:=by rfl) (hs:e.sl=some el:=by rfl) (hE:nth tb el=some ee:=by rfl) (hsz:ee.size=sz:=by rfl) (h1:a=len:=by omega) (h2:i0+len≤L.length:=by omega):ay P N l K (o::r) ⟨tm,st,nx,nt⟩ tr :=
 aJ hg hd hlt ((uG (ts:=[(y,.int kd (a:Nat))]) (l:=a) (h:=len) htb ho hT' hs hE hsz ⟨kd,by simp⟩ rfl (Nat.le_of_eq h1) (by simpa using h2)).2 h1) (hT hx (hT hy (hN hB h0))) k
theorem OG (htb:aL P tb) (k:ay P N l K r ⟨(d,.own m i0 b)::tm,st,nx,nt⟩ (tr++[aH l o ⟨[(x,.own m i0 len),(z,.int kd' (b:Nat))],[(m,.els T' sz (L.map f))]⟩ []])) (ho:o.op = .slice T x none (some z) none:=by rfl) (hx:S.ev ⟨tm,st,nx,nt⟩ x=some (.own m i0 len):=by rfl) (hz:S.ev ⟨tm,st,nx,nt⟩ z=some (.int kd' (b:Nat)):=by rfl) (hB:S.blk ⟨tm,st,nx,nt⟩ m=some (.els T' sz (L.map f)):=by rfl) (hg:ax l o ⟨tm,st,nx,nt⟩=some true:=by rfl) (hd:o.dst=some d:=by rfl) (hlt:Nat.blt d nt=true:=by rfl) (hT':nth tb T=some e:=by rfl) (hs:e.sl=some el:=by rfl) (hE:nth tb el=some ee:=by rfl) (hsz:ee.size=sz:=by rfl) (h2:i0+b≤L.length:=by omega):ay P N l K (o::r) ⟨tm,st,nx,nt⟩ tr :=
 aJ hg hd hlt ((uG (ts:=[(z,.int kd' (b:Nat))]) (l:=0) (h:=b) htb ho hT' hs hE hsz rfl ⟨kd',by simp⟩ (Nat.zero_le _) (by simpa using h2)).1 (.inr rfl)) (hT hx (hT hz (hN hB h0))) k
theorem Wj {a:Nat} (htb:aL P tb) (k:ay P N l K r ⟨(d,.own m (i0+a) (b-a))::tm,st,nx,nt⟩ (tr++[aH l o ⟨[(x,.own m i0 len),(y,.int kd (a:Nat)),(z,.int kd' (b:Nat))],[(m,.els T' sz (L.map f))]⟩ []])) (ho:o.op = .slice T x (some y) (some z) none:=by rfl) (hx:S.ev ⟨tm,st,nx,nt⟩ x=some (.own m i0 len):=by rfl) (hy:S.ev ⟨tm,st,nx,nt⟩ y=some (.int kd (a:Nat)):=by rfl) (hz:S.ev ⟨tm,st,nx,nt⟩ z=some (.int kd' (b:Nat)):=by rfl) (hB:S.blk ⟨tm,st,nx,nt⟩ m=some (.els T' sz (L.map f)):=by rfl) (hg:ax l o ⟨tm,st,nx,nt⟩=some true:=by rfl) (hd:o.dst=some d:=by rfl) (hlt:Nat.blt d nt=true:=by rfl) (hT':nth tb T=some e:=by rfl) (hs:e.sl=some el:=by rfl) (hE:nth tb el=some ee:=by rfl) (hsz:ee.size=sz:=by rfl) (h1:a<b:=by omega) (h2:i0+b≤L.length:=by omega):ay P N l K (o::r) ⟨tm,st,nx,nt⟩ tr :=
 aJ hg hd hlt ((uG (ts:=[(y,.int kd (a:Nat)),(z,.int kd' (b:Nat))]) (l:=a) (h:=b) htb ho hT' hs hE hsz ⟨kd,by simp⟩ ⟨kd',by simp⟩ (Nat.le_of_lt h1) (by simpa using h2)).1 (.inl h1)) (hT hx (hT hy (hT hz (hN hB h0)))) k
theorem Z8 {a c:Nat} (htb:aL P tb) (k:ay P N l K r ⟨(d,.own nx (i0+a) (b-a))::tm,st,nx+1,nt⟩ (tr++[aH l o ⟨[(x,.own m i0 len),(y,.int kd (a:Nat)),(z,.int kd' (b:Nat)),(u,.int kd2 (c:Nat))],[(m,.els T' sz (L.map f))]⟩ []])) (ho:o.op = .slice T x (some y) (some z) (some u):=by rfl) (hx:S.ev ⟨tm,st,nx,nt⟩ x=some (.own m i0 len):=by rfl) (hy:S.ev ⟨tm,st,nx,nt⟩ y=some (.int kd (a:Nat)):=by rfl) (hz:S.ev ⟨tm,st,nx,nt⟩ z=some (.int kd' (b:Nat)):=by rfl) (hu:S.ev ⟨tm,st,nx,nt⟩ u=some (.int kd2 (c:Nat)):=by rfl) (hB:S.blk ⟨tm,st,nx,nt⟩ m=some (.els T' sz (L.map f)):=by rfl) (hg:ax l o ⟨tm,st,nx,nt⟩=some true:=by rfl) (hd:o.dst=some d:=by rfl) (hlt:Nat.blt d nt=true:=by rfl) (hT':nth tb T=some e:=by rfl) (hs:e.sl=some el:=by rfl) (hE:nth tb el=some ee:=by rfl) (hsz:ee.size=sz:=by rfl) (h1:a<b:=by omega) (h2:b≤c:=by omega) (h3:i0+c≤L.length:=by omega):ay P N l K (o::r) ⟨tm,st,nx,nt⟩ tr :=
 Yu rfl hg hd hlt (Nf htb ho hT' hs hE hsz h1 h2 (by simpa using h3)) (hT hx (hT hy (hT hz (hT hu (hN hB h0))))) k
theorem GH (f:α→V) (L2:List α) (htb:aL P tb) (k:ay P N l K r ⟨tm,(m,some (.els T' sz (L2.map f)))::st,nx,nt⟩ (tr++[aH l o ⟨[(x,.own m i0 len)],[(m,.els T' sz (L.map f))]⟩ [(m,some (.els T' sz (L2.map f)))]])) (ho:o.op = .call { callee:=.builtin .clear,args := #[x],argTypes := #[T] }:=by rfl) (hx:S.ev ⟨tm,st,nx,nt⟩ x=some (.own m i0 len):=by rfl) (hB:S.blk ⟨tm,st,nx,nt⟩ m=some (.els T' sz (L.map f)):=by rfl) (hg:ax l o ⟨tm,st,nx,nt⟩=some true:=by rfl) (hd:o.dst=none:=by rfl) (hT':nth tb T=some e:=by rfl) (hs:e.sl=some el:=by rfl) (hE:nth tb el=some ee:=by rfl) (hz0:ee.zeroV=some z0:=by rfl) (hzl:z0.cells.length=sz:=by rfl) (h1:0<len:=by omega) (h2:L.take i0=L2:=by first|rfl|assumption):ay P N l K (o::r) ⟨tm,st,nx,nt⟩ tr :=
 BD hg hd (by
  have h:=Qy (P:=P) (N:=N) (n:=m) (i:=i0) (len:=len) (T':=T') (xs:=L.map f) htb ho hT' hs hE hz0 hzl h1
  rw [← List.map_take,h2] at h
  exact h) (hT hx (hN hB h0)) k
theorem Yq (f:α→V) (L2:List α) {j q:Nat} (htb:aL P tb) (k:ay P N l K r ⟨(d,.own m 0 (p+q))::tm,(m,some (.els el sz (L2.map f)))::st,nx,nt⟩ (tr++[aH l o ⟨[(x,.own m 0 p),(y,.own m j q)],[(m,.els el sz (L.map f))]⟩ [(m,some (.els el sz (L2.map f)))]])) (ho:o.op = .call { callee:=.builtin .append,args := #[x,y],argTypes := #[T,T] }:=by rfl) (hx:S.ev ⟨tm,st,nx,nt⟩ x=some (.own m 0 p):=by rfl) (hy:S.ev ⟨tm,st,nx,nt⟩ y=some (.own m j q):=by rfl) (hB:S.blk ⟨tm,st,nx,nt⟩ m=some (.els el sz (L.map f)):=by rfl) (hg:ax l o ⟨tm,st,nx,nt⟩=some true:=by rfl) (hd:o.dst=some d:=by rfl) (hlt:Nat.blt d nt=true:=by rfl) (hT':nth tb T=some e:=by rfl) (hs:e.sl=some el:=by rfl) (hE:nth tb el=some ee:=by rfl) (hsz:ee.size=sz:=by rfl) (h0':0<q:=by omega) (h1:p+q≤L.length:=by omega) (h2:j+q≤L.length:=by omega) (h3:L.take p++((L.drop j).take q++L.drop (p+q))=L2:=by first|rfl|assumption):ay P N l K (o::r) ⟨tm,st,nx,nt⟩ tr :=
 UL hg hd hlt (EP htb ho hT' hs hE hsz (by simpa using h1) (by simpa using h2) h0' (by rw [← h3];simp [List.map_take,List.map_drop])) (hT hx (hT hy (hN hB h0))) k
theorem Y1 (htb:aL P tb) (k:ay P N l K r ⟨(d,.own m 0 p)::tm,st,nx,nt⟩ (tr++[aH l o ⟨[(x,.own m 0 p),(y,.fro [])],[(m,.els T' sz (L.map f))]⟩ []])) (ho:o.op = .call { callee:=.builtin .append,args := #[x,y],argTypes := #[T,T] }:=by rfl) (hx:S.ev ⟨tm,st,nx,nt⟩ x=some (.own m 0 p):=by rfl) (hy:S.ev ⟨tm,st,nx,nt⟩ y=some (.fro []):=by rfl) (hB:S.blk ⟨tm,st,nx,nt⟩ m=some (.els T' sz (L.map f)):=by rfl) (hg:ax l o ⟨tm,st,nx,nt⟩=some true:=by rfl) (hd:o.dst=some d:=by rfl) (hlt:Nat.blt d nt=true:=by rfl) (hT':nth tb T=some e:=by rfl) (hs:e.sl=some el:=by rfl) (hE:nth tb el=some ee:=by rfl) (h1:p≤L.length:=by omega):ay P N l K (o::r) ⟨tm,st,nx,nt⟩ tr :=
 aJ hg hd hlt (Az htb ho hT' hs hE (by simpa using h1)) (hT hx (hT hy (hN hB h0))) k
end
variable {ks:List Nat}
inductive wB:List Nat→List (Nat × Blk)→List (Nat × Option Blk)→Prop
 | nil {bs up}:wB [] bs up
 | cons {n ks bs up b}:lk up n=some (some b)→lk bs n=some b→wB ks bs up→wB (n::ks) bs up
def CF (ks:List Nat):List (Nat × Option Blk)→List (Nat × Option Blk)
 | []=>[]
 | p::r=>bif ks.any (Nat.beq p.1) then CF ks r else p::CF ks r
theorem wB.at {ks:List Nat} {bs:List (Nat × Blk)} {up:List (Nat × Option Blk)} (h:wB ks bs up):∀ n∈ks,∃ b,lk up n=some (some b)∧lk bs n=some b:=by
 induction h with
 | nil=>intro n h;simp at h
 | cons h1 h2 _ ih =>
  intro n h
  rcases List.mem_cons.1 h with rfl|h
  ·exact ⟨_,h1,h2⟩
  ·exact ih n h
theorem any_beq {n:Nat}:ks.any (Nat.beq n)=true↔n∈ks:=by
 rw [List.any_eq_true]
 exact ⟨fun ⟨x,h1,h2⟩=>by rw [Nat.eq_of_beq_eq_true h2];exact h1,fun h=>⟨n,h,by simp⟩⟩
theorem KC {ks:List Nat} {n:Nat}:∀ up:List (Nat × Option Blk),lk (CF ks up) n=if n∈ks then none else lk up n
 | []=>by simp [CF,lk]
 | (k,v)::r=>by
  rw [CF]
  have ih:=KC (ks:=ks) (n:=n) r
  by_cases hk:k∈ks
  ·rw [any_beq.2 hk,cond_true,ih,bW]
   by_cases hn:n∈ks
   ·rw [if_pos hn,if_pos hn]
   ·rw [if_neg hn,if_neg hn,if_neg (fun (e:k=n)=>hn (e ▸ hk))]
  ·have:ks.any (Nat.beq k)=false:=by
    cases h:ks.any (Nat.beq k) with
    | false=>rfl
    | true=>exact absurd (any_beq.1 h) hk
   rw [this,cond_false,bW,bW,ih]
   by_cases e:k=n
   ·subst e;rw [if_pos rfl,if_pos rfl,if_neg hk]
   ·rw [if_neg e,if_neg e]
theorem Tp {P:Program} {N:Env} {o:Oper} {ts:List (Operand × V)} {bs:List (Nat × Blk)} {v:V} {up up2:List (Nat × Option Blk)} {new:List Nat} (h:aC P N o ⟨ts,bs⟩ v up new) (hk:wB ks bs up) (hu:CF ks up=up2):aC P N o ⟨ts,bs⟩ v up2 new:=fun s M A φ a w hh hr hn hd=>by
 subst hu
 refine Oper.wp_mono (fun a' w' ⟨M',φ',h1,h2,h3⟩=>⟨M',φ',h1,h2,h3.as (fun t=>?_) (fun n=>?_) ?_⟩) (h s M A φ a w hh hr hn hd)
 ·rfl
 ·unfold S.blk S.eff
  simp only [Mg,KC]
  by_cases hm:n∈ks
  ·obtain ⟨b,g1,g2⟩:=hk.at n hm
   rw [if_pos hm,g1]
   have:=hh.2 (n,b) (yZ g2)
   unfold S.blk at this
   simpa using this
  ·rw [if_neg hm]
 ·rfl
section
variable {P:Program} {N:Env} {l r:List Oper} {o:Oper} {tm:List (Nat × V)} {st:List (Nat × Option Blk)} {nx nt:Nat} {tr:List Tr} {K:S→List Tr→Prop} {d:Nat}
theorem adr {f nx':Nat} {xs:Array Operand} {ts:Array TypeId} {args vs:List V} {sts bs:List Blk} {rv r2:V} {sts' us:List (Option Blk)} {up up2 st2:List (Nat × Option Blk)} (ns news ks:List Nat) (h:aR P N.g f args sts rv sts') (k:ay P N l K r ⟨(d,r2)::tm,st2,nx',nt⟩ (tr++[aH l o ⟨jm xs.toList vs,uS ns bs⟩ up2])) (ho:o.op = .call { callee:=.value (.func f),args:=xs,argTypes:=ts }:=by rfl) (he:evL ⟨tm,st,nx,nt⟩ xs.toList=some vs:=by rfl) (hargs:jM ns args=some vs:=by rfl) (hg:ax l o ⟨tm,st,nx,nt⟩=some true:=by rfl) (hd:o.dst=some d:=by rfl) (hlt:Nat.blt d nt=true:=by rfl) (hb:dZ P f=true:=by kernel_rfl) (_hnx:nx+news.length=nx':=by rfl) (hbs:yD ⟨tm,st,nx,nt⟩ ns=some bs:=by rfl) (hst:gJ ns sts bs:=by repeat' first|exact gJ.nil|apply gJ.cons|exact cO.same (aT fun _=>rfl)|exact cO.ren rfl|exact cO.sit|exact cO.map (jV fun _=>rfl)|exact cO.map (by assumption)) (hlen:Nat.beq ns.length sts.length=true:=by rfl) (hdis:dO (ns++news)=true:=by rfl) (hlen':Nat.beq (ns++news).length sts'.length=true:=by rfl) (hr2:nW (ns++news) rv=some r2:=by rfl) (hus:dU (ns++news) sts' us:=by repeat' first|exact dU.nil|apply dU.no|apply dU.on|exact cO.same (aT fun _=>rfl)|exact cO.ren rfl|exact cO.sit|exact cO.map (jV fun _=>rfl)|exact cO.map (by assumption)) (hup:yR (ns++news) us=some up:=by rfl) (hks:wB ks (uS ns bs) up:=by repeat' first|exact wB.nil|refine wB.cons rfl rfl ?_) (hup2:CF ks up=up2:=by rfl) (hst2:Ey up2 st=some st2:=by rfl) (hnw:sP nx nx' news=true:=by rfl):ay P N l K (o::r) ⟨tm,st,nx,nt⟩ tr:=r_m (Tp (za ns news ho (enters hb) h hargs (kW he) hst hlen hdis hlen' hr2 hus hup) hks hup2) nx' hnw hg hd hlt (oO he (oL hbs)) hst2 k
end
end Abs
end Go.Proofs.YtlfdjpgghiemfaaGreatDoor
