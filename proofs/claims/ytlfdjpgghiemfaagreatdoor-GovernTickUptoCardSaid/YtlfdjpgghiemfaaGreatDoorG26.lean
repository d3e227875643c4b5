/- Texts of the proof, joined: GovP, Inv, SixtyQ, CoP. -/
import Derived.Test.YtlfdjpgghiemfaaGreatDoorG22
import Derived.Test.YtlfdjpgghiemfaaGreatDoorG25
namespace Go.Proofs.YtlfdjpgghiemfaaGreatDoor
namespace Es
open Abs Scan dh eB Rdy gy gY wS xB uN nU oL nT oC
variable {t:Int} {p:Pol} {now:Int} {f:From} {L:List ah}
theorem Rj.sub {M:List ah} {nx:Int} (h:Rj L nx) (hs:M.Sublist L):Rj M nx :=
 ((wS.Rj.weak h).sub hs).right (Nat.le_trans hs.length_le h.len) fun d=>Nat.le_trans hs.countP_le (h.per d)
def qF (S:List aG) (L:List ah) (nx:Int) (p:Pol) (g:Int) (P:Nat→Bool) (U:List Int) (t:Int):Nat :=
 if fT.bA S≠0 then fT.bA S else if dz L nx≠0 then dz L nx else if gB p≠0 then gB p else if bF.check g U≠0 then bF.check g U else if isJ t=false then 3 else if dF p P U t L=L then 0 else 4
structure OkS (S:List aG) (L:List ah) (nx:Int) (p:Pol) (g:Int) (P:Nat→Bool) (U:List Int) (t:Int):Prop where
 suf:fT.bA S=0
 jar:dz L nx=0
 pol:gB p=0
 con:bF.check g U=0
 day:isJ t=true
 kept:dF p P U t L=L
theorem qc {S:List aG} {nx:Int} {g:Int} {P:Nat→Bool} {U:List Int} (h:qF S L nx p g P U t=0):OkS S L nx p g P U t:=by
 unfold qF at h
 split at h
 ·rename_i q;exact absurd h q
 ·split at h
  ·rename_i q;exact absurd h q
  ·split at h
   ·rename_i q;exact absurd h q
   ·split at h
    ·rename_i q;exact absurd h q
    ·split at h
     ·cases h
     ·split at h
      ·rename_i h1 h2 h3 h4 h5 h6
       exact ⟨by simpa using h1,by simpa using h2,by simpa using h3,by simpa using h4,by simpa using h5,h6⟩
      ·cases h
theorem Fx (p:Pol) (P:Nat→Bool) (U:List Int) (now:Int) (c:ah) (L:List ah):dF p P U now (c::L)=(if qE p P U c=true∧now<(gV p c).expiry then [gV p c] else [])++dF p P U now L:=by
 unfold dF
 rw [List.flatMap_cons]
theorem sG {p:Pol} {P:Nat→Bool} {U:List Int} {t:Int}:∀ {L:List ah},dF p P U t L=L→∀ c∈L,qE p P U c=true∧gV p c=c∧t<c.expiry
 | [],_,c,hc=>by cases hc
 | a::L,h,c,hc=>by
  rw [Fx] at h
  split at h
  ·rename_i q
   have h1:gV p a=a:=(List.cons.inj h).1
   have h2:dF p P U t L=L:=(List.cons.inj h).2
   rcases List.mem_cons.1 hc with rfl|hc
   ·rw [h1] at q
    exact ⟨q.1,h1,q.2⟩
   ·exact sG h2 c hc
  ·have:=wZ (p:=p) (P:=P) (U:=U) (now:=t) L
   rw [List.nil_append] at h
   rw [h,List.length_cons] at this
   omega
theorem yY {p:Pol} {P:Nat→Bool} {U:List Int} {now:Int}:∀ {L:List ah},(∀ c∈L,qE p P U c=true∧gV p c=c)→dF p P U now L=aI now L
 | [],_=>rfl
 | a::L,h=>by
  obtain ⟨h1,h2⟩:=h a List.mem_cons_self
  rw [Fx,yY fun c hc=>h c (List.mem_cons_of_mem _ hc),h1,h2]
  unfold aI
  rw [List.filter_cons]
  by_cases hl:now<a.expiry
  ·rw [if_pos ⟨rfl,hl⟩,if_pos (decide_eq_true hl)];rfl
  ·rw [if_neg (fun q=>hl q.2),if_neg (by simpa using hl)];rfl
theorem U9 {P:Nat→Bool} {U:List Int} (h:dF p P U t L=L) (now:Int):dF p P U now L=aI now L :=
 yY fun c hc=>⟨(sG h c hc).1,(sG h c hc).2.1⟩
theorem w9 (now:Int) (L:List ah):(aI now L).Sublist L:=List.filter_sublist
def goF (f:From) (now:Int) (L:List ah):List ah:=(L.filter fun c=>zN c f now).map fun c=>{ c with used:=now }
theorem WS (f:From) (now:Int) (L:List ah):goF f now (aI now L)=goF f now L:=by
 unfold goF aI
 rw [List.filter_filter]
 congr 1
 apply List.filter_congr
 intro c _
 unfold zN
 by_cases h:now<c.expiry<;>simp [h]
def qB (f:From) (now:Int) (L:List ah):List ah:=jF dJ (goF f now L)
theorem Wq {x:ah}:x∈jF dJ L↔x∈L:=by
 obtain ⟨M,h1,h2,_⟩:=Rs nT.XA L
 rw [← h1,List.mem_map]
 constructor
 ·rintro ⟨p,hp,rfl⟩
  have:=h2.mem_iff.1 hp
  rw [List.mem_zipIdx_iff_getElem?] at this
  exact List.mem_of_getElem? this
 ·intro hx
  obtain ⟨i,hi⟩:=List.mem_iff_getElem?.1 hx
  exact ⟨(x,i),h2.mem_iff.2 (by rw [List.mem_zipIdx_iff_getElem?];exact hi),rfl⟩
theorem XF {x:ah} (h:x∈qB f now L):∃ c∈L,zN c f now=true∧x = { c with used:=now }:=by
 unfold qB at h
 rw [Wq] at h
 obtain ⟨c,hc,rfl⟩:=List.mem_map.1 h
 obtain ⟨h1,h2⟩:=List.mem_filter.1 hc
 exact ⟨c,h1,h2,rfl⟩
theorem UY:(qB f now L).length≤L.length:=by
 unfold qB goF
 rw [F9,List.length_map]
 exact List.length_filter_le _ _
end Es
namespace Abs
open Go.RowKit Mem Facts
section
variable {P:Program} {N:Env} {M:Nat→Prop} {o:Oper} {s:S} {a:Act} {w:World}
variable {xs:Array Operand} {ts:Array TypeId} {name:String} {f:Nat}
def D5 (P:Program) (T:TypeId) (name:String) (f:FuncId):Prop:=∀ (x:Value) (w:World),(Go.method (P.types.size+Made.depth) T x name).run P w = .ok (f,x) w
theorem Y4 {T:TypeId} {g:Operand} {x:Value} (ho:o.op = .call { callee:=.invoke g name,args:=xs,argTypes:=ts }) (hg:a.eval g = .iface T x) (hm:D5 P T name f) (hc:∀ (fs:Array Value) (w:World),(callFunc f fs).run P w = .ok (.enter f fs) w):(execOp a.eval o).run P w = .ok (.enter f (#[x]++xs.map a.eval)) w:=by
 have e1:(#[Value.iface T x]++xs.map a.eval)[0]? = some (.iface T x):=by
  rw [Array.getElem?_append_left (by simp)]
  rfl
 have e2:(#[Value.iface T x]++xs.map a.eval).extract 1 (#[Value.iface T x]++xs.map a.eval).size=xs.map a.eval:=by
  apply Array.ext
  ·simp
  ·intro i h1 h2
   rw [Array.getElem_extract,Array.getElem_append_right (by simp)]
   simp
 have e3:(callMethod (.iface T x) name (xs.map a.eval)).run P w=(callFunc f (#[x]++xs.map a.eval)).run P w:=by
  have hx:(Go.method (P.types.size+100) T x name).run P w = .ok (f,x) w:=hm x w
  simp [callMethod,go_sem]
  rw [hx]
  rfl
 unfold execOp
 simp only [ho,resolve,hg,Sem.run_bind,Sem.run_pure,Result.andThen_ok,invoke,e1,e2]
 rw [e3]
 exact hc _ _
theorem Xf {T:TypeId} {g:Operand} {vs:List V} {v r:V} (ho:o.op = .call { callee:=.invoke g name,args:=xs,argTypes:=ts }) (hm:D5 P T name f) (hc:∀ (fs:Array Value) (w:World),(callFunc f fs).run P w = .ok (.enter f fs) w) (hl:vs.length=xs.size) (h:av P N.g f (v::vs) r) (hn:V.aY (v::vs)=[]):aC P N o ⟨(g,.ifc T v)::je xs.toList vs,[]⟩ r [] []:=fun s M A φ a w hh hr _ hd=>by
 obtain ⟨x,g1,g2⟩:∃ x,a.eval g = .iface T x∧Rep (fun b=>M b∨N b) A φ w v x:=by
  have:=hr.ev hh.a
  generalize a.eval g=y at this
  cases this with
  | fz h=>cases h with
   | ifc h=>exact ⟨_,rfl,.fz h⟩
  | ifc h=>exact ⟨_,rfl,h⟩
 have hh':Holds ⟨je xs.toList vs,[]⟩ s:=⟨fun p hp=>hh.1 p (List.mem_cons_of_mem _ hp),hh.2⟩
 unfold Oper.wp
 rw [Y4 ho g1 hm hc]
 refine Calls.mono (h (fun b=>M b∨N b) w _ hr.gl hr.lim (by simp;omega) fun i u y hu hy=>qh (X:=fun b=>M b∨N b) (A:=A) (φ:=φ) ?_ (List.eq_nil_iff_forall_not_mem.2 fun m hm=>?_)) ?_
 ·rcases i with _|i
  ·rw [Array.getElem?_append_left (by simp)] at hy
   simp at hu hy
   subst hu hy
   exact g2
  ·have hy:(xs.map a.eval)[i]? = some y:=by
    rw [Array.getElem?_append_right (by simp)] at hy
    simpa using hy
   simp only [Array.getElem?_map,Option.map_eq_some_iff] at hy
   obtain ⟨p,hp,rfl⟩:=hy
   exact hr.ev (zY hh' i p u (by simpa using hp) (by simpa using hu))
 ·have:=aB.2 ⟨u,List.mem_of_getElem? hu,hm⟩
  rw [hn] at this;cases this
 ·rintro e w' ⟨x,rfl,hb,hfz⟩
  exact gq hr hb (.fz hfz) hd
end
section
variable {P:Program} {N:Env} {l r:List Oper} {o:Oper} {tm:List (Nat × V)} {st:List (Nat × Option Blk)} {nx nt:Nat} {tr:List Tr} {K:S→List Tr→Prop} {d:Nat}
theorem ZN {f:Nat} {T:TypeId} {name:String} {g:Operand} {xs:Array Operand} {ts:Array TypeId} {vs:List V} {v w:V} (h:av P N.g f (v::vs) w) (hm:D5 P T name f) (k:ay P N l K r ⟨(d,w)::tm,st,nx,nt⟩ (tr++[aH l o ⟨(g,.ifc T v)::je xs.toList vs,[]⟩ []])) (ho:o.op = .call { callee:=.invoke g name,args:=xs,argTypes:=ts }:=by rfl) (hf:S.ev ⟨tm,st,nx,nt⟩ g=some (.ifc T v):=by rfl) (he:evL ⟨tm,st,nx,nt⟩ xs.toList=some vs:=by rfl) (hg:ax l o ⟨tm,st,nx,nt⟩=some true:=by rfl) (hd:o.dst=some d:=by rfl) (hlt:Nat.blt d nt=true:=by rfl) (hb:dR P f=true:=by kernel_rfl) (hn:V.aY (v::vs)=[]:=by rfl):ay P N l K (o::r) ⟨tm,st,nx,nt⟩ tr:=aJ hg hd hlt (Xf ho hm (enters hb) (kM he) h hn) (hT hf (nS he fun p hp=>by cases hp)) k
end
def cellV:V→Bool
 | .agg _=>false
 | _=>true
theorem KU {cs:List V} (h:cs.all cellV=true):∀ u∈cs,u.cells=[u]:=fun u hu=>by
 have:=List.all_eq_true.1 h u hu
 cases u<;>first|rfl|cases this
section
variable {P:Program} {tb:List Ty} {e ee:Ty} {N:Env} {l r:List Oper} {o:Oper} {tm:List (Nat × V)} {st:List (Nat × Option Blk)} {nx nt:Nat} {tr:List Tr} {K:S→List Tr→Prop} {d:Nat} {T:TypeId} {x:Operand}
variable {off:Nat} {cs:List V}
theorem ZM {len el:Nat} (htb:aL P tb) (k:ay P N l K r ⟨(d,.fro ((cs.drop off).take len))::tm,st,nx,nt⟩ (tr++[aH l o ⟨[(x,.fp cs off)],[]⟩ []])) (ho:o.op = .slice T x none none none:=by rfl) (hx:S.ev ⟨tm,st,nx,nt⟩ x=some (.fp cs off):=by rfl) (hg:ax l o ⟨tm,st,nx,nt⟩=some true:=by rfl) (hd:o.dst=some d:=by rfl) (hlt:Nat.blt d nt=true:=by rfl) (hT':nth tb T=some e:=by rfl) (hs:e.arr=some (len,el):=by rfl) (hE:nth tb el=some ee:=by rfl) (h1:ee.size=1:=by rfl) (h0':Nat.blt 0 len=true:=by rfl) (hl:Nat.ble len LIM=true:=by rfl) (hc:Nat.ble (off+len) cs.length=true:=by rfl) (hone:cs.all cellV=true:=by rfl):ay P N l K (o::r) ⟨tm,st,nx,nt⟩ tr:=aJ hg hd hlt (yB htb ho hT' hs hE h1 (Nat.le_of_ble_eq_true h0') (Nat.le_of_ble_eq_true hl) (Nat.le_of_ble_eq_true hc) (KU hone)) (hT hx h0) k
theorem O4 {w:V} (htb:aL P tb) (hv:kY cs off e.agg e.size=some w) (k:ay P N l K r ⟨(d,w)::tm,st,nx,nt⟩ (tr++[aH l o ⟨[(x,.fp cs off)],[]⟩ []])) (ho:o.op = .load T x:=by rfl) (hx:S.ev ⟨tm,st,nx,nt⟩ x=some (.fp cs off):=by rfl) (hg:ax l o ⟨tm,st,nx,nt⟩=some true:=by rfl) (hd:o.dst=some d:=by rfl) (hlt:Nat.blt d nt=true:=by rfl) (hT':nth tb T=some e:=by rfl):ay P N l K (o::r) ⟨tm,st,nx,nt⟩ tr:=aJ hg hd hlt (zG htb ho hT' hv) (hT hx h0) k
end
inductive zT (k:Nat):List V→List V→Prop
 | nil:zT k [] []
 | same {v vs us}:zT k vs us→zT k (v::vs) (v::us)
 | at {n vs us}:n<k→zT k vs us→zT k (.nils::vs) (.own n 0 0::us)
 | agg {cs ds vs us}:zT k cs ds→zT k vs us→zT k (.agg cs::vs) (.agg ds::us)
section
variable {X A:Nat→Prop} {φ:Nat→Pl} {w:World}
end
theorem zD {P:Program} {g:iJ} {f:FuncId} {args:List V} {rv u:V} {bs:List Blk} (h:aR P g f args [] rv (bs.map some)) (hf:frz (fun n=>bs[n]?) rv=some u) (hok:ru (fun n=>bs[n]?) rv):av P g f args u:=fun N w vs hG hN hlen hv=>by
 have hblk:∀ n k,(S.mk [] (gJ bs 0) bs.length 0).blk n=some k↔bs[n]? = some k:=fun n k=>by
  unfold S.blk
  simp only [Au,Nat.zero_le,if_true,Nat.sub_zero]
  cases bs[n]? <;> simp
 refine Calls.mono (h N (fun _=>False) (fun _=>⟨none,0,0⟩) w vs ⟨fun n k hk=>by simp at hk,fun n n' k k' b e1=>by simp at e1,fun b hb=>hN b (hb.elim False.elim id),fun b hb=>hb.elim,hG.sub fun b hb=>hb.elim False.elim id⟩ hlen fun i v x hv' hx=>.fz ((hv i v x hv' hx).mono (fun b _ hb=>hb.elim False.elim id) (.refl _ w))) ?_
 rintro e w' ⟨x,M2,φ2,rfl,hs,hM,_,rows2,hrep⟩
 have at2:∀ n k,bs[n]? = some k→(bs.map some)[n]? = some (some k):=fun n k hk=>by rw [List.getElem?_map,hk];rfl
 have rel:Rel ⟨⟨N,g⟩,0,fun _=>⟨none,0,0⟩,[]⟩ M2 (· < (bs.map some).length) φ2 ⟨[],gJ bs 0,bs.length,0⟩ ⟨#[],[]⟩ w' :=
  ⟨fun t v ht=>by simp [lk] at ht,rfl,fun n k hk=>rows2.st n k (at2 n k ((hblk n k).1 hk)),fun n n' k k' b e1 e2=>rows2.inj n n' k k' b (at2 n k ((hblk n k).1 e1)) (at2 n' k' ((hblk n' k').1 e2)),rows2.lim,rows2.dis,rfl,fun n hn=>by exact absurd hn (Nat.not_lt_zero n),rows2.gl⟩
 exact ⟨x,rfl,hs.below,rel.frz (b:=fun n=>bs[n]?) (fun n k hk=>(hblk n k).2 hk) hrep hf hok⟩
end Abs
namespace mU
open gH jO
variable {t:List UInt8}
def place (c:UInt8):Nat:=abc.idxOf c
theorem SI (p:UInt8→Bool) (h:∀ m:Fin 256,p (UInt8.ofNat m.val)=true) (c:UInt8):p c=true:=by
 have:=h ⟨c.toNat,c.toNat_lt⟩
 simpa using this
theorem Ht (c:UInt8) (h:place c<64):letter (place c)=c:=by
 have:=SI (fun c => !decide (place c<64)||letter (place c)==c) (by decide +kernel) c
 simpa [h] using this
theorem Kq (c:UInt8):Lib.indexByte abc c=if place c<64 then (place c:Int) else -1:=by
 have:=SI (fun c=>Lib.indexByte abc c==if place c<64 then (place c:Int) else -1) (by decide +kernel) c
 simpa using this
def known (t:List UInt8):Bool:=t.all fun c=>decide (place c<64)
def bZ (t:List UInt8):List Nat:=t.flatMap fun c=>bitsOf (place c) 6
theorem Df (c:UInt8) (t:List UInt8):bZ (c::t)=bitsOf (place c) 6++bZ t:=rfl
theorem Rt (a b:List UInt8):bZ (a++b)=bZ a++bZ b:=by simp [bZ]
theorem uz (t:List UInt8):(bZ t).length=6*t.length:=by
 induction t with
 | nil=>rfl
 | cons c l ih=>rw [Df,List.length_append,bE,ih,List.length_cons];omega
theorem yZ (t:List UInt8):Bin (bZ t):=by
 intro b hb
 simp only [bZ,List.mem_flatMap] at hb
 obtain ⟨c,_,hb⟩:=hb
 exact bT _ _ b hb
theorem Nc (t:List UInt8) (h:known t=true):pM (bZ t)=t:=by
 induction t with
 | nil=>rfl
 | cons c l ih =>
  simp only [known,List.all_cons,Bool.and_eq_true,decide_eq_true_eq] at h
  rw [Df,DT _ _ (bE _ _),CW,Nat.mod_eq_of_lt (by simpa using h.1),Ht c h.1,ih h.2]
theorem Sb (l:List Nat) (h:Bin l):bitsOf (num l) l.length=l:=by
 revert h
 refine lN (p:=fun l=>Bin l→bitsOf (num l) l.length=l) (fun _=>rfl) (fun l b ih h=>?_) l
 have h1:=ih h.left
 have h2:b<2:=h b (by simp)
 have key:∀ (w n b:Nat),b<2→bitsOf (2*n+b) (w+1)=bitsOf n w++[b]:=by
  intro w
  induction w with
  | zero=>intro n b hb;simp [bitsOf];omega
  | succ w ihw =>
   intro n b hb
   rw [bitsOf,ihw n b hb,bitsOf]
   simp only [List.cons_append,List.cons.injEq,and_true]
   rw [Nat.pow_succ,Nat.mul_comm (2^w) 2,← Nat.div_div_eq_div_mul]
   congr 2;omega
 rw [kF,List.length_append,List.length_singleton,key _ _ _ h2,h1]
def LZ (l:List Nat):List Nat:=l++List.replicate ((6-l.length % 6) % 6) 0
theorem ze (l:List Nat) (k:Nat):num (l++List.replicate k 0)=num l*2^k:=by
 induction k with
 | zero=>simp
 | succ k ih=>rw [List.replicate_succ',← List.append_assoc,kF,ih,Nat.pow_succ];rw [Nat.add_zero,Nat.mul_comm 2,Nat.mul_assoc]
theorem Jo (l:List Nat) (h0:l≠[]) (h:l.length≤6):pM l=[letter (num (l++List.replicate (6-l.length) 0))]:=by
 have hl:0<l.length:=List.length_pos_iff.2 h0
 rw [tH l h0,Nat.min_eq_right h,List.take_length,List.drop_length,ze];rfl
theorem KL:∀ (n:Nat) (l:List Nat),l.length≤n→pM (LZ l)=pM l
 | 0,l,h=>by
  obtain rfl:l=[]:=List.eq_nil_of_length_eq_zero (by omega)
  rfl
 | n+1,l,h=>by
  by_cases h0:l=[]
  ·subst h0;rfl
  ·have hl:0<l.length:=List.length_pos_iff.2 h0
   by_cases h6:l.length<6
   ·have e:(6-l.length % 6) % 6=6-l.length:=by omega
    unfold LZ
    rw [e,Jo l h0 (by omega),Jo _ (by simp [h0]) (by simp;omega)]
    simp only [List.length_append,List.length_replicate]
    rw [show 6-(l.length+(6-l.length))=0 from by omega];simp
   ·have ht:(l.take 6).length=6:=by rw [List.length_take];omega
    have hs:l=l.take 6++l.drop 6:=(List.take_append_drop 6 l).symm
    have e:LZ l=l.take 6++LZ (l.drop 6):=by
     unfold LZ
     rw [← List.append_assoc,← hs,List.length_drop];congr 2;omega
    rw [e,DT _ _ ht,KL n (l.drop 6) (by rw [List.length_drop];omega)]
    conv=>{ rhs;rw [hs,DT _ _ ht] }
def bD (t:List UInt8):List UInt8 × Nat :=
 if known t=false then ([],1)
 else if t.length % 4=1 then ([],1)
 else if 400<t.length*6/8 then ([],2)
 else if num ((bZ t).drop (8*(t.length*6/8)))≠0 then ([],1)
 else ((aZ ((bZ t).take (8*(t.length*6/8)))).map UInt8.ofNat,0)
theorem RH (a b:List UInt8):aF (a++b)=aF a++aF b:=by simp [aF]
theorem Cu (l:List Nat) (j:Nat) (h:8*j+8≤l.length):bH l j=num ((l.drop (8*j)).take 8):=by
 have e:∀ i,i<8→l.getD (8*j+i) 0=((l.drop (8*j)).take 8).getD i 0:=fun i hi=>by
  simp only [List.getD_eq_getElem?_getD]
  rw [List.getElem?_take_of_lt hi,List.getElem?_drop]
 have hl:((l.drop (8*j)).take 8).length=8:=by rw [List.length_take,List.length_drop];omega
 unfold bH
 rw [show 8*j=8*j+0 from rfl,e 0 (by omega),Nat.add_zero,e 1 (by omega),e 2 (by omega),e 3 (by omega),e 4 (by omega),e 5 (by omega),e 6 (by omega),e 7 (by omega)]
 generalize (l.drop (8*j)).take 8=m at hl
 match m,hl with
 | [a,b,c,d,e,f,g,h],_=>simp [num];omega
theorem NW (s:List UInt8):(aZ (aF s)).map UInt8.ofNat=s:=by
 have hl:=fK s
 apply List.ext_getElem
 ·simp [dD,hl];omega
 ·intro i h1 h2
  have h3:(aF s).drop (8*i)=aF (s.drop i):=by
   conv=>{ lhs;rw [← List.take_append_drop i s,RH] }
   rw [List.drop_left' (by rw [fK,List.length_take];omega)]
  simp only [aZ,List.getElem_map,List.getElem_range]
  rw [Cu _ _ (by omega),h3,List.drop_eq_getElem_cons h2]
  have h4:aF (s[i]::s.drop (i+1))=bitsOf s[i].toNat 8++aF (s.drop (i+1)):=rfl
  rw [h4,List.take_left' (bE _ _),CW,Nat.mod_eq_of_lt (by simpa using s[i].toNat_lt)]
  simp
theorem I7 (l:List Nat) (k:Nat) (hb:Bin l) (h:l.length=8*k):aF ((aZ l).map UInt8.ofNat)=l:=by
 have key:∀ (k:Nat) (l:List Nat),Bin l→l.length=8*k→∃ s:List UInt8,l=aF s:=by
  intro k
  induction k with
  | zero=>intro l _ h;exact ⟨[],List.eq_nil_of_length_eq_zero (by omega)⟩
  | succ k ih =>
   intro l hb h
   have ht:(l.take 8).length=8:=by rw [List.length_take];omega
   have hs:l=l.take 8++l.drop 8:=(List.take_append_drop 8 l).symm
   rw [hs] at hb
   obtain ⟨s,hs2⟩:=ih (l.drop 8) hb.right (by rw [List.length_drop];omega)
   have h1:=pu hb.left
   have h2:=Sb _ hb.left
   rw [ht] at h1 h2
   refine ⟨UInt8.ofNat (num (l.take 8))::s,?_⟩
   have e:aF (UInt8.ofNat (num (l.take 8))::s)=bitsOf (UInt8.ofNat (num (l.take 8))).toNat 8++aF s:=rfl
   rw [e,UInt8.toNat_ofNat',Nat.mod_eq_of_lt (by simpa using h1),h2,← hs2,← hs]
 obtain ⟨s,rfl⟩:=key k l hb h
 rw [NW]
theorem VG (l:List Nat) (h:num l=0):l=List.replicate l.length 0:=by
 revert h
 refine lN (p:=fun l=>num l=0→l=List.replicate l.length 0) (fun _=>rfl) (fun l b ih h=>?_) l
 rw [kF] at h
 have h1:=ih (by omega)
 have h2:b=0:=by omega
 subst h2
 rw [List.length_append,List.length_singleton,List.replicate_succ',← h1]
theorem A9 (t:List UInt8) (h:(bD t).2=0):(bD t).1.length≤400∧pM (aF (bD t).1)=t:=by
 unfold bD at h ⊢
 by_cases h1:known t=false
 ·rw [if_pos h1] at h;cases h
 ·rw [if_neg h1] at h ⊢
  by_cases h2:t.length % 4=1
  ·rw [if_pos h2] at h;cases h
  ·rw [if_neg h2] at h ⊢
   by_cases h3:400<t.length*6/8
   ·rw [if_pos h3] at h;cases h
   ·rw [if_neg h3] at h ⊢
    by_cases h4:num ((bZ t).drop (8*(t.length*6/8)))≠0
    ·rw [if_pos h4] at h;cases h
    ·rw [if_neg h4]
     have hk:known t=true:=by simpa using h1
     have hn:num ((bZ t).drop (8*(t.length*6/8)))=0:=by omega
     have hl:=uz t
     have hz:=VG _ hn
     rw [List.length_drop,hl] at hz
     have ht:((bZ t).take (8*(t.length*6/8))).length=8*(t.length*6/8):=by rw [List.length_take,hl];omega
     have hb:=yZ t
     have hs:bZ t=(bZ t).take (8*(t.length*6/8))++(bZ t).drop (8*(t.length*6/8)):=(List.take_append_drop _ _).symm
     have hb':=hb
     rw [hs] at hb'
     have hp:LZ ((bZ t).take (8*(t.length*6/8)))=bZ t:=by
      conv=>{ rhs;rw [hs,hz] }
      unfold LZ
      rw [ht];congr 2
      have hq:t.length % 4=0∨t.length % 4=2∨t.length % 4=3:=by omega
      rcases hq with hq|hq|hq<;>omega
     refine ⟨by rw [List.length_map,dD,ht];omega,?_⟩
     rw [I7 _ _ hb'.left ht,← KL _ _ (Nat.le_refl _),hp,Nc t hk]
theorem Ry (t:List UInt8) (h:(bD t).2≠0):(bD t).1=[]:=by
 unfold bD at h ⊢
 repeat' split
 all_goals first|rfl|(exfalso;simp_all)
theorem VL (l:List Nat) (k i:Nat):(l++List.replicate k 0).getD i 0=l.getD i 0:=by
 simp only [List.getD_eq_getElem?_getD]
 by_cases h:i<l.length
 ·rw [List.getElem?_append_left h]
 ·rw [List.getElem?_append_right (by omega),List.getElem?_eq_none (l:=l) (by omega)]
  by_cases h2:i-l.length<k
  ·rw [List.getElem?_eq_getElem (by simpa using h2),List.getElem_replicate];rfl
  ·rw [List.getElem?_eq_none (by simp;omega)]
theorem M7 (l:List Nat) (k j:Nat):bH (l++List.replicate k 0) j=bH l j:=by
 unfold bH;simp only [VL]
theorem QG (l:List Nat) (_h:l.length % 8≠0):bH l (l.length/8)=num (l.drop (8*(l.length/8)))*2^(8-l.length % 8):=by
 rw [← M7 l (8-l.length % 8),Cu _ _ (by simp;omega),List.drop_append_of_le_length (by omega),List.take_of_length_le (by simp;omega),ze]
theorem getD_take (l:List Nat) (n i:Nat) (h:i<n):(l.take n).getD i 0=l.getD i 0:=by
 simp only [List.getD_eq_getElem?_getD]
 rw [List.getElem?_take_of_lt h]
theorem PY (l:List Nat) (m:Nat) (h:8*m≤l.length):(aZ l).take m=aZ (l.take (8*m)):=by
 apply List.ext_getElem
 ·rw [List.length_take,dD,dD,List.length_take];omega
 ·intro i h1 h2
  have hi:i<m:=by rw [List.length_take] at h1;omega
  rw [List.getElem_take]
  simp only [aZ,List.getElem_map,List.getElem_range]
  unfold bH
  rw [getD_take _ _ _ (by omega),getD_take _ _ _ (by omega),getD_take _ _ _ (by omega),getD_take _ _ _ (by omega),getD_take _ _ _ (by omega),getD_take _ _ _ (by omega),getD_take _ _ _ (by omega),getD_take _ _ _ (by omega)]
theorem Rz (l:List Nat):(aZ l).drop (l.length/8)=if l.length % 8=0 then [] else [bH l (l.length/8)]:=by
 by_cases h:l.length % 8=0
 ·rw [if_pos h,List.drop_of_length_le (by rw [dD];omega)]
 ·rw [if_neg h]
  have hl:l.length/8<(aZ l).length:=by rw [dD];omega
  rw [List.drop_eq_getElem_cons hl,List.drop_of_length_le (by rw [dD];omega)]
  simp [aZ]
theorem RF (l:List Nat) (hb:Bin l):Lib.trimB (((aZ l).map UInt8.ofNat).drop (l.length/8)) 0=[]↔num (l.drop (8*(l.length/8)))=0:=by
 rw [← List.map_drop,Rz]
 by_cases h:l.length % 8=0
 ·rw [if_pos h,List.drop_of_length_le (by omega)];exact ⟨fun _=>rfl,fun _=>rfl⟩
 ·rw [if_neg h,List.map_singleton]
  have hlt:=lG hb (l.length/8)
  have e:=QG l h
  have hp:0<2^(8-l.length % 8):=Nat.two_pow_pos _
  generalize bH l (l.length/8)=x at e hlt
  generalize num (l.drop (8*(l.length/8)))=y at e
  generalize 2^(8-l.length % 8)=z at e hp
  by_cases hx:x=0
  ·subst hx
   have:y=0:=by rcases Nat.mul_eq_zero.1 e.symm with h|h<;>omega
   exact ⟨fun _=>this,fun _=>by decide⟩
  ·have hy:y≠0:=by rintro rfl;simp at e;exact hx e
   refine ⟨fun h=>?_,fun h=>absurd h hy⟩
   have hne:(UInt8.ofNat x==0)=false:=by
    rw [beq_eq_false_iff_ne];intro he
    have:=congrArg UInt8.toNat he
    rw [UInt8.toNat_ofNat'] at this
    simp at this;omega
   simp [Lib.trimB,Lib.trimLeftB,Lib.trimRightB,hne] at h
theorem yt (a b:List UInt8):known (a++b)=(known a&&known b):=by simp [known]
theorem V7 (h:known t=false):bD t=([],1):=by unfold bD;rw [if_pos h]
theorem Wu (h:known t=true) (h1:t.length % 4=1):bD t=([],1):=by unfold bD;rw [if_neg (by rw [h];decide),if_pos h1]
theorem PG (h:known t=true) (h1:¬ t.length % 4=1) (h2:400<t.length*6/8):bD t=([],2):=by unfold bD;rw [if_neg (by rw [h];decide),if_neg h1,if_pos h2]
theorem RG (h:known t=true) (h1:¬ t.length % 4=1) (h2:¬ 400<t.length*6/8) (h3:¬ num ((bZ t).drop (8*(t.length*6/8)))=0):bD t=([],1):=by unfold bD;rw [if_neg (by rw [h];decide),if_neg h1,if_neg h2,if_pos h3]
theorem Yl (h:known t=true) (h1:¬ t.length % 4=1) (h2:¬ 400<t.length*6/8) (h3:num ((bZ t).drop (8*(t.length*6/8)))=0):bD t=(((aZ (bZ t)).map UInt8.ofNat).take (t.length*6/8),0):=by
 have hl:=uz t
 unfold bD;rw [if_neg (by rw [h];decide),if_neg h1,if_neg h2,if_neg (by simpa using h3),← List.map_take,PY _ _ (by omega)]
end mU
section
namespace GZ
open gH jO mU
theorem Oo {α:Type} {p:List α→Prop} (h0:p []) (h1:∀ l b,p l→p (l++[b])):∀ l,p l:=fun l=>by
 have key:∀ r:List α,p r.reverse:=fun r=>by
  induction r with
  | nil=>exact h0
  | cons b r ih=>rw [List.reverse_cons];exact h1 _ _ ih
 have:=key l.reverse
 rwa [List.reverse_reverse] at this
def wL (u:Nat):List (Nat × Nat)→List (Nat × Nat)
 | []=>[(u,u)]
 | (a,b)::r=>if a=u+1 then (u,b)::r else (u,u)::(a,b)::r
def iE:List (Nat × Nat)→Nat→List (Nat × Nat)
 | [],v=>[(v,v)]
 | [(a,b)],v=>if b+1=v then [(a,v)] else [(a,b),(v,v)]
 | p::q::r,v=>p::iE (q::r) v
def dV:List Nat→List (Nat × Nat)
 | []=>[]
 | u::l=>wL u (dV l)
theorem Ri (u v:Nat):∀ r:List (Nat × Nat),iE (wL u r) v=wL u (iE r v)
 | []=>by
  simp only [wL,iE]
  by_cases h:u+1=v
  ·rw [if_pos h,if_pos h.symm]
  ·rw [if_neg h,if_neg fun e=>h e.symm]
 | [(a,b)]=>by
  simp only [wL,iE]
  by_cases h1:a=u+1<;>by_cases h2:b+1=v<;>simp [h1,h2,iE]
 | (a,b)::q::r=>by
  simp only [wL,iE]
  by_cases h1:a=u+1<;>simp [h1,iE]
theorem ug:∀ (l:List Nat) (v:Nat),dV (l++[v])=iE (dV l) v
 | [],v=>rfl
 | u::l,v=>by rw [List.cons_append,dV,dV,ug l v,Ri]
theorem Bz:∀ (d:List (Nat × Nat)) (a b v:Nat),iE (d++[(a,b)]) v=if b+1=v then d++[(a,v)] else d++[(a,b)]++[(v,v)]
 | [],a,b,v=>by simp [iE]
 | [p],a,b,v=>by
  show p::iE [(a,b)] v=_
  simp only [iE]
  split<;>rfl
 | p::q::d,a,b,v=>by
  have:=Bz (q::d) a b v
  show p::iE (q::(d++[(a,b)])) v=_
  rw [show q::(d++[(a,b)])=(q::d)++[(a,b)] from rfl,this]
  split<;>rfl
theorem RL {U:List Nat} {k v:Nat} (h:U[k]? = some v):dV (U.take (k+1))=iE (dV (U.take k)) v:=by
 rw [List.take_add_one,h]
 exact ug _ _
theorem Qf (u:Nat):∀ r,(wL u r).length≤r.length+1
 | []=>by simp [wL]
 | (a,b)::r=>by simp only [wL];split<;>simp
theorem xY:∀ U:List Nat,(dV U).length≤U.length
 | []=>Nat.le_refl _
 | u::l=>by
  have h1:=Qf u (dV l)
  have h2:=xY l
  rw [dV,List.length_cons];omega
theorem Ga {p:Nat→Prop} (v:Nat) (hv:p v):∀ r:List (Nat × Nat),(∀ x∈r,p x.1∧p x.2)→∀ x∈iE r v,p x.1∧p x.2
 | [],_,x,hx=>by simp only [iE,List.mem_singleton] at hx;subst hx;exact ⟨hv,hv⟩
 | [(a,b)],h,x,hx=>by
  have:=h (a,b) (List.mem_singleton.2 rfl)
  simp only [iE] at hx
  split at hx
  ·simp only [List.mem_singleton] at hx;subst hx;exact ⟨this.1,hv⟩
  ·simp only [List.mem_cons,List.not_mem_nil,or_false] at hx
   rcases hx with rfl|rfl
   ·exact this
   ·exact ⟨hv,hv⟩
 | y::q::r,h,x,hx=>by
  simp only [iE,List.mem_cons] at hx
  rcases hx with rfl|hx
  ·exact h _ (List.mem_cons_self ..)
  ·exact Ga v hv (q::r) (fun z hz=>h z (List.mem_cons_of_mem _ hz)) x (by simpa using hx)
theorem Ji {p:Nat→Prop} (U:List Nat) (h:∀ v∈U,p v):∀ x∈dV U,p x.1∧p x.2:=by
 refine Oo (p:=fun U=>(∀ v∈U,p v)→∀ x∈dV U,p x.1∧p x.2) (fun _ x hx=>by cases hx) (fun l b ih h=>?_) U h
 rw [ug]
 exact Ga b (h b (by simp)) _ (ih fun v hv=>h v (List.mem_append_left _ hv))
def lastOf (U:List Nat):Nat:=U.getLast?.getD 0
theorem EZ (v:Nat):∀ r,((iE r v).getLast?.map Prod.snd)=some v
 | []=>rfl
 | [(a,b)]=>by simp only [iE];split<;>rfl
 | p::q::r=>by
  have h:=EZ v (q::r)
  simp only [iE]
  have hne:iE (q::r) v≠[]:=fun e=>by rw [e] at h;cases h
  rw [List.getLast?_cons_of_ne_nil hne]
  exact h
theorem RI (U:List Nat):((dV U).getLast?.map Prod.snd).getD 0=lastOf U:=by
 refine Oo (p:=fun U=>((dV U).getLast?.map Prod.snd).getD 0=lastOf U) rfl (fun l b _=>?_) U
 rw [ug,EZ,lastOf]
 simp
def oh (p:Nat × Nat):Nat:=if p.1=p.2 then 7 else 13
def nu (p:Nat × Nat):List Nat:=(!decide (p.1=p.2)).toNat::(bitsOf p.1 6++if p.1=p.2 then [] else bitsOf p.2 6)
theorem Ll (p:Nat × Nat):(nu p).length=oh p:=by
 unfold nu oh
 split<;>simp [bE]
def sizes (r:List (Nat × Nat)):Nat:=r.foldl (fun n p=>n+oh p) 0
theorem vE (r:List (Nat × Nat)) (p:Nat × Nat):sizes (r++[p])=sizes r+oh p:=by unfold sizes;rw [List.foldl_append];rfl
def bY (r:List (Nat × Nat)):List Nat:=r.flatMap nu
theorem uQ (r:List (Nat × Nat)) (p:Nat × Nat):bY (r++[p])=bY r++nu p:=by simp [bY]
theorem wI (r:List (Nat × Nat)):(bY r).length=sizes r:=by
 refine Oo (p:=fun r=>(bY r).length=sizes r) rfl (fun r p ih=>?_) r
 rw [uQ,vE,List.length_append,ih,Ll]
theorem Dj (r:List (Nat × Nat)):sizes r≤13*r.length:=by
 refine Oo (p:=fun r=>sizes r≤13*r.length) (Nat.le_refl _) (fun r p ih=>?_) r
 rw [vE,List.length_append,List.length_singleton]
 have:oh p≤13:=by unfold oh;split<;>omega
 omega
theorem nZ (b:Bool):b.toNat<2:=by cases b<;>decide
theorem sZ {b:Nat} {l:List Nat} (h:b<2) (hl:Bin l):Bin (b::l):=fun x hx=>by
 rcases List.mem_cons.1 hx with rfl|hx
 ·exact h
 ·exact hl x hx
theorem Jj (p:Nat × Nat):Bin (nu p):=by
 unfold nu
 refine sZ (nZ _) ((bT _ _).app ?_)
 split
 ·exact xQ
 ·exact bT _ _
theorem xO (r:List (Nat × Nat)):Bin (bY r):=fun b hb=>by
 obtain ⟨p,_,hp⟩:=List.mem_flatMap.1 hb
 exact Jj p b hp
def jw (U:List Nat) (n:Nat):List Nat:=(List.range n).map fun i=>(U.contains (i+1)).toNat
theorem IW (U:List Nat) (n:Nat):jw U (n+1)=jw U n++[(U.contains (n+1)).toNat]:=by simp [jw,List.range_succ]
theorem zH (U:List Nat) (n:Nat):(jw U n).length=n:=by simp [jw]
theorem zF (U:List Nat) (n:Nat):Bin (jw U n):=fun b hb=>by
 obtain ⟨i,_,rfl⟩:=List.mem_map.1 hb
 exact nZ _
def Hf (U:List Nat):List Nat:=1::(bitsOf (dV U).length 6++bY (dV U))
def HV (U:List Nat):List Nat:=0::jw U (lastOf U)
def short (U:List Nat):Bool:=decide (6+sizes (dV U)<lastOf U)
def mH (U:List Nat):List Nat:=bif short U then Hf U else HV U
theorem Nl (U:List Nat):(Hf U).length=7+sizes (dV U):=by simp [Hf,bE,wI];omega
theorem M4 (U:List Nat):(HV U).length=1+lastOf U:=by simp [HV,zH];omega
theorem H8 (U:List Nat):(mH U).length≤1+lastOf U:=by
 unfold mH
 cases h:short U with
 | false=>rw [cond_false,M4];exact Nat.le_refl _
 | true =>
  rw [cond_true,Nl]
  unfold short at h
  have:=of_decide_eq_true h
  omega
theorem GI (U:List Nat):Bin (mH U):=by
 unfold mH
 cases short U with
 | true=>exact sZ (by decide) ((bT _ _).app (xO _))
 | false=>exact sZ (by decide) (zF _ _)
def dn (P:Nat→Bool) (n:Nat):List Nat:=(List.range n).map fun i=>(P i).toNat
theorem EL (P:Nat→Bool) (n:Nat):dn P (n+1)=dn P n++[(P n).toNat]:=by simp [dn,List.range_succ]
theorem wK (P:Nat→Bool) (n:Nat):(dn P n).length=n:=by simp [dn]
theorem wB (P:Nat→Bool) (n:Nat):Bin (dn P n):=fun b hb=>by
 obtain ⟨i,_,rfl⟩:=List.mem_map.1 hb
 exact nZ _
def oU (g:Nat) (P:Nat→Bool) (U:List Nat):List Nat:=bitsOf 1 6++bitsOf g 36++dn P 10++bitsOf (lastOf U) 6
def jr (g:Nat) (P:Nat→Bool) (U:List Nat):List Nat:=oU g P U++mH U
theorem Gp (g:Nat) (P:Nat→Bool) (U:List Nat):(oU g P U).length=58:=by simp [oU,bE,wK]
theorem Iz (g:Nat) (P:Nat→Bool) (U:List Nat):Bin (oU g P U):=(((bT _ _).app (bT _ _)).app (wB _ _)).app (bT _ _)
theorem J8 (g:Nat) (P:Nat→Bool) (U:List Nat):Bin (jr g P U):=(Iz g P U).app (GI U)
theorem J9 (g:Nat) (P:Nat→Bool) (U:List Nat):(jr g P U).length≤59+lastOf U:=by
 unfold jr
 rw [List.length_append,Gp]
 have:=H8 U
 omega
def KG (l:List Nat):List UInt8:=(aZ l).map UInt8.ofNat
theorem E5 (l:List Nat):(KG l).length=(l.length+7)/8:=by simp [KG,dD]
def uF (g:Nat) (P:Nat→Bool) (U:List Nat):List UInt8:=pM (aF (KG (jr g P U)))
def qw (U:List Nat):Prop:=U.Pairwise (· < ·)∧∀ v∈U,1≤v∧v≤40
theorem FP {U:List Nat} (h:qw U):lastOf U≤40:=by
 unfold lastOf
 cases hl:U.getLast? with
 | none=>simp
 | some v=>exact (h.2 v (List.mem_of_getLast? hl)).2
theorem Gd:∀ (U:List Nat) (a:Nat),U.Pairwise (· < ·)→(∀ v∈U,a≤v∧v≤40)→a≤41→U.length+a≤41
 | [],a,_,_,ha=>by simp only [List.length_nil];omega
 | u::l,a,h,hr,_=>by
  obtain ⟨h1,h2⟩:=List.pairwise_cons.1 h
  have hu:=hr u (List.mem_cons_self ..)
  have:=Gd l (u+1) h2 (fun v hv=>⟨h1 v hv,(hr v (List.mem_cons_of_mem _ hv)).2⟩) (by omega)
  rw [List.length_cons];omega
theorem tY {U:List Nat} (h:qw U):U.length≤40:=by
 have:=Gd U 1 h.1 h.2 (by omega)
 omega
theorem OC:∀ (U:List Nat) (i:Nat),U.Pairwise (· < ·)→i<lastOf U→∃ h,U[(U.takeWhile (fun x=>decide (x≤i))).length]? = some h∧decide (h=i+1)=U.contains (i+1)∧(U.takeWhile (fun x=>decide (x≤i+1))).length=(U.takeWhile (fun x=>decide (x≤i))).length+(decide (h=i+1)).toNat
 | [],i,_,h=>by simp [lastOf] at h
 | u::l,i,hp,hi=>by
  obtain ⟨h1,h2⟩:=List.pairwise_cons.1 hp
  by_cases hu:u≤i
  ·have hl:i<lastOf l:=by
    cases l with
    | nil=>simp [lastOf] at hi;omega
    | cons x l=>simpa [lastOf] using hi
   obtain ⟨h,e1,e2,e3⟩:=OC l i h2 hl
   refine ⟨h,?_,?_,?_⟩
   ·rw [List.takeWhile_cons_of_pos (by simpa using hu),List.length_cons,List.getElem?_cons_succ];exact e1
   ·rw [e2,List.contains_cons,show (i+1==u)=false from by simp;omega,Bool.false_or]
   ·rw [List.takeWhile_cons_of_pos (by simp;omega),List.takeWhile_cons_of_pos (by simpa using hu),List.length_cons,List.length_cons,e3];omega
  ·have e0:(u::l).takeWhile (fun x=>decide (x≤i))=[]:=List.takeWhile_cons_of_neg (by simpa using hu)
   rw [e0]
   refine ⟨u,rfl,?_,?_⟩
   ·by_cases hc:u=i+1
    ·subst hc;simp
    ·rw [decide_eq_false hc]
     symm
     rw [← Bool.not_eq_true,List.contains_iff_mem]
     intro hm
     rcases List.mem_cons.1 hm with e|hm
     ·exact hc e.symm
     ·have:=h1 _ hm;omega
   ·by_cases hc:u=i+1
    ·rw [List.takeWhile_cons_of_pos (by simp;omega),decide_eq_true hc]
     have:l.takeWhile (fun x=>decide (x≤i+1))=[]:=by
      cases l with
      | nil=>rfl
      | cons x l=>have:=h1 x (List.mem_cons_self ..);exact List.takeWhile_cons_of_neg (by simp;omega)
     rw [this];rfl
    ·rw [List.takeWhile_cons_of_neg (by simp;omega),decide_eq_false hc];rfl
end GZ
namespace Hu
open gH jO mU GZ
variable {L:List Int}
def nJ (a b:Nat):List Nat:=List.range' a (b+1-a)
def qC:Nat→List Nat→Option (List Nat)
 | 0,_=>some []
 | n+1,l=>if l.length<7 then none
  else if num (l.take 1)=1 then (if l.length<13 then none else (qC n (l.drop 13)).map (nJ (num ((l.drop 1).take 6)) (num ((l.drop 7).take 6)) ++ ·))
  else (qC n (l.drop 7)).map (nJ (num ((l.drop 1).take 6)) (num ((l.drop 1).take 6)) ++ ·)
def qD (n:Nat) (l:List Nat):List Nat:=((List.range n).filter fun i=>decide (l.getD i 0=1)).map (· + 1)
theorem LB (n:Nat) (l:List Nat):qD (n+1) l=qD n l++if l.getD n 0=1 then [n+1] else []:=by
 unfold qD
 rw [List.range_succ,List.filter_append,List.map_append]
 congr 1
 by_cases h:l.getD n 0=1
 ·rw [if_pos h,List.filter_cons_of_pos (by simpa using h)];rfl
 ·rw [if_neg h,List.filter_cons_of_neg (by simpa using h)];rfl
theorem PV (n:Nat) (l:List Nat):(qD n l).length≤n:=by
 unfold qD
 rw [List.length_map]
 exact Nat.le_trans (List.length_filter_le _ _) (by simp)
def NN (last:Nat) (l:List Nat):Option (List Nat) :=
 if num (l.take 1)=1 then (if l.length<7 then none else qC (num ((l.drop 1).take 6)) (l.drop 7))
 else if l.length<1+last then none else some (qD last (l.drop 1))
def given (l:List Nat):Nat:=num ((l.drop 6).take 36)
def fe (l:List Nat) (i:Nat):Bool:=decide (num ((l.drop (42+i)).take 1)=1)
def acL (l:List Nat):Nat:=num ((l.drop 52).take 6)
def mo (l:List Nat):Option (List Nat):=NN (acL l) (l.drop 58)
def gI (l:List Nat):Nat:=if l.length<6 then 5 else if num (l.take 6)≠1 then 7 else if l.length<59 then 5 else match mo l with
 | none=>5
 | some _=>0
abbrev Rd:=Nat × (Nat→Bool) × List Nat × Nat
def MC (c:Nat):Rd:=(0,fun _=>false,[],c)
abbrev toI (U:List Nat):List Int:=U.map fun n:Nat=>(n:Int)
def Uh (t:List UInt8) (l:List Nat) (U:List Nat):Rd:=if bF.check (given l:Int) (toI U)=0∧uF (given l) (fe l) U=t then (given l,fe l,U,0) else MC 1
def FR (t:List UInt8):Rd :=
 if (bD t).2≠0 then MC (bD t).2
 else if gI (aF (bD t).1)≠0 then MC (gI (aF (bD t).1))
 else Uh t (aF (bD t).1) ((mo (aF (bD t).1)).getD [])
theorem EP {U:List Nat}:bF.Right (toI U)↔qw U:=by
 unfold bF.Right qw
 rw [List.pairwise_map]
 constructor
 ·rintro ⟨h1,h2⟩
  exact ⟨h1.imp fun h=>by omega,fun v hv=>by have:=h2 (v:Int) (List.mem_map.2 ⟨v,hv,rfl⟩);omega⟩
 ·rintro ⟨h1,h2⟩
  refine ⟨h1.imp fun h=>by omega,fun v hv=>?_⟩
  obtain ⟨n,hn,rfl⟩:=List.mem_map.1 hv
  have:=h2 n hn
  omega
theorem uD {g:Int}:bF.check g L=0↔(0≤g∧g≤68719476735)∧bF.Right L:=by
 unfold bF.check bF.VY
 by_cases h:g<0∨68719476735<g
 ·rw [if_pos h,if_neg (by decide)]
  constructor
  ·intro h;cases h
  ·intro h;omega
 ·rw [if_neg h,if_pos rfl]
  constructor
  ·intro h2;exact ⟨by omega,bF.xq h2⟩
  ·intro h2;exact bF.SC h2.2
theorem QN (h:bF.Right L):∃ U,L=toI U∧qw U:=by
 have e:L=toI (L.map Int.toNat):=by
  unfold toI
  rw [List.map_map]
  conv=>lhs;rw [← List.map_id L]
  refine List.map_congr_left fun v hv=>?_
  have:=h.2 v hv
  simp only [id,Function.comp]
  omega
 exact ⟨_,e,EP.1 (e ▸ h)⟩
theorem Ql {g:Int} (h:bF.check g L=0):∃ (n:Nat) (U:List Nat),g=(n:Int)∧L=toI U∧n≤68719476735∧qw U:=by
 obtain ⟨h1,h2⟩:=uD.1 h
 obtain ⟨U,e,hU⟩:=QN h2
 exact ⟨g.toNat,U,by omega,e,by omega,hU⟩
section
variable {g:Nat} {P:Nat→Bool} {U:List Nat}
end
end Hu
end
end Go.Proofs.YtlfdjpgghiemfaaGreatDoor
