/- Texts of the proof, joined: LineB, GovP, Inv, SixtyQ. -/
import Derived.Test.YtlfdjpgghiemfaaGreatDoorH25
set_option maxHeartbeats 4000000
set_option maxRecDepth 100000
namespace Go.Proofs.YtlfdjpgghiemfaaGreatDoor
namespace mZ
open Go.RowKit Mem Abs bH nH nR SortM Pt zP nA
variable {L:List ai}
instance:DecidableEq Attr:=fun a b=>if h:a.name=b.name∧a.value=b.value then isTrue (by cases a;cases b;cases h.1;cases h.2;rfl) else isFalse (fun e=>h (by rw [e];exact ⟨rfl,rfl⟩))
def ckP (c:ai):(List UInt8 × List UInt8 × List UInt8 × List UInt8) × (Bool × Bool × Bool × Bool) × (Int × Int × Int × Int × Int):=((c.name,c.value,c.domain,c.path),(c.hostOnly,c.secure,c.httpOnly,c.lasting),(c.site,c.expiry,c.created,c.used,c.no))
theorem PG {a b:ai} (h:ckP a=ckP b):a=b:=by
 obtain ⟨a1,a2,a3,a4,a5,a6,a7,a8,a9,a10,a11,a12,a13⟩:=a
 obtain ⟨b1,b2,b3,b4,b5,b6,b7,b8,b9,b10,b11,b12,b13⟩:=b
 simp only [ckP,Prod.mk.injEq] at h
 obtain ⟨⟨rfl,rfl,rfl,rfl⟩,⟨rfl,rfl,rfl,rfl⟩,⟨rfl,rfl,rfl,rfl,rfl⟩⟩:=h
 rfl
instance:DecidableEq ai:=fun a b=>if h:((a.name=b.name∧a.value=b.value∧a.domain=b.domain∧a.path=b.path)∧(a.hostOnly=b.hostOnly∧a.secure=b.secure∧a.httpOnly=b.httpOnly∧a.lasting=b.lasting))∧(a.site=b.site∧a.expiry=b.expiry∧a.created=b.created∧a.used=b.used∧a.no=b.no) then isTrue (PG (by obtain ⟨⟨⟨h1,h2,h3,h4⟩,h5,h6,h7,h8⟩,h9,h10,h11,h12,h13⟩:=h;unfold ckP;rw [h1,h2,h3,h4,h5,h6,h7,h8,h9,h10,h11,h12,h13])) else isFalse (fun e=>h (by subst e;simp))
def ekC:Ty:=(nth tb 46).get rfl
theorem Ei (a b:Bool):eqS (.bool a) (.bool b)=(a==b):=rfl
theorem Bd (a b:Int):eqS (.int .i64 a) (.int .i64 b)=(a==b):=rfl
theorem Fb (a b:ai):eqK ekC a.v b.v=decide (a=b):=by
 have h:eqK ekC a.v b.v=(eqS (au a.name) (au b.name)&&(eqS (au a.value) (au b.value)&&(eqS (au a.domain) (au b.domain)&&(eqS (au a.path) (au b.path)&&(eqS (.bool a.hostOnly) (.bool b.hostOnly)&&(eqS (.bool a.secure) (.bool b.secure)&&(eqS (.bool a.httpOnly) (.bool b.httpOnly)&&(eqS (.bool a.lasting) (.bool b.lasting)&&(eqS (.int .i64 a.site) (.int .i64 b.site)&&(eqS (.int .i64 a.expiry) (.int .i64 b.expiry)&&(eqS (.int .i64 a.created) (.int .i64 b.created)&&(eqS (.int .i64 a.used) (.int .i64 b.used)&&(eqS (.int .i64 a.no) (.int .i64 b.no)&&true))))))))))))):=rfl
 rw [h]
 simp only [jA,Ei,Bd,Bool.and_true]
 rw [Bool.eq_iff_iff,decide_eq_true_iff]
 simp only [Bool.and_eq_true,beq_iff_eq,decide_eq_true_eq]
 refine ⟨fun h=>PG ?_,fun h=>by subst h;simp⟩
 obtain ⟨h1,h2,h3,h4,h5,h6,h7,h8,h9,h10,h11,h12,h13⟩:=h
 unfold ckP
 rw [h1,h2,h3,h4,h5,h6,h7,h8,h9,h10,h11,h12,h13]
theorem aaL {r:List Abs.V} (h:V.qR (.fro (L.map ai.v)::r)):L.length≤140737488355328:=by have:=h.1.1;simpa using this
theorem ER {K:List ai}:aj Tryz.prog 52 [.fro (L.map ai.v),.fro (K.map ai.v)] (.bool (decide (L=K))):=aj.lim fun hlim=>by
 have hl:=aaL hlim
 have hx:((L.map ai.v).length:Int)=(L.length:Int):=by simp
 have hy:((K.map ai.v).length:Int)=(K.length:Int):=by simp
 by_cases h3:L.length=K.length
 ·refine aW af Tryz.func52 rfl Tryz.ntmps52 Tryz.results52 rfl fun N=>?_
  repeat' (first|refine zt ?_|(refine isR ?_;first|refine zo ?_|refine zX ?_)|refine zr ?_|exact ah)
  refine bE (fun k=>⟨[(0,.fro (L.map ai.v)),(1,.fro (K.map ai.v)),(5,.int .i64 (k:Int))],[],0,26⟩) (fun k=>k≤L.length∧∀ j,j<k→L[j]? = K[j]?) L.length 0 (by exact ah) ⟨Nat.zero_le _,fun j h=>absurd h (Nat.not_lt_zero _)⟩ ?_
  intro k ⟨hk,hq⟩
  by_cases hk2:k<L.length
  ·have e1:(L.map ai.v)[k]? = some (L[k]).v:=by simp [hk2]
   have e2:L[k]? = some L[k]:=by simp [hk2]
   have hk3:k<K.length:=by omega
   have e3:(K.map ai.v)[k]? = some (K[k]).v:=by simp [hk3]
   have e4:K[k]? = some K[k]:=by simp [hk3]
   generalize L[k]=p at e1 e2
   generalize K[k]=q at e3 e4
   have he:(!eqK ekC p.v q.v) = !decide (p=q):=by rw [Fb]
   by_cases hpq:p=q
   ·rw [decide_eq_true hpq] at he
    repeat' (first|refine zt ?_|(refine isR ?_;first|refine zo ?_|refine zX ?_)|refine zr ?_|exact ah)
    refine ⟨⟨by omega,fun j hj=>?_⟩,by omega,(by exact ah)⟩
    rcases Nat.lt_succ_iff_lt_or_eq.1 hj with h|rfl
    ·exact hq j h
    ·rw [e2,e4,hpq]
   ·rw [decide_eq_false hpq] at he
    repeat' (first|refine zt ?_|(refine isR ?_;first|refine zo ?_|refine zX ?_)|refine zr ?_|exact ah)
    rw [decide_eq_false]
    ·rfl
    intro e
    subst e
    rw [e2] at e4;cases e4;exact hpq rfl
  ·have:L=K:=List.ext_getElem? fun j=>by
    by_cases hj:j<L.length
    ·exact hq j (by omega)
    ·rw [List.getElem?_eq_none (by omega),List.getElem?_eq_none (by omega)]
   repeat' (first|refine zt ?_|(refine isR ?_;first|refine zo ?_|refine zX ?_)|refine zr ?_|exact ah)
   rw [decide_eq_true this];rfl
 ·rw [decide_eq_false (by intro e;subst e;exact h3 rfl)]
  refine aW af Tryz.func52 rfl Tryz.ntmps52 Tryz.results52 rfl fun N=>?_
  repeat' (first|refine zt ?_|(refine isR ?_;first|refine zo ?_|refine zX ?_)|refine zr ?_|exact ah)
  rfl
end mZ
namespace Aw
open Abs Scan cu dV Rdy fI gF qW uR nP nH nR nA mZ
variable {t:Int} {f:From} {now:Int} {L:List ai} {p:Pol} {U:List Int}
theorem Rj.sub {M:List ai} {nx:Int} (h:Rj L nx) (hs:M.Sublist L):Rj M nx :=
 ((qW.Rj.weak h).sub hs).right (Nat.le_trans hs.length_le h.len) fun d=>Nat.le_trans hs.countP_le (h.per d)
def u7 (S:List aG) (L:List ai) (nx:Int) (p:Pol) (g:Int) (P:Nat→Bool) (U:List Int) (t:Int):Nat :=
 if fQ.bA S≠0 then fQ.bA S else if dD L nx≠0 then dD L nx else if eH p≠0 then eH p else if bD.check g U≠0 then bD.check g U else if isJ t=false then 3 else if dm p P U t L=L then 0 else 4
structure OkS (S:List aG) (L:List ai) (nx:Int) (p:Pol) (g:Int) (P:Nat→Bool) (U:List Int) (t:Int):Prop where
 suf:fQ.bA S=0
 jar:dD L nx=0
 pol:eH p=0
 con:bD.check g U=0
 day:isJ t=true
 kept:dm p P U t L=L
theorem pU {S:List aG} {nx:Int} {g:Int} {P:Nat→Bool} (h:u7 S L nx p g P U t=0):OkS S L nx p g P U t:=by
 unfold u7 at h
 split at h
 ·rename_i q;exact absurd h q
 ·split at h
  ·rename_i q;exact absurd h q
  ·split at h
   ·rename_i q;exact absurd h q
   ·split at h
    ·rename_i q;exact absurd h q
    ·split at h
     ·cases h
     ·split at h
      ·rename_i h1 h2 h3 h4 h5 h6
       exact ⟨by simpa using h1,by simpa using h2,by simpa using h3,by simpa using h4,by simpa using h5,h6⟩
      ·cases h
theorem yQ (p:Pol) (P:Nat→Bool) (U:List Int) (now:Int) (c:ai) (L:List ai):dm p P U now (c::L)=(if jd p P U c=true∧now<(bM p c).expiry then [bM p c] else [])++dm p P U now L:=by
 unfold dm
 rw [List.flatMap_cons]
theorem mP {p:Pol} {P:Nat→Bool} {U:List Int} {t:Int}:∀ {L:List ai},dm p P U t L=L→∀ c∈L,jd p P U c=true∧bM p c=c∧t<c.expiry
 | [],_,c,hc=>by cases hc
 | a::L,h,c,hc=>by
  rw [yQ] at h
  split at h
  ·rename_i q
   have h1:bM p a=a:=(List.cons.inj h).1
   have h2:dm p P U t L=L:=(List.cons.inj h).2
   rcases List.mem_cons.1 hc with rfl|hc
   ·rw [h1] at q
    exact ⟨q.1,h1,q.2⟩
   ·exact mP h2 c hc
  ·have:=wQ (p:=p) (P:=P) (U:=U) (now:=t) L
   rw [List.nil_append] at h
   rw [h,List.length_cons] at this
   omega
theorem tV {p:Pol} {P:Nat→Bool} {U:List Int} {now:Int}:∀ {L:List ai},(∀ c∈L,jd p P U c=true∧bM p c=c)→dm p P U now L=aI now L
 | [],_=>rfl
 | a::L,h=>by
  obtain ⟨h1,h2⟩:=h a List.mem_cons_self
  rw [yQ,tV fun c hc=>h c (List.mem_cons_of_mem _ hc),h1,h2]
  unfold aI
  rw [List.filter_cons]
  by_cases hl:now<a.expiry
  ·rw [if_pos ⟨rfl,hl⟩,if_pos (decide_eq_true hl)];rfl
  ·rw [if_neg (fun q=>hl q.2),if_neg (by simpa using hl)];rfl
theorem Vj {P:Nat→Bool} (h:dm p P U t L=L) (now:Int):dm p P U now L=aI now L :=
 tV fun c hc=>⟨(mP h c hc).1,(mP h c hc).2.1⟩
theorem xQ (now:Int) (L:List ai):(aI now L).Sublist L:=List.filter_sublist
def goF (f:From) (now:Int) (L:List ai):List ai:=(L.filter fun c=>z8 c f now).map fun c=>{ c with used:=now }
theorem XU (f:From) (now:Int) (L:List ai):goF f now (aI now L)=goF f now L:=by
 unfold goF aI
 rw [List.filter_filter]
 congr 1
 apply List.filter_congr
 intro c _
 unfold z8
 by_cases h:now<c.expiry<;>simp [h]
def qK (f:From) (now:Int) (L:List ai):List ai:=nD dR (goF f now L)
theorem WN {x:ai} (h:x∈nD dR L):x∈L:=by
 have e:=Sq (lt:=fun a b:{y // y∈L}=>dR a.1 b.1) (lt':=dR) (g:=Subtype.val) (fun _ _=>rfl) L.attach
 rw [List.attach_map_subtype_val] at e
 rw [← e] at h
 obtain ⟨y,_,rfl⟩:=List.mem_map.1 h
 exact y.2
theorem YM {x:ai} (h:x∈qK f now L):∃ c∈L,z8 c f now=true∧x = { c with used:=now }:=by
 unfold qK at h
 have h:=WN h
 obtain ⟨c,hc,rfl⟩:=List.mem_map.1 h
 obtain ⟨h1,h2⟩:=List.mem_filter.1 hc
 exact ⟨c,h1,h2,rfl⟩
theorem RV (p:Pol) (P:Nat→Bool) (U:List Int) (c:ai) (n:Int):jd p P U { c with used:=n }=jd p P U c:=rfl
theorem WQ:(qK f now L).length≤L.length:=by
 unfold qK goF
 rw [FV,List.length_map]
 exact List.length_filter_le _ _
end Aw
namespace Abs
open Go.RowKit Mem Facts
section
variable {P:Program} {N:Env} {M:Nat→Prop} {o:Oper} {s:S} {a:Act} {w:World}
variable {ts:Array TypeId} {g:Operand} {f:Nat} {name:String} {xs:Array Operand}
def DN (P:Program) (T:TypeId) (name:String) (f:FuncId):Prop:=∀ (x:Value) (w:World),(Go.method (P.types.size+Made.depth) T x name).run P w = .ok (f,x) w
theorem Zu {T:TypeId} {x:Value} (ho:o.op = .call { callee:=.invoke g name,args:=xs,argTypes:=ts }) (hg:a.eval g = .iface T x) (hm:DN P T name f) (hc:∀ (fs:Array Value) (w:World),(callFunc f fs).run P w = .ok (.enter f fs) w):(execOp a.eval o).run P w = .ok (.enter f (#[x]++xs.map a.eval)) w:=by
 have e1:(#[Value.iface T x]++xs.map a.eval)[0]? = some (.iface T x):=by
  rw [Array.getElem?_append_left (by simp)]
  rfl
 have e2:(#[Value.iface T x]++xs.map a.eval).extract 1 (#[Value.iface T x]++xs.map a.eval).size=xs.map a.eval:=by
  apply Array.ext
  ·simp
  ·intro i h1 h2
   rw [Array.getElem_extract,Array.getElem_append_right (by simp)]
   simp
 have e3:(callMethod (.iface T x) name (xs.map a.eval)).run P w=(callFunc f (#[x]++xs.map a.eval)).run P w:=by
  have hx:(Go.method (P.types.size+100) T x name).run P w = .ok (f,x) w:=hm x w
  simp [callMethod,go_sem]
  rw [hx]
  rfl
 unfold execOp
 simp only [ho,resolve,hg,Sem.run_bind,Sem.run_pure,Result.andThen_ok,invoke,e1,e2]
 rw [e3]
 exact hc _ _
theorem Yz {T:TypeId} {vs:List V} {v r:V} (ho:o.op = .call { callee:=.invoke g name,args:=xs,argTypes:=ts }) (hm:DN P T name f) (hc:∀ (fs:Array Value) (w:World),(callFunc f fs).run P w = .ok (.enter f fs) w) (hl:vs.length=xs.size) (h:av P N.g f (v::vs) r) (hn:V.bf (v::vs)=[]):aC P N o ⟨(g,.ifc T v)::jm xs.toList vs,[]⟩ r [] []:=fun s M A φ a w hh hr _ hd=>by
 obtain ⟨x,g1,g2⟩:∃ x,a.eval g = .iface T x∧Rep (fun b=>M b∨N b) A φ w v x:=by
  have:=hr.ev hh.a
  generalize a.eval g=y at this
  cases this with
  | fz h=>cases h with
   | ifc h=>exact ⟨_,rfl,.fz h⟩
  | ifc h=>exact ⟨_,rfl,h⟩
 have hh':Holds ⟨jm xs.toList vs,[]⟩ s:=⟨fun p hp=>hh.1 p (List.mem_cons_of_mem _ hp),hh.2⟩
 unfold Oper.wp
 rw [Zu ho g1 hm hc]
 refine Calls.mono (h (fun b=>M b∨N b) w _ hr.gl hr.lim (by simp;omega) fun i u y hu hy=>pK (X:=fun b=>M b∨N b) (A:=A) (φ:=φ) ?_ (List.eq_nil_iff_forall_not_mem.2 fun m hm=>?_)) ?_
 ·rcases i with _|i
  ·rw [Array.getElem?_append_left (by simp)] at hy
   simp at hu hy
   subst hu hy
   exact g2
  ·have hy:(xs.map a.eval)[i]? = some y:=by
    rw [Array.getElem?_append_right (by simp)] at hy
    simpa using hy
   simp only [Array.getElem?_map,Option.map_eq_some_iff] at hy
   obtain ⟨p,hp,rfl⟩:=hy
   exact hr.ev (Ag hh' i p u (by simpa using hp) (by simpa using hu))
 ·have:=aB.2 ⟨u,List.mem_of_getElem? hu,hm⟩
  rw [hn] at this;cases this
 ·rintro e w' ⟨x,rfl,hb,hfz⟩
  exact gL hr hb (.fz hfz) hd
end
section
variable {P:Program} {N:Env} {l r:List Oper} {o:Oper} {tm:List (Nat × V)} {st:List (Nat × Option Blk)} {nx nt:Nat} {tr:List Tr} {K:S→List Tr→Prop} {d:Nat}
theorem Z7 {f:Nat} {T:TypeId} {name:String} {g:Operand} {xs:Array Operand} {ts:Array TypeId} {vs:List V} {v w:V} (h:av P N.g f (v::vs) w) (hm:DN P T name f) (k:ay P N l K r ⟨(d,w)::tm,st,nx,nt⟩ (tr++[aH l o ⟨(g,.ifc T v)::jm xs.toList vs,[]⟩ []])) (ho:o.op = .call { callee:=.invoke g name,args:=xs,argTypes:=ts }:=by rfl) (hf:S.ev ⟨tm,st,nx,nt⟩ g=some (.ifc T v):=by rfl) (he:evL ⟨tm,st,nx,nt⟩ xs.toList=some vs:=by rfl) (hg:ax l o ⟨tm,st,nx,nt⟩=some true:=by rfl) (hd:o.dst=some d:=by rfl) (hlt:Nat.blt d nt=true:=by rfl) (hb:dZ P f=true:=by kernel_rfl) (hn:V.bf (v::vs)=[]:=by rfl):ay P N l K (o::r) ⟨tm,st,nx,nt⟩ tr:=aJ hg hd hlt (Yz ho hm (enters hb) (kW he) h hn) (hT hf (oO he fun p hp=>by cases hp)) k
end
def cellV:V→Bool
 | .agg _=>false
 | _=>true
theorem K7 {cs:List V} (h:cs.all cellV=true):∀ u∈cs,u.cells=[u]:=fun u hu=>by
 have:=List.all_eq_true.1 h u hu
 cases u<;>first|rfl|cases this
section
variable {P:Program} {tb:List Ty} {e ee:Ty} {N:Env} {l r:List Oper} {o:Oper} {tm:List (Nat × V)} {st:List (Nat × Option Blk)} {nx nt:Nat} {tr:List Tr} {K:S→List Tr→Prop} {d:Nat} {T:TypeId} {x:Operand}
variable {off:Nat} {cs:List V}
theorem aaf {len el:Nat} (htb:aL P tb) (k:ay P N l K r ⟨(d,.fro ((cs.drop off).take len))::tm,st,nx,nt⟩ (tr++[aH l o ⟨[(x,.fp cs off)],[]⟩ []])) (ho:o.op = .slice T x none none none:=by rfl) (hx:S.ev ⟨tm,st,nx,nt⟩ x=some (.fp cs off):=by rfl) (hg:ax l o ⟨tm,st,nx,nt⟩=some true:=by rfl) (hd:o.dst=some d:=by rfl) (hlt:Nat.blt d nt=true:=by rfl) (hT':nth tb T=some e:=by rfl) (hs:e.arr=some (len,el):=by rfl) (hE:nth tb el=some ee:=by rfl) (h1:ee.size=1:=by rfl) (h0':Nat.blt 0 len=true:=by rfl) (hl:Nat.ble len LIM=true:=by rfl) (hc:Nat.ble (off+len) cs.length=true:=by rfl) (hone:cs.all cellV=true:=by rfl):ay P N l K (o::r) ⟨tm,st,nx,nt⟩ tr:=aJ hg hd hlt (zD htb ho hT' hs hE h1 (Nat.le_of_ble_eq_true h0') (Nat.le_of_ble_eq_true hl) (Nat.le_of_ble_eq_true hc) (K7 hone)) (hT hx h0) k
theorem Ld {w:V} (htb:aL P tb) (hv:lJ cs off e.agg e.size=some w) (k:ay P N l K r ⟨(d,w)::tm,st,nx,nt⟩ (tr++[aH l o ⟨[(x,.fp cs off)],[]⟩ []])) (ho:o.op = .load T x:=by rfl) (hx:S.ev ⟨tm,st,nx,nt⟩ x=some (.fp cs off):=by rfl) (hg:ax l o ⟨tm,st,nx,nt⟩=some true:=by rfl) (hd:o.dst=some d:=by rfl) (hlt:Nat.blt d nt=true:=by rfl) (hT':nth tb T=some e:=by rfl):ay P N l K (o::r) ⟨tm,st,nx,nt⟩ tr:=aJ hg hd hlt (zR htb ho hT' hv) (hT hx h0) k
end
inductive Ae (k:Nat):List V→List V→Prop
 | nil:Ae k [] []
 | same {v vs us}:Ae k vs us→Ae k (v::vs) (v::us)
 | at {n vs us}:n<k→Ae k vs us→Ae k (.nils::vs) (.own n 0 0::us)
 | agg {cs ds vs us}:Ae k cs ds→Ae k vs us→Ae k (.agg cs::vs) (.agg ds::us)
section
variable {X A:Nat→Prop} {φ:Nat→Pl} {w:World}
end
theorem Af {P:Program} {g:iI} {f:FuncId} {args:List V} {rv u:V} {bs:List Blk} (h:aR P g f args [] rv (bs.map some)) (hf:frz (fun n=>bs[n]?) rv=some u) (hok:rQ (fun n=>bs[n]?) rv):av P g f args u:=fun N w vs hG hN hlen hv=>by
 have hblk:∀ n k,(S.mk [] (gU bs 0) bs.length 0).blk n=some k↔bs[n]? = some k:=fun n k=>by
  unfold S.blk
  simp only [A8,Nat.zero_le,if_true,Nat.sub_zero]
  cases bs[n]? <;> simp
 refine Calls.mono (h N (fun _=>False) (fun _=>⟨none,0,0⟩) w vs ⟨fun n k hk=>by simp at hk,fun n n' k k' b e1=>by simp at e1,fun b hb=>hN b (hb.elim False.elim id),fun b hb=>hb.elim,hG.sub fun b hb=>hb.elim False.elim id⟩ hlen fun i v x hv' hx=>.fz ((hv i v x hv' hx).mono (fun b _ hb=>hb.elim False.elim id) (.refl _ w))) ?_
 rintro e w' ⟨x,M2,φ2,rfl,hs,hM,_,rows2,hrep⟩
 have at2:∀ n k,bs[n]? = some k→(bs.map some)[n]? = some (some k):=fun n k hk=>by rw [List.getElem?_map,hk];rfl
 have rel:Rel ⟨⟨N,g⟩,0,fun _=>⟨none,0,0⟩,[]⟩ M2 (· < (bs.map some).length) φ2 ⟨[],gU bs 0,bs.length,0⟩ ⟨#[],[]⟩ w' :=
  ⟨fun t v ht=>by simp [lk] at ht,rfl,fun n k hk=>rows2.st n k (at2 n k ((hblk n k).1 hk)),fun n n' k k' b e1 e2=>rows2.inj n n' k k' b (at2 n k ((hblk n k).1 e1)) (at2 n' k' ((hblk n' k').1 e2)),rows2.lim,rows2.dis,rfl,fun n hn=>by exact absurd hn (Nat.not_lt_zero n),rows2.gl⟩
 exact ⟨x,rfl,hs.below,rel.frz (b:=fun n=>bs[n]?) (fun n k hk=>(hblk n k).2 hk) hrep hf hok⟩
end Abs
namespace mr
open gT jZ
variable {t:List UInt8}
def place (c:UInt8):Nat:=abc.idxOf c
theorem U6 (p:UInt8→Bool) (h:∀ m:Fin 256,p (UInt8.ofNat m.val)=true) (c:UInt8):p c=true:=by
 have:=h ⟨c.toNat,c.toNat_lt⟩
 simpa using this
theorem GQ (c:UInt8) (h:place c<64):letter (place c)=c:=by
 have:=U6 (fun c => !decide (place c<64)||letter (place c)==c) (by decide +kernel) c
 simpa [h] using this
theorem JB (c:UInt8):Lib.indexByte abc c=if place c<64 then (place c:Int) else -1:=by
 have:=U6 (fun c=>Lib.indexByte abc c==if place c<64 then (place c:Int) else -1) (by decide +kernel) c
 simpa using this
def known (t:List UInt8):Bool:=t.all fun c=>decide (place c<64)
def di (t:List UInt8):List Nat:=t.flatMap fun c=>bitsOf (place c) 6
theorem EA (c:UInt8) (t:List UInt8):di (c::t)=bitsOf (place c) 6++di t:=rfl
theorem Rf (a b:List UInt8):di (a++b)=di a++di b:=by simp [di]
theorem uD (t:List UInt8):(di t).length=6*t.length:=by
 induction t with
 | nil=>rfl
 | cons c l ih=>rw [EA,List.length_append,bG,ih,List.length_cons];omega
theorem yS (t:List UInt8):Bin (di t):=by
 intro b hb
 simp only [di,List.mem_flatMap] at hb
 obtain ⟨c,_,hb⟩:=hb
 exact bY _ _ b hb
theorem Mi (t:List UInt8) (h:known t=true):pF (di t)=t:=by
 induction t with
 | nil=>rfl
 | cons c l ih =>
  simp only [known,List.all_cons,Bool.and_eq_true,decide_eq_true_eq] at h
  rw [EA,DK _ _ (bG _ _),En,Nat.mod_eq_of_lt (by simpa using h.1),GQ c h.1,ih h.2]
theorem Ue (l:List Nat) (h:Bin l):bitsOf (num l) l.length=l:=by
 revert h
 refine lX (p:=fun l=>Bin l→bitsOf (num l) l.length=l) (fun _=>rfl) (fun l b ih h=>?_) l
 have h1:=ih h.left
 have h2:b<2:=h b (by simp)
 have key:∀ (w n b:Nat),b<2→bitsOf (2*n+b) (w+1)=bitsOf n w++[b]:=by
  intro w
  induction w with
  | zero=>intro n b hb;simp [bitsOf];omega
  | succ w ihw =>
   intro n b hb
   rw [bitsOf,ihw n b hb,bitsOf]
   simp only [List.cons_append,List.cons.injEq,and_true]
   rw [Nat.pow_succ,Nat.mul_comm (2^w) 2,← Nat.div_div_eq_div_mul]
   congr 2;omega
 rw [kz,List.length_append,List.length_singleton,key _ _ _ h2,h1]
def M6 (l:List Nat):List Nat:=l++List.replicate ((6-l.length % 6) % 6) 0
theorem zV (l:List Nat) (k:Nat):num (l++List.replicate k 0)=num l*2^k:=by
 induction k with
 | zero=>simp
 | succ k ih=>rw [List.replicate_succ',← List.append_assoc,kz,ih,Nat.pow_succ];rw [Nat.add_zero,Nat.mul_comm 2,Nat.mul_assoc]
theorem JX (l:List Nat) (h0:l≠[]) (h:l.length≤6):pF l=[letter (num (l++List.replicate (6-l.length) 0))]:=by
 have hl:0<l.length:=List.length_pos_iff.2 h0
 rw [uN l h0,Nat.min_eq_right h,List.take_length,List.drop_length,zV];rfl
theorem KF:∀ (n:Nat) (l:List Nat),l.length≤n→pF (M6 l)=pF l
 | 0,l,h=>by
  obtain rfl:l=[]:=List.eq_nil_of_length_eq_zero (by omega)
  rfl
 | n+1,l,h=>by
  by_cases h0:l=[]
  ·subst h0;rfl
  ·have hl:0<l.length:=List.length_pos_iff.2 h0
   by_cases h6:l.length<6
   ·have e:(6-l.length % 6) % 6=6-l.length:=by omega
    unfold M6
    rw [e,JX l h0 (by omega),JX _ (by simp [h0]) (by simp;omega)]
    simp only [List.length_append,List.length_replicate]
    rw [show 6-(l.length+(6-l.length))=0 from by omega];simp
   ·have ht:(l.take 6).length=6:=by rw [List.length_take];omega
    have hs:l=l.take 6++l.drop 6:=(List.take_append_drop 6 l).symm
    have e:M6 l=l.take 6++M6 (l.drop 6):=by
     unfold M6
     rw [← List.append_assoc,← hs,List.length_drop];congr 2;omega
    rw [e,DK _ _ ht,KF n (l.drop 6) (by rw [List.length_drop];omega)]
    conv=>{ rhs;rw [hs,DK _ _ ht] }
def bC (t:List UInt8):List UInt8 × Nat :=
 if known t=false then ([],1)
 else if t.length % 4=1 then ([],1)
 else if 400<t.length*6/8 then ([],2)
 else if num ((di t).drop (8*(t.length*6/8)))≠0 then ([],1)
 else ((aZ ((di t).take (8*(t.length*6/8)))).map UInt8.ofNat,0)
theorem QN (a b:List UInt8):aF (a++b)=aF a++aF b:=by simp [aF]
theorem BG (l:List Nat) (j:Nat) (h:8*j+8≤l.length):bJ l j=num ((l.drop (8*j)).take 8):=by
 have e:∀ i,i<8→l.getD (8*j+i) 0=((l.drop (8*j)).take 8).getD i 0:=fun i hi=>by
  simp only [List.getD_eq_getElem?_getD]
  rw [List.getElem?_take_of_lt hi,List.getElem?_drop]
 have hl:((l.drop (8*j)).take 8).length=8:=by rw [List.length_take,List.length_drop];omega
 unfold bJ
 rw [show 8*j=8*j+0 from rfl,e 0 (by omega),Nat.add_zero,e 1 (by omega),e 2 (by omega),e 3 (by omega),e 4 (by omega),e 5 (by omega),e 6 (by omega),e 7 (by omega)]
 generalize (l.drop (8*j)).take 8=m at hl
 match m,hl with
 | [a,b,c,d,e,f,g,h],_=>simp [num];omega
theorem MB (s:List UInt8):(aZ (aF s)).map UInt8.ofNat=s:=by
 have hl:=fU s
 apply List.ext_getElem
 ·simp [dH,hl];omega
 ·intro i h1 h2
  have h3:(aF s).drop (8*i)=aF (s.drop i):=by
   conv=>{ lhs;rw [← List.take_append_drop i s,QN] }
   rw [List.drop_left' (by rw [fU,List.length_take];omega)]
  simp only [aZ,List.getElem_map,List.getElem_range]
  rw [BG _ _ (by omega),h3,List.drop_eq_getElem_cons h2]
  have h4:aF (s[i]::s.drop (i+1))=bitsOf s[i].toNat 8++aF (s.drop (i+1)):=rfl
  rw [h4,List.take_left' (bG _ _),En,Nat.mod_eq_of_lt (by simpa using s[i].toNat_lt)]
  simp
theorem Iz (l:List Nat) (k:Nat) (hb:Bin l) (h:l.length=8*k):aF ((aZ l).map UInt8.ofNat)=l:=by
 have key:∀ (k:Nat) (l:List Nat),Bin l→l.length=8*k→∃ s:List UInt8,l=aF s:=by
  intro k
  induction k with
  | zero=>intro l _ h;exact ⟨[],List.eq_nil_of_length_eq_zero (by omega)⟩
  | succ k ih =>
   intro l hb h
   have ht:(l.take 8).length=8:=by rw [List.length_take];omega
   have hs:l=l.take 8++l.drop 8:=(List.take_append_drop 8 l).symm
   rw [hs] at hb
   obtain ⟨s,hs2⟩:=ih (l.drop 8) hb.right (by rw [List.length_drop];omega)
   have h1:=qE hb.left
   have h2:=Ue _ hb.left
   rw [ht] at h1 h2
   refine ⟨UInt8.ofNat (num (l.take 8))::s,?_⟩
   have e:aF (UInt8.ofNat (num (l.take 8))::s)=bitsOf (UInt8.ofNat (num (l.take 8))).toNat 8++aF s:=rfl
   rw [e,UInt8.toNat_ofNat',Nat.mod_eq_of_lt (by simpa using h1),h2,← hs2,← hs]
 obtain ⟨s,rfl⟩:=key k l hb h
 rw [MB]
theorem Xc (l:List Nat) (h:num l=0):l=List.replicate l.length 0:=by
 revert h
 refine lX (p:=fun l=>num l=0→l=List.replicate l.length 0) (fun _=>rfl) (fun l b ih h=>?_) l
 rw [kz] at h
 have h1:=ih (by omega)
 have h2:b=0:=by omega
 subst h2
 rw [List.length_append,List.length_singleton,List.replicate_succ',← h1]
theorem DU (t:List UInt8) (h:(bC t).2=0):(bC t).1.length≤400∧pF (aF (bC t).1)=t:=by
 unfold bC at h ⊢
 by_cases h1:known t=false
 ·rw [if_pos h1] at h;cases h
 ·rw [if_neg h1] at h ⊢
  by_cases h2:t.length % 4=1
  ·rw [if_pos h2] at h;cases h
  ·rw [if_neg h2] at h ⊢
   by_cases h3:400<t.length*6/8
   ·rw [if_pos h3] at h;cases h
   ·rw [if_neg h3] at h ⊢
    by_cases h4:num ((di t).drop (8*(t.length*6/8)))≠0
    ·rw [if_pos h4] at h;cases h
    ·rw [if_neg h4]
     have hk:known t=true:=by simpa using h1
     have hn:num ((di t).drop (8*(t.length*6/8)))=0:=by omega
     have hl:=uD t
     have hz:=Xc _ hn
     rw [List.length_drop,hl] at hz
     have ht:((di t).take (8*(t.length*6/8))).length=8*(t.length*6/8):=by rw [List.length_take,hl];omega
     have hb:=yS t
     have hs:di t=(di t).take (8*(t.length*6/8))++(di t).drop (8*(t.length*6/8)):=(List.take_append_drop _ _).symm
     have hb':=hb
     rw [hs] at hb'
     have hp:M6 ((di t).take (8*(t.length*6/8)))=di t:=by
      conv=>{ rhs;rw [hs,hz] }
      unfold M6
      rw [ht];congr 2
      have hq:t.length % 4=0∨t.length % 4=2∨t.length % 4=3:=by omega
      rcases hq with hq|hq|hq<;>omega
     refine ⟨by rw [List.length_map,dH,ht];omega,?_⟩
     rw [Iz _ _ hb'.left ht,← KF _ _ (Nat.le_refl _),hp,Mi t hk]
theorem Sl (t:List UInt8) (h:(bC t).2≠0):(bC t).1=[]:=by
 unfold bC at h ⊢
 repeat' split
 all_goals first|rfl|(exfalso;simp_all)
theorem UN (l:List Nat) (k i:Nat):(l++List.replicate k 0).getD i 0=l.getD i 0:=by
 simp only [List.getD_eq_getElem?_getD]
 by_cases h:i<l.length
 ·rw [List.getElem?_append_left h]
 ·rw [List.getElem?_append_right (by omega),List.getElem?_eq_none (l:=l) (by omega)]
  by_cases h2:i-l.length<k
  ·rw [List.getElem?_eq_getElem (by simpa using h2),List.getElem_replicate];rfl
  ·rw [List.getElem?_eq_none (by simp;omega)]
theorem Ms (l:List Nat) (k j:Nat):bJ (l++List.replicate k 0) j=bJ l j:=by
 unfold bJ;simp only [UN]
theorem QJ (l:List Nat) (_h:l.length % 8≠0):bJ l (l.length/8)=num (l.drop (8*(l.length/8)))*2^(8-l.length % 8):=by
 rw [← Ms l (8-l.length % 8),BG _ _ (by simp;omega),List.drop_append_of_le_length (by omega),List.take_of_length_le (by simp;omega),zV]
theorem getD_take (l:List Nat) (n i:Nat) (h:i<n):(l.take n).getD i 0=l.getD i 0:=by
 simp only [List.getD_eq_getElem?_getD]
 rw [List.getElem?_take_of_lt h]
theorem Qk (l:List Nat) (m:Nat) (h:8*m≤l.length):(aZ l).take m=aZ (l.take (8*m)):=by
 apply List.ext_getElem
 ·rw [List.length_take,dH,dH,List.length_take];omega
 ·intro i h1 h2
  have hi:i<m:=by rw [List.length_take] at h1;omega
  rw [List.getElem_take]
  simp only [aZ,List.getElem_map,List.getElem_range]
  unfold bJ
  rw [getD_take _ _ _ (by omega),getD_take _ _ _ (by omega),getD_take _ _ _ (by omega),getD_take _ _ _ (by omega),getD_take _ _ _ (by omega),getD_take _ _ _ (by omega),getD_take _ _ _ (by omega),getD_take _ _ _ (by omega)]
theorem RA (l:List Nat):(aZ l).drop (l.length/8)=if l.length % 8=0 then [] else [bJ l (l.length/8)]:=by
 by_cases h:l.length % 8=0
 ·rw [if_pos h,List.drop_of_length_le (by rw [dH];omega)]
 ·rw [if_neg h]
  have hl:l.length/8<(aZ l).length:=by rw [dH];omega
  rw [List.drop_eq_getElem_cons hl,List.drop_of_length_le (by rw [dH];omega)]
  simp [aZ]
theorem RX (l:List Nat) (hb:Bin l):Lib.trimB (((aZ l).map UInt8.ofNat).drop (l.length/8)) 0=[]↔num (l.drop (8*(l.length/8)))=0:=by
 rw [← List.map_drop,RA]
 by_cases h:l.length % 8=0
 ·rw [if_pos h,List.drop_of_length_le (by omega)];exact ⟨fun _=>rfl,fun _=>rfl⟩
 ·rw [if_neg h,List.map_singleton]
  have hlt:=lU hb (l.length/8)
  have e:=QJ l h
  have hp:0<2^(8-l.length % 8):=Nat.two_pow_pos _
  generalize bJ l (l.length/8)=x at e hlt
  generalize num (l.drop (8*(l.length/8)))=y at e
  generalize 2^(8-l.length % 8)=z at e hp
  by_cases hx:x=0
  ·subst hx
   have:y=0:=by rcases Nat.mul_eq_zero.1 e.symm with h|h<;>omega
   exact ⟨fun _=>this,fun _=>by decide⟩
  ·have hy:y≠0:=by rintro rfl;simp at e;exact hx e
   refine ⟨fun h=>?_,fun h=>absurd h hy⟩
   have hne:(UInt8.ofNat x==0)=false:=by
    rw [beq_eq_false_iff_ne];intro he
    have:=congrArg UInt8.toNat he
    rw [UInt8.toNat_ofNat'] at this
    simp at this;omega
   simp [Lib.trimB,Lib.trimLeftB,Lib.trimRightB,hne] at h
theorem zC (a b:List UInt8):known (a++b)=(known a&&known b):=by simp [known]
theorem Uz (h:known t=false):bC t=([],1):=by unfold bC;rw [if_pos h]
theorem Wp (h:known t=true) (h1:t.length % 4=1):bC t=([],1):=by unfold bC;rw [if_neg (by rw [h];decide),if_pos h1]
theorem Q7 (h:known t=true) (h1:¬ t.length % 4=1) (h2:400<t.length*6/8):bC t=([],2):=by unfold bC;rw [if_neg (by rw [h];decide),if_neg h1,if_pos h2]
theorem RS (h:known t=true) (h1:¬ t.length % 4=1) (h2:¬ 400<t.length*6/8) (h3:¬ num ((di t).drop (8*(t.length*6/8)))=0):bC t=([],1):=by unfold bC;rw [if_neg (by rw [h];decide),if_neg h1,if_neg h2,if_pos h3]
theorem Ih (h:known t=true) (h1:¬ t.length % 4=1) (h2:¬ 400<t.length*6/8) (h3:num ((di t).drop (8*(t.length*6/8)))=0):bC t=(((aZ (di t)).map UInt8.ofNat).take (t.length*6/8),0):=by
 have hl:=uD t
 unfold bC;rw [if_neg (by rw [h];decide),if_neg h1,if_neg h2,if_neg (by simpa using h3),← List.map_take,Qk _ _ (by omega)]
end mr
end Go.Proofs.YtlfdjpgghiemfaaGreatDoor
