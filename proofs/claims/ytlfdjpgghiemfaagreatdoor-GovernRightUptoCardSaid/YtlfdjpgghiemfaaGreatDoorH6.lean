/- Texts of the proof, joined: AbsB. -/
import Derived.Test.YtlfdjpgghiemfaaGreatDoorH5
namespace Go.Proofs.YtlfdjpgghiemfaaGreatDoor
section
namespace Abs
open Go.RowKit Mem Facts
variable {d:TypeDesc} {k:IntKind}
inductive Zc where
 | int (k:IntKind)
 | bool|str|ptr|slice|map|func|iface
 deriving DecidableEq
def Zc.v:Zc→V
 | .int k=>.int k 0
 | .bool=>.bool false
 | .str=>.str ⟨#[]⟩
 | .ptr=>.nilp
 | .slice=>.nils
 | .map=>.nilm
 | .func=>.nilf
 | .iface=>.nili
def Zc.val:Zc→Value
 | .int k=>.int k 0
 | .bool=>.bool false
 | .str=>.string ⟨#[]⟩
 | .ptr=>.pointer none
 | .slice=>.slice none 0 0
 | .map=>.map none
 | .func=>.nilFunc
 | .iface=>.nilIface
structure Ty where
 agg:Bool
 size:Nat
 bytes:Nat
 flds:List (Nat × Nat)
 arr:Option (Nat × Nat)
 sl:Option Nat
 zero:List Zc
 knd:Nat
 mp:Option (Nat × Nat)
def jN:IntKind→Nat
 | .i8=>20|.i16=>21|.i32=>22|.i64=>23|.u8=>24|.u16=>25|.u32=>26|.u64=>27
def kindOf:TypeDesc→Nat
 | .bool=>1|.string=>2|.int k=>jN k|.map _ _=>4|.pointer _=>5|.func _ _ _=>6|.interface _=>7|.slice _=>8|.struct _=>9|.array _ _=>10
 | _=>0
theorem Gj {k':IntKind} (h:jN k=jN k'):k=k':=by cases k<;>cases k'<;>first|rfl|(simp [jN] at h)
theorem rP (h:jN k=kindOf d):d = .int k:=by
 cases d<;>first
  | (rename_i k';simp only [kindOf] at h;rw [Gj h])
  | (cases k<;>simp [jN,kindOf] at h)
theorem Cz (k:IntKind):20≤jN k:=by cases k<;>simp [jN]
theorem pq (h:2=kindOf d):d = .string:=by
 cases d<;>first|rfl|(simp [kindOf] at h;done)|(rename_i k;have:=Cz k;simp only [kindOf] at h;omega)
theorem Ff (h:1=kindOf d):d = .bool:=by
 cases d<;>first|rfl|(simp [kindOf] at h;done)|(rename_i k;have:=Cz k;simp only [kindOf] at h;omega)
theorem qZ (h:9=kindOf d):∃ fs,d = .struct fs:=by
 cases d<;>first|exact ⟨_,rfl⟩|(simp [kindOf] at h;done)|(rename_i k;have:=Cz k;simp only [kindOf] at h;omega)
def adE:Zc→Value→Bool
 | .int k,.int k' n=>k==k'&&n==0
 | .bool,.bool b => !b
 | .str,.string s=>s.size==0
 | .ptr,.pointer none=>true
 | .slice,.slice none 0 0=>true
 | .map,.map none=>true
 | .func,.nilFunc=>true
 | .iface,.nilIface=>true
 | _,_=>false
def qi:List Zc→List Value→Bool
 | [],[]=>true
 | z::r,v::q=>adE z v&&qi r q
 | _,_=>false
def IC:Value→Bool
 | .agg _=>true
 | _=>false
def DT:TypeDesc→Bool
 | .struct _|.array _ _=>true
 | _=>false
def Dn:TypeDesc→List (Nat × Nat)
 | .struct fs=>fs.toList.map fun f=>(f.offset,f.type)
 | _=>[]
def yC:TypeDesc→Option (Nat × Nat)
 | .array n t=>some (n,t)
 | _=>none
def MW:TypeDesc→Option Nat
 | .slice t=>some t
 | _=>none
def Qv:TypeDesc→Option (Nat × Nat)
 | .map k t=>some (k,t)
 | _=>none
def abq (P:Program) (T:Nat) (e:Ty):Bool:=match P.info? T,P.underlying T with
 | some i, some d => e.size == i.size && e.bytes == i.bytes && e.knd == kindOf d && e.agg == DT d && e.flds == Dn d && e.arr == yC d && e.sl == MW d && e.mp == Qv d &&
   (e.zero.isEmpty||match i.zero with|some z=>IC z==e.agg&&qi e.zero z.cells.toList|none=>false)
 | _,_=>false
def FN (P:Program):List Ty→Nat→Bool
 | [],_=>true
 | e::r,n=>abq P n e&&FN P r (n+1)
def aL (P:Program) (tb:List Ty):Prop:=FN P tb 0=true
section
variable {P:Program} {tb:List Ty} {T:Nat} {e:Ty}
theorem aal:∀ {tb:List Ty} {n T:Nat} {e:Ty},FN P tb n=true→nth tb T=some e→abq P (n+T) e=true
 | [],_,_,_,_,h=>by simp [nth] at h
 | x::r,n,0,e,h,hn=>by
  rw [FN,Bool.and_eq_true] at h
  rw [nth] at hn;cases hn;exact h.1
 | x::r,n,T+1,e,h,hn=>by
  rw [FN,Bool.and_eq_true] at h
  rw [nth] at hn
  have:=aal h.2 hn
  rwa [show n+1+T=n+(T+1) from by omega] at this
structure GV (P:Program) (T:Nat) (e:Ty) (i:TypeInfo) (d:TypeDesc):Prop where
 info:P.info? T=some i
 und:P.underlying T=some d
 size:i.size=e.size
 bytes:i.bytes=e.bytes
 knd:e.knd=kindOf d
 agg:e.agg=DT d
 flds:e.flds=Dn d
 arr:e.arr=yC d
 sl:e.sl=MW d
 mp:e.mp=Qv d
 zero:e.zero=[]∨∃ z,i.zero=some z∧IC z=e.agg∧qi e.zero z.cells.toList=true
theorem aV (ht:aL P tb) (h:nth tb T=some e):∃ i d,GV P T e i d:=by
 have h1:=aal ht h
 rw [Nat.zero_add] at h1
 unfold abq at h1
 cases hi:P.info? T with
 | none=>rw [hi] at h1;simp at h1
 | some i =>
  cases hu:P.underlying T with
  | none=>rw [hi,hu] at h1;simp at h1
  | some d =>
   rw [hi,hu] at h1
   simp only [Bool.and_eq_true,beq_iff_eq] at h1
   obtain ⟨⟨⟨⟨⟨⟨⟨⟨g1,g2⟩,g3⟩,g4⟩,g5⟩,g6⟩,g7⟩,g7'⟩,g8⟩:=h1
   refine ⟨i,d,hi,hu,g1.symm,g2.symm,g3,g4,g5,g6,g7,g7',?_⟩
   ·rw [Bool.or_eq_true] at g8
    refine g8.imp List.isEmpty_iff.1 fun g9=>?_
    cases hz:i.zero with
    | none=>rw [hz] at g9;cases g9
    | some z =>
     rw [hz] at g9
     simp only [Bool.and_eq_true,beq_iff_eq] at g9
     exact ⟨z,rfl,g9.1,g9.2⟩
end
end Abs
namespace Abs
open Go.RowKit Mem Facts
variable {n off:Nat} {v:V} {cs:List V}
def takeC:List V→Nat→Option (List V)
 | _,0=>some []
 | c::r,n+1=>match takeC r n with
  | some q=>some (c::q)
  | none=>none
 | [],_+1=>none
def Du:List V→Nat→Option (List V)
 | l,0=>some l
 | _::r,n+1=>Du r n
 | [],_+1=>none
def sW:List V→Nat→List V→Option (List V)
 | l,0,[]=>some l
 | _::r,0,u::us=>match sW r 0 us with
  | some q=>some (u::q)
  | none=>none
 | c::r,n+1,us=>match sW r n us with
  | some q=>some (c::q)
  | none=>none
 | _,_,_=>none
def lJ (cs:List V) (off:Nat) (agg:Bool) (n:Nat):Option V:=bif agg then (match Du cs off with
 | some r=>match takeC r n with
  | some q=>some (.agg q)
  | none=>none
 | none=>none) else nth cs off
def Km (el:V) (off:Nat) (v:V):Option V:=match el with
 | .agg vs=>match sW vs off v.cells with
  | some q=>some (.agg q)
  | none=>none
 | _=>match off with
  | 0=>some v
  | _+1=>none
theorem CZ:∀ {l:List V} {n:Nat} {q:List V},takeC l n=some q→n≤l.length∧q=l.take n
 | l,0,q,h=>by cases l<;>(simp [takeC] at h;subst h;simp)
 | [],n+1,q,h=>by simp [takeC] at h
 | c::r,n+1,q,h=>by
  rw [takeC] at h
  cases hr:takeC r n with
  | none=>rw [hr] at h;cases h
  | some p =>
   rw [hr] at h;cases h
   obtain ⟨h1,rfl⟩:=CZ hr
   exact ⟨by simp;omega,by simp⟩
theorem BA:∀ {l:List V} {n:Nat} {q:List V},Du l n=some q→n≤l.length∧q=l.drop n
 | l,0,q,h=>by cases l<;>(simp [Du] at h;subst h;simp)
 | [],n+1,q,h=>by simp [Du] at h
 | c::r,n+1,q,h=>by
  rw [Du] at h
  obtain ⟨h1,rfl⟩:=BA h
  exact ⟨by simp;omega,by simp⟩
theorem nZ:∀ {l:List V} {n:Nat} {us q:List V},sW l n us=some q→n+us.length≤l.length∧q=l.take n++us++l.drop (n+us.length)
 | l,0,[],q,h=>by cases l<;>(simp [sW] at h;subst h;simp)
 | [],0,u::us,q,h=>by simp [sW] at h
 | c::r,0,u::us,q,h=>by
  rw [sW] at h
  cases hr:sW r 0 us with
  | none=>rw [hr] at h;cases h
  | some p =>
   rw [hr] at h;cases h
   obtain ⟨h1,rfl⟩:=nZ hr
   exact ⟨by simp at h1 ⊢;omega,by simp⟩
 | [],n+1,us,q,h=>by cases us<;>simp [sW] at h
 | c::r,n+1,us,q,h=>by
  have h:(match sW r n us with|some q=>some (c::q)|none=>none)=some q:=by cases us<;>simpa [sW] using h
  cases hr:sW r n us with
  | none=>rw [hr] at h;cases h
  | some p =>
   rw [hr] at h;cases h
   obtain ⟨h1,rfl⟩:=nZ hr
   exact ⟨by simp at h1 ⊢;omega,by simp [show n+1+us.length=n+us.length+1 from by omega]⟩
theorem JH (h:lJ cs off true n=some v):off+n≤cs.length∧v = .agg ((cs.drop off).take n):=by
 unfold lJ at h
 rw [cond_true] at h
 cases hd:Du cs off with
 | none=>rw [hd] at h;cases h
 | some r =>
  rw [hd] at h
  simp only at h
  cases ht:takeC r n with
  | none=>rw [ht] at h;cases h
  | some q =>
   rw [ht] at h;cases h
   obtain ⟨h1,rfl⟩:=BA hd
   obtain ⟨h2,rfl⟩:=CZ ht
   simp at h2
   exact ⟨by omega,rfl⟩
theorem JQ (h:lJ cs off false n=some v):cs[off]? = some v:=by
 unfold lJ at h
 rw [cond_false,dw] at h
 exact h
section
variable {X A:Nat→Prop} {φ:Nat→Pl} {w:World}
variable {x:Value} {n i:Nat} {us:List V} {off b:Nat}
theorem addr_add (b o n:Nat):(⟨b,o,none⟩:Addr).add n=⟨b,o+n,none⟩:=by
 unfold Addr.add
 split
 ·subst_vars;rfl
 ·rfl
def Tgt (X A:Nat→Prop) (φ:Nat→Pl) (w:World) (b o:Nat) (us:List V):Prop:=∀ (j:Nat) u,us[j]? = some u→∃ c,w.cell? ⟨b,o+j,none⟩=some c∧Rep X A φ w u c
theorem Tgt.drop {o:Nat} (h:Tgt X A φ w b o us) (n:Nat):Tgt X A φ w b (o+n) (us.drop n):=fun j u hu=>by
 rw [List.getElem?_drop] at hu
 obtain ⟨c,h1,h2⟩:=h (n+j) u hu
 exact ⟨c,by rw [Nat.add_assoc];exact h1,h2⟩
theorem Tgt.list {o:Nat} (h:Tgt X A φ w b o us):∃ cs:List Value,cs.length=us.length∧(∀ (j:Nat) c,cs[j]? = some c→w.cell? ⟨b,o+j,none⟩=some c)∧∀ (i:Nat) u c,us[i]? = some u→cs[i]? = some c→Rep X A φ w u c:=by
 refine ⟨(List.range us.length).map fun j=>(w.cell? ⟨b,o+j,none⟩).getD undef,by simp,fun j c hc=>?_,fun i u c hu hc=>?_⟩
 ·simp only [List.getElem?_map,Option.map_eq_some_iff] at hc
  obtain ⟨k,hk,rfl⟩:=hc
  obtain ⟨hj,rfl⟩:=List.getElem?_eq_some_iff.1 hk
  simp at hj ⊢
  obtain ⟨c,h1,_⟩:=h j us[j] (List.getElem?_eq_getElem hj)
  rw [h1];rfl
 ·have hi:=(List.getElem?_eq_some_iff.1 hu).1
  simp [hi] at hc
  obtain ⟨c',h1,h2⟩:=h i u hu
  rw [h1] at hc
  simp at hc
  subst hc
  exact h2
theorem Xn {vs:List V} {cs:Array Value} (hl:vs.length=cs.size) (h1:∀ v∈vs,v.one=true) (h:∀ (i:Nat) v c,vs[i]? = some v→cs[i]? = some c→Rep X A φ w v c) (off n:Nat) (hn:off+n≤vs.length):Rep X A φ w (.agg ((vs.drop off).take n)) (.agg (cs.extract off (off+n))):=by
 refine .agg ?_ (fun v hv=>h1 v (List.mem_of_mem_drop (List.mem_of_mem_take hv))) fun i v c hv hc=>?_
 ·simp;omega
 ·have hi:i<n:=by
   have:=(List.getElem?_eq_some_iff.1 hv).1
   simp at this;omega
  rw [List.getElem?_take_of_lt hi,List.getElem?_drop] at hv
  refine h (off+i) v c hv ?_
  rw [← hc]
  have:off+i<cs.size:=by omega
  simp [Array.getElem?_extract]
  omega
theorem iX (h:Rep X A φ w (.loc n i off) x):∃ b,(φ n).blk=some b∧x = .pointer (some ⟨b,i*(φ n).sz+off,none⟩):=by
 cases h with
 | fz h=>cases h
 | loc h1 h2=>exact ⟨_,h2,rfl⟩
theorem Tw {cs:List V} (h:Rep X A φ w (.fp cs off) x):∃ b o,x = .pointer (some ⟨b,o+off,none⟩)∧(∀ u∈cs,u.one=true)∧Tgt X A φ w b o cs∧¬ X b∧b<w.heap.size:=by
 cases h with
 | fz h=>cases h with
  | fp c h1 h2 h3 h4 h5=>exact ⟨_,_,rfl,h3,fun j u hu=>⟨c j,h4 j u hu,.fz (h5 j u hu)⟩,h1,h2⟩
theorem GD {N:Env} {M:Nat→Prop} {s:S} {a:Act} {T sz:Nat} {xs:List V} {el:V} (hr:Rel N M A φ s a w) (hb:s.blk n=some (.els T sz xs)) (he:xs[i]? = some el):∃ b,(φ n).blk=some b∧(φ n).sz=sz∧M b∧el.cells.length=sz∧(∀ u∈el.cells,u.one=true)∧Tgt (fun b=>M b∨N b) A φ w b (i*sz) el.cells:=by
 obtain ⟨h1,_,_,h2,h3|⟨b,cur,h3,h4,h5,h6,_,_,h8⟩⟩:=(hr.st n _ hb).2
 ·rw [h3.2.1] at he;simp at he
 ·obtain ⟨g1,g2⟩:=h2 el (List.mem_of_getElem? he)
  refine ⟨b,h3,h1,h4,g1,g2,fun j u hu=>?_⟩
  obtain ⟨c,hc,hrep⟩:=h8 i j el u he hu
  exact ⟨c,by simp [World.cell?,h5,hc],hrep⟩
variable {P:Program} {tb:List Ty} {T:Nat} {e:Ty}
theorem Bb {us:List V} {b o off:Nat} {v:V} (htb:aL P tb) (hT:nth tb T=some e) (h1:∀ u∈us,u.one=true) (h:Tgt X A φ w b o us) (hv:lJ us off e.agg e.size=some v) :
  ∃ x,(Instr.loadAt T (.pointer (some ⟨b,o+off,none⟩))).run P w = .ok x w∧Rep X A φ w v x:=by
 obtain ⟨i,d,ht⟩:=aV htb hT
 cases ha:e.agg with
 | true =>
  rw [ha] at hv
  obtain ⟨hn,rfl⟩:=JH hv
  have h2:Tgt X A φ w b (o+off) ((us.drop off).take e.size):=fun j u hu=>by
   have hj:j<e.size:=by
    have:=(List.getElem?_eq_some_iff.1 hu).1
    simp at this;omega
   rw [List.getElem?_take_of_lt hj] at hu
   exact h.drop off j u hu
  obtain ⟨cs,h3,h4,h5⟩:=h2.list
  have hlen:cs.length=e.size:=by rw [h3];simp;omega
  refine ⟨.agg cs.toArray,?_,.agg (by simpa using h3.symm) (fun v hv=>h1 v (List.mem_of_mem_drop (List.mem_of_mem_take hv))) (fun i v c hv hc=>h5 i v c hv (by simpa using hc))⟩
  have hd:d.isRow=true:=by
   have:=ht.agg;rw [ha] at this
   cases d<;>first|rfl|(simp [DT] at this)
  have:=run_loadVar_mid (P:=P) w b (o+off) T cs d (fun j v hv=>h4 j v hv) ht.und hd (by rw [ht.info,Option.map_some,ht.size,hlen])
  unfold Instr.loadAt Instr.sureAddr
  simp only [Sem.run_bind,Sem.run_pure,Result.andThen_ok,this]
 | false =>
  rw [ha] at hv
  obtain ⟨c,h2,h3⟩:=h off v (JQ hv)
  refine ⟨c,?_,h3⟩
  have hd:(match d with|.struct _|.array _ _=>true|_=>false)=false:=by
   have:=ht.agg;rw [ha] at this
   cases d<;>first|rfl|(simp [DT] at this)
  unfold Instr.loadAt Instr.sureAddr loadVar isAgg
  simp only [Sem.run_bind,Sem.run_pure,Result.andThen_ok,run_underlying ht.und]
  cases d<;>first|(simp at hd;done)|simp [run_load,h2]
variable {N:Env} {o:Oper}
variable {cs:List V} {ft n:Nat} {vs:List V} {x:Operand} {f i:Nat} {v:V} {ef:Ty} {off k:Nat}
theorem eD {t:TypeId} {i:TypeInfo} (h:P.info? t=some i):(sizeOf t).run P w = .ok i.size w:=by simp [sizeOf,typeInfo,h]
theorem Jy {x:Value} (h:Rep X A φ w (.loc n i off) x):A n:=by
 cases h with
 | fz h=>cases h
 | loc h _=>exact h
theorem Dl {T' sz:Nat} {xs:List V} {el:V} (htb:aL P tb) (ho:o.op = .load T x) (hT:nth tb T=some e) (he:xs[i]? = some el) (hv:lJ el.cells off e.agg e.size=some v):
  aC P N o ⟨[(x,.loc n i off)],[(n,.els T' sz xs)]⟩ v [] []:=aD fun s M A φ a w hh hr=>by
 obtain ⟨b,h1,h2⟩:=iX (hr.ev hh.a)
 obtain ⟨b',g1,g2,g3,g4,g5,g6⟩:=GD hr hh.n he
 rw [h1] at g1;cases g1
 rw [g2] at h2
 obtain ⟨u,k1,k2⟩:=Bb htb hT g5 g6 hv
 refine ⟨u,?_,k2⟩
 unfold execOp
 simp only [ho,h2,Sem.run_bind,k1,Result.andThen_ok,Sem.run_pure]
theorem zR (htb:aL P tb) (ho:o.op = .load T x) (hT:nth tb T=some e) (hv:lJ cs off e.agg e.size=some v):
  aC P N o ⟨[(x,.fp cs off)],[]⟩ v [] []:=aD fun s M A φ a w hh hr=>by
 obtain ⟨b,o',h1,h2,h3,_⟩:=Tw (hr.ev hh.a)
 obtain ⟨u,k1,k2⟩:=Bb htb hT h2 h3 hv
 refine ⟨u,?_,k2⟩
 unfold execOp
 simp only [ho,h1,Sem.run_bind,k1,Result.andThen_ok,Sem.run_pure]
theorem Nb {i:TypeInfo} {d:TypeDesc} (ht:GV P T e i d) (hf:nth e.flds f=some (off,ft)):∃ fs fl,d = .struct fs∧fs[f]? = some fl∧fl.offset=off∧fl.type=ft:=by
 have h1:=ht.flds
 rw [dw] at hf
 cases d with
 | struct fs =>
  simp only [Dn] at h1
  rw [h1] at hf
  simp only [List.getElem?_map,Option.map_eq_some_iff,Array.getElem?_toList,Prod.mk.injEq] at hf
  obtain ⟨fl,h2,h3,h4⟩:=hf
  exact ⟨fs,fl,rfl,h2,h3,h4⟩
 | _=>simp only [Dn] at h1;rw [h1] at hf;simp at hf
theorem LC {cs:Array Value} (htb:aL P tb) (hF:nth tb ft=some ef) (hl:vs.length=cs.size) (h1:∀ v∈vs,v.one=true) (h:∀ (i:Nat) v c,vs[i]? = some v→cs[i]? = some c→Rep X A φ w v c) (hv:lJ vs off ef.agg ef.size=some v):
  ∃ x,(part ft cs off).run P w = .ok x w∧Rep X A φ w v x:=by
 obtain ⟨i,d,ht⟩:=aV htb hF
 unfold part isAgg
 simp only [Sem.run_bind,run_underlying ht.und,Result.andThen_ok]
 cases ha:ef.agg with
 | true =>
  rw [ha] at hv
  obtain ⟨hb,rfl⟩:=JH hv
  refine ⟨.agg (cs.extract off (off+ef.size)),?_,Xn hl h1 h off ef.size hb⟩
  have:=ht.agg;rw [ha] at this
  cases d<;>first|(simp [DT] at this;done)|simp [sizeOf,typeInfo,ht.info,ht.size]
 | false =>
  rw [ha] at hv
  have hv:=JQ hv
  have hi:off<cs.size:=by rw [← hl];exact (List.getElem?_eq_some_iff.1 hv).1
  have hc:cs[off]? = some cs[off]:=by simp [hi]
  refine ⟨cs[off],?_,h off v _ hv hc⟩
  have:=ht.agg;rw [ha] at this
  cases d<;>first|(simp [DT] at this;done)|simp [hc]
theorem Sk (htb:aL P tb) (ho:o.op = .field T x f) (hT:nth tb T=some e) (hf:nth e.flds f=some (off,ft)) (hF:nth tb ft=some ef) (hv:lJ vs off ef.agg ef.size=some v):
  aC P N o ⟨[(x,.agg vs)],[]⟩ v [] []:=aD fun s M A φ a w hh hr=>by
 obtain ⟨cs,h1,h2,h3,h4⟩:=jw (hr.ev hh.a)
 obtain ⟨i,d,ht⟩:=aV htb hT
 obtain ⟨fs,fl,rfl,g1,g2,g3⟩:=Nb ht hf
 obtain ⟨u,k1,k2⟩:=LC htb hF h2 h3 h4 hv
 refine ⟨u,?_,k2⟩
 unfold execOp
 simp only [ho,h1,Instr.field,Sem.run_bind,run_underlying ht.und,Result.andThen_ok,g1,asAgg,Sem.run_pure,g2,g3,k1]
theorem gX (htb:aL P tb) (ho:o.op = .fieldAddr T x f) (hT:nth tb T=some e) (hf:nth e.flds f=some (off,ft)) (hF:nth tb ft=some ef) (h0:Nat.ble 1 ef.size=true):
  aC P N o ⟨[(x,.loc n i k)],[]⟩ (.loc n i (k+off)) [] []:=aD fun s M A φ a w hh hr=>by
 have hrep:=hr.ev hh.a
 obtain ⟨b,h1,h2⟩:=iX hrep
 obtain ⟨ti,d,ht⟩:=aV htb hT
 obtain ⟨fi,fd,hft⟩:=aV htb hF
 obtain ⟨fs,fl,rfl,g1,g2,g3⟩:=Nb ht hf
 have hA:A n:=Jy hrep
 refine ⟨.pointer (some ⟨b,i*(φ n).sz+(k+off),none⟩),?_,.loc hA h1⟩
 have hne:¬ ef.size=0:=by have:=Nat.le_of_ble_eq_true h0;omega
 unfold execOp
 simp only [ho,h2,Instr.fieldAt,Sem.run_bind,run_underlying ht.und,Result.andThen_ok,g1,Instr.sureAddr,Sem.run_pure,fieldPlace,g2,g3,eD hft.info,hft.size,if_neg hne,addr_add,Nat.add_assoc]
theorem ze (htb:aL P tb) (ho:o.op = .fieldAddr T x f) (hT:nth tb T=some e) (hf:nth e.flds f=some (off,ft)) (hF:nth tb ft=some ef) (h0:Nat.ble 1 ef.size=true):
  aC P N o ⟨[(x,.fp cs k)],[]⟩ (.fp cs (k+off)) [] []:=aD fun s M A φ a w hh hr=>by
 have hrep:=hr.ev hh.a
 obtain ⟨ti,d,ht⟩:=aV htb hT
 obtain ⟨fi,fd,hft⟩:=aV htb hF
 obtain ⟨fs,fl,rfl,g1,g2,g3⟩:=Nb ht hf
 have hne:¬ ef.size=0:=by have:=Nat.le_of_ble_eq_true h0;omega
 generalize ha:a.eval x=c at hrep
 cases hrep with
 | fz hz=>cases hz with
  | @fp _ b o' _ c h1 h2 h3 h4 h5 =>
   refine ⟨.pointer (some ⟨b,o'+(k+off),none⟩),?_,.fz (.fp c h1 h2 h3 h4 h5)⟩
   unfold execOp
   simp only [ho,ha,Instr.fieldAt,Sem.run_bind,run_underlying ht.und,Result.andThen_ok,g1,Instr.sureAddr,Sem.run_pure,fieldPlace,g2,g3,eD hft.info,hft.size,if_neg hne,addr_add,Nat.add_assoc]
end
end Abs
namespace Abs
open Go.RowKit Mem Facts
section
variable {X A:Nat→Prop} {φ:Nat→Pl} {w:World} {P:Program} {tb:List Ty} {T:Nat} {e ee:Ty} {N:Env} {o:Oper}
variable {el len elem:Nat} {y:Operand} {xs:List V} {ts:List (Operand × V)} {n cap t l:Nat} {k:IntKind} {i0:Nat} {hi:Option Operand} {cs:List V} {x:Operand} {ad:Addr} {ix:Operand} {m:Nat} {d:TypeDesc} {h:Nat} {i:Int} {lo:Option Operand} {ii:TypeInfo} {v:V} {z:Operand} {off:Nat}
theorem tO {x:Value} (h:Rep X A φ w (.fro xs) x):xs.length≤LIM∧((xs=[]∧∃ B cap,x = .slice B 0 cap∧(B=none→cap=0)) ∨
  ∃ b o sz cap,∃ c:Nat→Nat→Value,x = .slice (some ⟨b,o,none⟩) xs.length cap∧¬ X b∧b<w.heap.size∧0<sz∧xs.length≤cap∧(∀ x∈xs,x.cells.length=sz∧∀ u∈x.cells,u.one=true) ∧
   (∀ (i j:Nat) x u,xs[i]? = some x→x.cells[j]? = some u→w.cell? ⟨b,o+i*sz+j,none⟩=some (c i j))∧(∀ (i j:Nat) x u,xs[i]? = some x→x.cells[j]? = some u→Fz X w u (c i j))):=by
 cases h with
 | fz h=>cases h with
  | fro0 h1=>exact ⟨by simp [LIM],.inl ⟨rfl,_,_,rfl,h1⟩⟩
  | fro c h1 h2 h3 h4 h5 h6 h7 h8=>exact ⟨h5,.inr ⟨_,_,_,_,c,rfl,h1,h2,h3,h4,h6,h7,h8⟩⟩
theorem QT {x:Value} (h:Rep X A φ w (.fro xs) x):∃ B cap,x = .slice B xs.length cap:=by
 obtain ⟨_,⟨h1,B,cap,h2,_⟩|⟨b,o,sz,cap,c,h1,_⟩⟩:=tO h
 ·subst h1;exact ⟨B,cap,h2⟩
 ·exact ⟨_,_,h1⟩
theorem LD (htb:aL P tb) (ho:o.op = .call { callee:=.builtin .len,args := #[x],argTypes := #[t] }) (hT:nth tb t=some e) (hs:e.sl=some el):aC P N o ⟨[(x,.fro xs)],[]⟩ (.int .i64 xs.length) [] []:=aD fun s M A φ a w hh hr=>by
 obtain ⟨i,d,ht⟩:=aV htb hT
 obtain ⟨B,cap,h1⟩:=QT (hr.ev hh.a)
 refine ⟨.int .i64 xs.length,?_,.fz (.int ⟨by simp only [rng];omega,by have:=(tO (hr.ev hh.a)).1;simp only [rng,LIM] at this ⊢;omega⟩)⟩
 have hd:d = .slice el:=by
  have:=ht.sl;rw [hs] at this
  cases d<;>simp [MW] at this;rw [this]
 subst hd
 unfold execOp
 simp only [ho,resolve,Sem.run_bind,Sem.run_pure,Result.andThen_ok,invoke,builtin,List.map_toArray,List.map_cons,List.map_nil,h1]
 simp [Builtin.len_,run_underlying ht.und]
 rfl
theorem Je (htb:aL P tb) (ho:o.op = .call { callee:=.builtin .len,args := #[x],argTypes := #[t] }) (hT:nth tb t=some e) (hs:e.sl=some el):aC P N o ⟨[(x,.nils)],[]⟩ (.int .i64 0) [] []:=aD fun s M A φ a w hh hr=>by
 obtain ⟨i,d,ht⟩:=aV htb hT
 have h1:a.eval x = .slice none 0 0:=by
  have:=hr.ev hh.a
  generalize a.eval x=c at this ⊢
  cases this with
  | fz h=>cases h;rfl
 refine ⟨.int .i64 0,?_,.fz (.int (oo _))⟩
 have hd:d = .slice el:=by
  have:=ht.sl;rw [hs] at this
  cases d<;>simp [MW] at this;rw [this]
 subst hd
 unfold execOp
 simp only [ho,resolve,Sem.run_bind,Sem.run_pure,Result.andThen_ok,invoke,builtin,List.map_toArray,List.map_cons,List.map_nil,h1]
 simp [Builtin.len_,run_underlying ht.und]
 rfl
theorem Yo {i:Nat} {x:Value} (h:Rep X A φ w (.own n i len) x):∃ B cap,x = .slice B len cap:=by
 cases h with
 | fz h=>cases h
 | own0=>exact ⟨_,_,rfl⟩
 | own=>exact ⟨_,_,rfl⟩
theorem O7 {i:Nat} {x:Value} (h:Rep X A φ w (.own n i len) x):len≤maxLen:=by
 cases h with
 | fz h=>cases h
 | own0=>exact Nat.zero_le _
 | own h1 h2 h3 h4=>omega
theorem Kg (htb:aL P tb) (ho:o.op = .call { callee:=.builtin .len,args := #[x],argTypes := #[t] }) (hT:nth tb t=some e) (hs:e.sl=some el):aC P N o ⟨[(x,.own n i0 m)],[]⟩ (.int .i64 m) [] []:=aD fun s M A φ a w hh hr=>by
 obtain ⟨i,d,ht⟩:=aV htb hT
 obtain ⟨B,cap,h1⟩:=Yo (hr.ev hh.a)
 refine ⟨.int .i64 m,?_,.fz (.int ⟨by simp only [rng];omega,by have:=O7 (hr.ev hh.a);simp only [rng,maxLen] at this ⊢;omega⟩)⟩
 have hd:d = .slice el:=by
  have:=ht.sl;rw [hs] at this
  cases d<;>simp [MW] at this;rw [this]
 subst hd
 unfold execOp
 simp only [ho,resolve,Sem.run_bind,Sem.run_pure,Result.andThen_ok,invoke,builtin,List.map_toArray,List.map_cons,List.map_nil,h1]
 simp [Builtin.len_,run_underlying ht.und]
 rfl
theorem Gc {i:TypeInfo} (ht:GV P T e i d) (hs:e.sl=some el):P.underlying T=some (.slice el):=by
 have:=ht.sl;rw [hs] at this
 rw [ht.und]
 cases d<;>simp [MW] at this;rw [this]
theorem I8 {i:TypeInfo} (ht:GV P T e i d) (hs:e.arr=some (n,el)):P.underlying T=some (.array n el):=by
 have:=ht.arr;rw [hs] at this
 rw [ht.und]
 cases d<;>simp [yC] at this;rw [this.1,this.2]
theorem run_indexAt (h:P.underlying t=some (.slice elem)) (hi:P.info? elem=some ii) (h0:0≤i) (hlt:i<len):
  (Instr.indexAt t (.slice (some ad) len cap) (.int k i)).run P w = .ok (.pointer (some (ad.add (i.toNat*ii.size)))) w:=by
 simp [Instr.indexAt,asIntOf,run_underlying h,h0,hlt,sizeOf,typeInfo,hi]
theorem qN (h:P.underlying t=some (.array n elem)) (hi:P.info? elem=some ii) (h0:0≤i) (hlt:i<n):
  (Instr.indexAt t (.pointer (some ad)) (.int k i)).run P w = .ok (.pointer (some (ad.add (i.toNat*ii.size)))) w:=by
 simp [Instr.indexAt,asIntOf,run_underlying h,h0,hlt,sizeOf,typeInfo,hi,Instr.sureAddr]
theorem EL (htb:aL P tb) (ho:o.op = .indexAddr T x ix) (hT:nth tb T=some e) (hs:e.sl=some el) (hE:nth tb el=some ee) (h0:0≤i) (hv:xs[i.toNat]? = some v) (hz:v.cells.length=ee.size):
  aC P N o ⟨[(x,.fro xs),(ix,.int k i)],[]⟩ (.fp v.cells 0) [] []:=aD fun s M A φ a w hh hr=>by
 obtain ⟨ti,d,ht⟩:=aV htb hT
 obtain ⟨ei,de,hte⟩:=aV htb hE
 have hil:i.toNat<xs.length:=(List.getElem?_eq_some_iff.1 hv).1
 obtain ⟨_,⟨h1,_⟩|⟨b,o',sz,cap,c,h1,h2,h3,h4,h5,h6,h7,h8⟩⟩:=tO (hr.ev hh.a)
 ·subst h1;simp at hv
 ·have hsz:sz=ei.size:=by rw [hte.size,← hz];exact (h6 v (List.mem_of_getElem? hv)).1.symm
  refine ⟨.pointer (some ⟨b,o'+i.toNat*sz+0,none⟩),?_,.fz (.fp (c i.toNat) h2 h3 (h6 v (List.mem_of_getElem? hv)).2 (fun j u hu=>h7 _ j v u hv hu) (fun j u hu=>h8 _ j v u hv hu))⟩
  unfold execOp
  simp only [ho,h1,hr.int hh.b,Sem.run_bind,run_indexAt (Gc ht hs) hte.info h0 (show i<(xs.length:Int) by omega),Result.andThen_ok,Sem.run_pure,addr_add,hsz,Nat.add_zero]
theorem xN {T':Nat} (htb:aL P tb) (ho:o.op = .indexAddr T x ix) (hT:nth tb T=some e) (hs:e.sl=some el) (hE:nth tb el=some ee) (h0:0≤i) (hlt:i<m):
  aC P N o ⟨[(x,.own n i0 m),(ix,.int k i)],[(n,.els T' ee.size xs)]⟩ (.loc n (i0+i.toNat) 0) [] []:=aD fun s M A φ a w hh hr=>by
 obtain ⟨ti,d,ht⟩:=aV htb hT
 obtain ⟨ei,de,hte⟩:=aV htb hE
 have hsz:=(hr.st n _ hh.n).2.1
 have hrep:=hr.ev hh.a
 generalize ha:a.eval x=y at hrep
 cases hrep with
 | fz h=>cases h
 | own0 h1 h2=>omega
 | @own _ _ _ b h1 h2 h3 _ =>
  refine ⟨.pointer (some ⟨b,(i0+i.toNat)*(φ n).sz+0,none⟩),?_,.loc h1 h2⟩
  unfold execOp
  simp only [ho,ha,hr.int hh.b,Sem.run_bind,run_indexAt (Gc ht hs) hte.info h0 hlt,Result.andThen_ok,Sem.run_pure,addr_add,hte.size,hsz,Nat.add_mul,Nat.add_zero]
theorem xL (htb:aL P tb) (ho:o.op = .indexAddr T x ix) (hT:nth tb T=some e) (hs:e.arr=some (len,el)) (hE:nth tb el=some ee) (h0:0≤i) (hlt:i<len):
  aC P N o ⟨[(x,.loc n i0 off),(ix,.int k i)],[]⟩ (.loc n i0 (off+i.toNat*ee.size)) [] []:=aD fun s M A φ a w hh hr=>by
 obtain ⟨ti,d,ht⟩:=aV htb hT
 obtain ⟨ei,de,hte⟩:=aV htb hE
 have hrep:=hr.ev hh.a
 obtain ⟨b,h1,h2⟩:=iX hrep
 refine ⟨.pointer (some ⟨b,i0*(φ n).sz+(off+i.toNat*ee.size),none⟩),?_,.loc (Jy hrep) h1⟩
 unfold execOp
 simp only [ho,h2,hr.int hh.b,Sem.run_bind,qN (I8 ht hs) hte.info h0 hlt,Result.andThen_ok,Sem.run_pure,addr_add,hte.size,Nat.add_assoc]
theorem ru (htb:aL P tb) (ho:o.op = .indexAddr T x ix) (hT:nth tb T=some e) (hs:e.arr=some (len,el)) (hE:nth tb el=some ee) (h0:0≤i) (hlt:i<len):
  aC P N o ⟨[(x,.fp cs off),(ix,.int k i)],[]⟩ (.fp cs (off+i.toNat*ee.size)) [] []:=aD fun s M A φ a w hh hr=>by
 obtain ⟨ti,d,ht⟩:=aV htb hT
 obtain ⟨ei,de,hte⟩:=aV htb hE
 have hrep:=hr.ev hh.a
 generalize ha:a.eval x=c at hrep
 cases hrep with
 | fz hz=>cases hz with
  | @fp _ b o' _ c h1 h2 h3 h4 h5 =>
   refine ⟨.pointer (some ⟨b,o'+(off+i.toNat*ee.size),none⟩),?_,.fz (.fp c h1 h2 h3 h4 h5)⟩
   unfold execOp
   simp only [ho,ha,hr.int hh.b,Sem.run_bind,qN (I8 ht hs) hte.info h0 hlt,Result.andThen_ok,Sem.run_pure,addr_add,hte.size,Nat.add_assoc]
theorem EX {vs:List V} (htb:aL P tb) (ho:o.op = .index T x ix) (hT:nth tb T=some e) (hs:e.arr=some (len,el)) (hE:nth tb el=some ee) (h0:0≤i) (hlt:i<len) (hv:lJ vs (i.toNat*ee.size) ee.agg ee.size=some v):
  aC P N o ⟨[(x,.agg vs),(ix,.int k i)],[]⟩ v [] []:=aD fun s M A φ a w hh hr=>by
 obtain ⟨ti,d,ht⟩:=aV htb hT
 obtain ⟨ei,de,hte⟩:=aV htb hE
 obtain ⟨cs,h1,h2,h3,h4⟩:=jw (hr.ev hh.a)
 obtain ⟨u,k1,k2⟩:=LC (w:=w) htb hE h2 h3 h4 hv
 refine ⟨u,?_,k2⟩
 unfold execOp
 simp only [ho,h1,hr.int hh.b,Instr.index,asIntOf,Sem.run_bind,Sem.run_pure,Result.andThen_ok,run_underlying (I8 ht hs),h0,hlt,and_self,if_true,eD hte.info,hte.size,k1]
theorem EI {s:ByteArray} {c:UInt8} (htb:aL P tb) (ho:o.op = .index T x ix) (hT:nth tb T=some e) (hk:e.knd=2) (h0:0≤i) (hv:s[i.toNat]? = some c):
  aC P N o ⟨[(x,.str s),(ix,.int k i)],[]⟩ (.int .u8 (c.toNat:Int)) [] []:=aD fun s' M A φ a w hh hr=>by
 obtain ⟨ti,d,ht⟩:=aV htb hT
 have hd:d = .string:=by
  have:=ht.knd;rw [hk] at this
  exact pq this
 subst hd
 refine ⟨.int .u8 c.toNat,?_,.fz (.int ⟨by simp only [rng];omega,by have:=c.toNat_lt;simp only [rng];omega⟩)⟩
 unfold execOp
 simp only [ho,(hr.str hh.a).1,hr.int hh.b,Instr.index,asIntOf,Sem.run_bind,Sem.run_pure,Result.andThen_ok,run_underlying ht.und,h0,if_true,hv]
def nK (v:Option Value) (n dflt:Nat):Prop:=match v with
 | none=>n=dflt
 | some v=>∃ k,v = .int k n
theorem jT {b:Bool} {lo hi:Option Value} (hl:nK lo l 0) (hh:nK hi h len) (h1:l≤h) (h2:h≤cap):(Instr.sliceBounds b len cap lo hi none).run P w = .ok (l,h,cap) w:=by
 cases lo with
 | none =>
  simp only [nK] at hl;subst hl
  cases hi with
  | none=>simp only [nK] at hh;subst hh;simp [Instr.sliceBounds]
  | some v=>obtain ⟨k,rfl⟩:=hh;simp [Instr.sliceBounds,Instr.sliceBound,asIntOf,h2]
 | some u =>
  obtain ⟨k',rfl⟩:=hl
  cases hi with
  | none=>simp only [nK] at hh;subst hh;simp [Instr.sliceBounds,Instr.sliceBound,asIntOf,h1]
  | some v=>obtain ⟨k,rfl⟩:=hh;simp [Instr.sliceBounds,Instr.sliceBound,asIntOf,h1,h2]
def qj (x:Option Operand) (n dflt:Nat) (ts:List (Operand × V)):Prop:=match x with
 | none=>n=dflt
 | some x=>∃ k,(x,V.int k (n:Int))∈ts
theorem oH {M:Nat→Prop} {s:S} {a:Act} {x:Option Operand} {dflt:Nat} {fp:Fp} (h:qj x n dflt fp.ts) (hh:Holds fp s) (hr:Rel N M A φ s a w):nK (x.map a.eval) n dflt:=by
 cases x with
 | none=>exact h
 | some x =>
  obtain ⟨k,hk⟩:=h
  exact ⟨k,hr.int (hh.1 _ hk)⟩
theorem yU {s:ByteArray} (htb:aL P tb) (ho:o.op = .slice T x lo hi none) (hT:nth tb T=some e) (hk:e.knd=2) (hl:qj lo l 0 ts) (hh:qj hi h s.size ts) (h1:l≤h) (h2:h≤s.size):
  aC P N o ⟨(x,.str s)::ts,[]⟩ (.str (s.extract l h)) [] []:=aD fun s' M A φ a w hd hr=>by
 obtain ⟨ti,d,ht⟩:=aV htb hT
 have hdd:d = .string:=by
  have:=ht.knd;rw [hk] at this
  exact pq this
 subst hdd
 obtain ⟨g1,g2⟩:=hr.str hd.a
 have hd':Holds ⟨ts,[]⟩ s':=⟨fun p hp=>hd.1 p (List.mem_cons_of_mem _ hp),fun p hp=>by simp at hp⟩
 refine ⟨.string (s.extract l h),?_,.fz (.str ?_)⟩
 ·unfold execOp
  simp only [ho,g1,Instr.sliceAt,Sem.run_bind,run_underlying ht.und,Result.andThen_ok,Instr.slice,Option.map_none,Option.isSome_none,Sem.run_pure]
  simp [jT (oH (fp:=⟨ts,[]⟩) hl hd' hr) (oH (fp:=⟨ts,[]⟩) hh hd' hr) h1 h2]
 ·simp;omega
theorem ES {s:ByteArray} {k':IntKind} {l h:Int} (htb:aL P tb) (ho:o.op = .slice T x (some y) (some z) none) (hT:nth tb T=some e) (hk:e.knd=2) (h0:0≤l) (h1:l≤h) (h2:h≤s.size):
  aC P N o ⟨[(x,.str s),(y,.int k l),(z,.int k' h)],[]⟩ (.str (s.extract l.toNat h.toNat)) [] [] :=
 yU htb ho hT hk ⟨k,by simp [show ((l.toNat:Nat):Int)=l by omega]⟩ ⟨k',by simp [show ((h.toNat:Nat):Int)=h by omega]⟩ (by omega) (by omega)
theorem vY {s:ByteArray} {l:Int} (htb:aL P tb) (ho:o.op = .slice T x (some y) none none) (hT:nth tb T=some e) (hk:e.knd=2) (h0:0≤l) (h1:l≤s.size):
  aC P N o ⟨[(x,.str s),(y,.int k l)],[]⟩ (.str (s.extract l.toNat s.size)) [] [] :=
 yU htb ho hT hk ⟨k,by simp [show ((l.toNat:Nat):Int)=l by omega]⟩ rfl (by omega) (Nat.le_refl _)
theorem zf {s:ByteArray} {h:Int} (htb:aL P tb) (ho:o.op = .slice T x none (some z) none) (hT:nth tb T=some e) (hk:e.knd=2) (h0:0≤h) (h1:h≤s.size):
  aC P N o ⟨[(x,.str s),(z,.int k h)],[]⟩ (.str (s.extract 0 h.toNat)) [] [] :=
 yU htb ho hT hk rfl ⟨k,by simp [show ((h.toNat:Nat):Int)=h by omega]⟩ (by omega) (by omega)
theorem FR (htb:aL P tb) (ho:o.op = .slice T x lo hi none) (hT:nth tb T=some e) (hs:e.sl=some el) (hE:nth tb el=some ee) (hz:∀ x∈xs,x.cells.length=ee.size) (hl:qj lo l 0 ts) (hh:qj hi h xs.length ts) (h1:l≤h) (h2:h≤xs.length):
  aC P N o ⟨(x,.fro xs)::ts,[]⟩ (.fro ((xs.take h).drop l)) [] []:=aD fun s' M A φ a w hd hr=>by
 obtain ⟨ti,d,ht⟩:=aV htb hT
 obtain ⟨ei,de,hte⟩:=aV htb hE
 have hu:=Gc ht hs
 have hd':Holds ⟨ts,[]⟩ s':=⟨fun p hp=>hd.1 p (List.mem_cons_of_mem _ hp),fun p hp=>by simp at hp⟩
 have b1:=oH (fp:=⟨ts,[]⟩) hl hd' hr
 have b2:=oH (fp:=⟨ts,[]⟩) hh hd' hr
 obtain ⟨hlim,⟨g1,B,cap,g2,g3⟩|⟨b,o',sz,cap,c,g1,g2,g3,g4,g5,g6,g7,g8⟩⟩:=tO (hr.ev hd.a)
 ·subst g1
  obtain rfl:h=0:=by simpa using h2
  obtain rfl:l=0:=by omega
  have b1':nK (lo.map a.eval) 0 0:=b1
  have b2':nK (hi.map a.eval) 0 0:=b2
  refine ⟨.slice (if cap=0 then B else B.map (·.add (0*ei.size))) 0 cap,?_,?_⟩
  ·unfold execOp
   simp only [ho,g2,Instr.sliceAt,Sem.run_bind,run_underlying hu,Result.andThen_ok,Instr.slice,Option.map_none]
   simp [jT (b:=true) b1' b2' (Nat.le_refl 0) (Nat.zero_le cap),eD hte.info]
  ·refine .fz (.fro0 ?_)
   cases B with
   | none=>exact fun _=>g3 rfl
   | some B=>split<;>simp
 ·have hcap:h≤cap:=by omega
  have hlen:((xs.take h).drop l).length=h-l:=by simp;omega
  refine ⟨.slice (if cap=l then some ⟨b,o',none⟩ else some ⟨b,o'+l*ei.size,none⟩) (h-l) (cap-l),?_,?_⟩
  ·unfold execOp
   simp only [ho,g1,Instr.sliceAt,Sem.run_bind,run_underlying hu,Result.andThen_ok,Instr.slice,Option.map_none]
   simp [jT (b:=true) b1 b2 h1 hcap,eD hte.info,addr_add]
  ·by_cases he:h=l
   ·have:(xs.take h).drop l=[]:=by rw [← List.length_eq_zero_iff,hlen];omega
    rw [this,show h-l=0 by omega]
    exact .fz (.fro0 (by split<;>simp))
   ·have hsz:sz=ei.size:=by
     rw [hte.size,← hz _ (List.getElem_mem (show 0<xs.length by omega))]
     exact (g6 _ (List.getElem_mem (show 0<xs.length by omega))).1.symm
    rw [if_neg (by omega),← hlen,← hsz]
    refine .fz (.fro (fun i j=>c (l+i) j) g2 g3 g4 (by rw [hlen];omega) (by rw [hlen];omega) (fun x hx=>g6 x (List.mem_of_mem_take (List.mem_of_mem_drop hx))) (fun i j x u hx hu=>?_) (fun i j x u hx hu=>?_))
    ·rw [List.getElem?_drop] at hx
     have hlt:l+i<h:=by
      have:=(List.getElem?_eq_some_iff.1 hx).1
      simp at this;omega
     rw [List.getElem?_take_of_lt hlt] at hx
     have:=g7 (l+i) j x u hx hu
     rw [← this,Nat.add_mul]
     congr 2
     omega
    ·rw [List.getElem?_drop] at hx
     have hlt:l+i<h:=by
      have:=(List.getElem?_eq_some_iff.1 hx).1
      simp at this;omega
     rw [List.getElem?_take_of_lt hlt] at hx
     exact g8 (l+i) j x u hx hu
theorem Bu {l:Int} (htb:aL P tb) (ho:o.op = .slice T x (some y) none none) (hT:nth tb T=some e) (hs:e.sl=some el) (hE:nth tb el=some ee) (hz:∀ x∈xs,x.cells.length=ee.size) (h0:0≤l) (h1:l≤xs.length):
  aC P N o ⟨[(x,.fro xs),(y,.int k l)],[]⟩ (.fro (xs.drop l.toNat)) [] []:=by
 have:=FR (P:=P) (N:=N) (x:=x) (l:=l.toNat) (h:=xs.length) (ts:=[(y,.int k l)]) htb ho hT hs hE hz ⟨k,by simp [show ((l.toNat:Nat):Int)=l by omega]⟩ rfl (by omega) (Nat.le_refl _)
 simpa using this
theorem GJ {h:Int} (htb:aL P tb) (ho:o.op = .slice T x none (some z) none) (hT:nth tb T=some e) (hs:e.sl=some el) (hE:nth tb el=some ee) (hz:∀ x∈xs,x.cells.length=ee.size) (h0:0≤h) (h1:h≤xs.length):
  aC P N o ⟨[(x,.fro xs),(z,.int k h)],[]⟩ (.fro (xs.take h.toNat)) [] []:=by
 have:=FR (P:=P) (N:=N) (x:=x) (l:=0) (h:=h.toNat) (ts:=[(z,.int k h)]) htb ho hT hs hE hz rfl ⟨k,by simp [show ((h.toNat:Nat):Int)=h by omega]⟩ (by omega) (by omega)
 simpa using this
theorem zD (htb:aL P tb) (ho:o.op = .slice T x none none none) (hT:nth tb T=some e) (hs:e.arr=some (len,el)) (hE:nth tb el=some ee) (_h1:ee.size=1) (h0:0<len) (hl:len≤LIM) (hc:off+len≤cs.length) (hone:∀ u∈cs,u.cells=[u]):
  aC P N o ⟨[(x,.fp cs off)],[]⟩ (.fro ((cs.drop off).take len)) [] []:=aD fun s' M A φ a w hd hr=>by
 obtain ⟨ti,d,ht⟩:=aV htb hT
 obtain ⟨ei,de,hte⟩:=aV htb hE
 have hu:=I8 ht hs
 have hrep:=hr.ev hd.a
 generalize ha:a.eval x=c at hrep
 cases hrep with
 | fz hz=>cases hz with
  | @fp _ b o' _ c g1 g2 g3 g4 g5 =>
   have hlen:((cs.drop off).take len).length=len:=by simp;omega
   refine ⟨.slice (some ⟨b,o'+off,none⟩) ((cs.drop off).take len).length len,?_,.fz (.fro (sz:=1) (fun i _=>c (off+i)) g1 g2 (by decide) (by omega) (by omega) (fun x hx=>?_) (fun i j x u hx hu=>?_) (fun i j x u hx hu=>?_))⟩
   ·unfold execOp
    rw [hlen]
    simp only [ho,ha,Instr.sliceAt,Sem.run_bind,run_underlying hu,Result.andThen_ok,Option.map_none,Instr.sureAddr,Sem.run_pure]
    simp [jT (P:=P) (w:=w) (b:=false) (lo:=none) (hi:=none) (l:=0) (h:=len) (len:=len) (cap:=len) rfl rfl (Nat.zero_le _) (Nat.le_refl _),eD hte.info,show ¬ len=0 by omega,addr_add]
   ·have hm:=List.mem_of_mem_drop (List.mem_of_mem_take hx)
    rw [hone x hm]
    exact ⟨rfl,fun u hu=>by rw [List.mem_singleton] at hu;subst hu;exact g3 _ hm⟩
   ·have hi:i<len:=by have:=(List.getElem?_eq_some_iff.1 hx).1;omega
    rw [List.getElem?_take_of_lt hi,List.getElem?_drop] at hx
    rw [hone x (List.mem_of_getElem? hx)] at hu
    have:j=0∧u=x:=by
     rcases j with _|j
     ·simp at hu;exact ⟨rfl,hu.symm⟩
     ·simp at hu
    obtain ⟨rfl,rfl⟩:=this
    have:=g4 (off+i) u hx
    rw [← this];congr 2;omega
   ·have hi:i<len:=by have:=(List.getElem?_eq_some_iff.1 hx).1;omega
    rw [List.getElem?_take_of_lt hi,List.getElem?_drop] at hx
    rw [hone x (List.mem_of_getElem? hx)] at hu
    have:u=x:=by
     rcases j with _|j
     ·simp at hu;exact hu.symm
     ·simp at hu
    subst this
    exact g5 (off+i) u hx
end
end Abs
namespace Abs
open Go.RowKit Mem Facts
section
variable {X A:Nat→Prop} {φ:Nat→Pl} {w:World} {P:Program} {tb:List Ty} {T:Nat} {e ee:Ty} {N:Env} {M:Nat→Prop} {o:Oper} {s:S} {a:Act}
variable {el el':V} {x:Value} {n:Nat} {dst:Option Nat} {sz:Nat} {cur:Array Value} {nx:Nat} {v:V} {xs':List V} {ν off b:Nat} {xs:List V} {T':Nat}
theorem pK (h:Rep X A φ w v x) (hn:v.names=[]):Fz X w v x:=by
 suffices H:∀ {v:V} {x:Value},Rep X A φ w v x→v.names=[]→Fz X w v x from H h hn
 intro v x h
 induction h with
 | fz h=>exact fun _=>h
 | agg h1 h2 _ ih =>
  intro hn
  rw [V.names] at hn
  refine .agg h1 h2 fun i y c hy hc=>ih i y c hy hc (List.eq_nil_iff_forall_not_mem.2 fun m hm=>?_)
  have:=aB.2 ⟨y,List.mem_of_getElem? hy,hm⟩
  rw [hn] at this;cases this
 | tup h1 _ ih =>
  intro hn
  rw [V.names] at hn
  refine .tup h1 fun i y c hy hc=>ih i y c hy hc (List.eq_nil_iff_forall_not_mem.2 fun m hm=>?_)
  have:=aB.2 ⟨y,List.mem_of_getElem? hy,hm⟩
  rw [hn] at this;cases this
 | fn h1 h2 _ _ ih1 ih2 =>
  intro hn
  rw [V.names,List.append_eq_nil_iff] at hn
  refine .fn h1 h2 (fun i y c hy hc=>ih1 i y c hy hc (List.eq_nil_iff_forall_not_mem.2 fun m hm=>?_)) (fun i y c hy hc=>ih2 i y c hy hc (List.eq_nil_iff_forall_not_mem.2 fun m hm=>?_))
  ·have:=aB.2 ⟨y,List.mem_of_getElem? hy,hm⟩
   rw [hn.1] at this;cases this
  ·have:=aB.2 ⟨y,List.mem_of_getElem? hy,hm⟩
   rw [hn.2] at this;cases this
 | ifc _ ih=>exact fun hn=>.ifc (ih (by rw [V.names] at hn;exact hn))
 | own0=>intro hn;simp [V.names] at hn
 | own=>intro hn;simp [V.names] at hn
 | loc=>intro hn;simp [V.names] at hn
 | mp=>intro hn;simp [V.names] at hn
theorem jW (h:Rep X A φ w v x) (h1:v.cells.all V.one=true):v.cells.length=x.cells.size∧∀ (j:Nat) u,v.cells[j]? = some u→∃ c,x.cells[j]? = some c∧Rep X A φ w u c:=by
 have hone:∀ {v:V} {x:Value},Rep X A φ w v x→v.one=true→v.cells=[v]→x.cells = #[x]→v.cells.length=x.cells.size∧∀ (j:Nat) u,v.cells[j]? = some u→∃ c,x.cells[j]? = some c∧Rep X A φ w u c:=by
  intro v x h _ h2 h3
  rw [h2,h3]
  refine ⟨rfl,fun j u hu=>?_⟩
  rcases j with _|j
  ·simp at hu;subst hu;exact ⟨x,rfl,h⟩
  ·simp at hu
 by_cases hv:v.one=true
 ·have h3:=h.one hv
  refine hone h hv ?_ ?_
  ·cases v<;>first|rfl|(simp [V.one] at hv)
  ·cases x<;>first|rfl|(simp [Value.oneCell'] at h3)
 ·cases v with
  | agg vs =>
   obtain ⟨cs,rfl,h2,h3,h4⟩:=jw h
   refine ⟨h2,fun j u hu=>?_⟩
   have hj:j<cs.size:=by rw [← h2];exact (List.getElem?_eq_some_iff.1 hu).1
   exact ⟨cs[j],by simp [Value.cells,hj],h4 j u _ hu (by simp [hj])⟩
  | tup vs=>simp [V.cells,V.one] at h1
  | und=>simp [V.cells,V.one] at h1
  | _=>simp [V.one] at hv
theorem cells_one (h:Rep X A φ w v x) (h1:v.cells.all V.one=true):∀ c∈x.cells.toList,c.oneCell'=true:=fun c hc=>by
 obtain ⟨h2,h3⟩:=jW h h1
 obtain ⟨j,hj⟩:=List.mem_iff_getElem?.1 hc
 have hjl:j<v.cells.length:=by rw [h2];simpa using (List.getElem?_eq_some_iff.1 hj).1
 obtain ⟨c',h4,h5⟩:=h3 j _ (List.getElem?_eq_getElem hjl)
 rw [Array.getElem?_toList,h4] at hj
 cases hj
 exact h5.one (List.all_eq_true.1 h1 _ (List.getElem_mem hjl))
theorem AO {ob:Obj} {k:Blk} {pl:Pl} (hr:Rel N M A φ s a w) (hν:¬ A ν) (hpl:pl.blk=some w.heap.size) (hk:∀ φ',(∀ n,A n→φ' n=φ n)→iT (fun b=>(M b∨b=w.heap.size)∨N b) (fun b=>M b∨b=w.heap.size) (fun n=>A n∨n=ν) φ' (w.alloc ob) pl k) (hv:∀ φ',φ' ν=pl→Rep (fun b=>(M b∨b=w.heap.size)∨N b) (fun n=>A n∨n=ν) φ' (w.alloc ob) v x) (hd:∀ d,dst=some d→d<s.nt):
  ∃ M' φ',bF M w (w.alloc ob)∧(∀ b,b<w.heap.size→M' b→M b)∧Rel N M' (fun n=>A n∨n∈[ν]) φ' (s.eff dst v [(ν,some k)] nx) (a.put dst x) (w.alloc ob):=by
 have hbel:Below w.heap.size w (w.alloc ob):=(Below.refl _ w).alloc (Nat.le_refl _) _
 have hs:bF (fun b=>M b∨N b) w (w.alloc ob):=.of_below hbel
 let φ':Nat→Pl:=fun n=>if n=ν then pl else φ n
 have hφ:∀ n,A n→φ' n=φ n:=fun n hn=>if_neg fun (e:n=ν)=>hν (e ▸ hn)
 have hφν:φ' ν=pl:=if_pos rfl
 have hX:∀ b,b<w.heap.size→((M b∨b=w.heap.size)∨N b)→M b∨N b:=fun b hb h=>by
  rcases h with (h|h)|h
  ·exact .inl h
  ·omega
  ·exact .inr h
 have hgrow:Rel N (fun b=>M b∨b=w.heap.size) (fun n=>A n∨n=ν) φ' (s.eff none .und [(ν,some k)] nx) a (w.alloc ob):=by
  refine ⟨fun t u ht=>?_,hr.nt,fun n q hq=>?_,fun n n' q q' b h1 h2 h3 h4=>?_,fun b hb=>?_,fun b hb hn=>?_,hr.df,fun n hn=>⟨.inl (hr.pin n hn).1,(hφ n (hr.pin n hn).1).trans (hr.pin n hn).2⟩,hr.gl.stays hs hX⟩
  ·obtain ⟨h1,h2⟩:=hr.tm t u ht
   exact ⟨h1,h2.mono hX hs (fun _ h=>.inl h) hφ⟩
  ·have e:(s.eff none .und [(ν,some k)] nx).blk n=if ν=n then some k else s.blk n:=by
    unfold S.blk S.eff
    simp only [List.cons_append,List.nil_append,bW]
    by_cases e:ν=n<;>simp [e]
   rw [e] at hq
   split at hq
   ·rename_i e1
    subst e1
    cases hq
    exact ⟨.inr rfl,by rw [hφν];exact hk φ' hφ⟩
   ·obtain ⟨h1,h2⟩:=hr.st n q hq
    refine ⟨.inl h1,?_⟩
    rw [hφ n h1]
    exact h2.mono hX hs (fun _ h=>.inl h) hφ (fun _ h=>.inl h) fun b hb=>hbel.block b (hr.lim b (.inl (hr.gy hq hb)))
  ·have e:∀ n,(s.eff none .und [(ν,some k)] nx).blk n=if ν=n then some k else s.blk n:=fun n=>by
    unfold S.blk S.eff
    simp only [List.cons_append,List.nil_append,bW]
    by_cases e:ν=n<;>simp [e]
   rw [e] at h1 h2
   split at h1<;>split at h2
   ·rename_i e1 e2;rw [← e1,← e2]
   ·rename_i e1 e2
    subst e1
    rw [hφν,hpl] at h3;cases h3
    have hA:=(hr.st n' q' h2).1
    rw [hφ n' hA] at h4
    have:=hr.lim _ (.inl (hr.gy h2 h4))
    omega
   ·rename_i e1 e2
    subst e2
    rw [hφν,hpl] at h4;cases h4
    have hA:=(hr.st n q h1).1
    rw [hφ n hA] at h3
    have:=hr.lim _ (.inl (hr.gy h1 h3))
    omega
   ·rw [hφ n (hr.st n q h1).1] at h3
    rw [hφ n' (hr.st n' q' h2).1] at h4
    exact hr.inj n n' q q' b h1 h2 h3 h4
  ·have hsz:(w.alloc ob).heap.size=w.heap.size+1:=by simp
   rw [hsz]
   rcases hb with (hb|hb)|hb
   ·have:=hr.lim b (.inl hb);omega
   ·omega
   ·have:=hr.lim b (.inr hb);omega
  ·rcases hb with hb|hb
   ·exact hr.dis b hb hn
   ·have:=hr.lim b (.inr hn);omega
 refine ⟨fun b=>M b∨b=w.heap.size,φ',.of_below hbel,fun b hb h=>h.resolve_right (by omega),?_⟩
 have h9:=eX (nx:=nx) hgrow (hv φ' hφν) hd
 refine (h9.wider fun n h=>h.imp id fun h=>by simpa using h).as (fun t=>?_) (fun n=>rfl) rfl
 cases dst<;>rfl
theorem ZL {x:Operand} (ho:o.op = .box T x) (hz:Nat.ble 1 v.cells.length=true) (h1:v.cells.all V.one=true):
  aC P N o ⟨[(x,v)],[]⟩ (.loc ν 0 0) [(ν,some (.els T v.cells.length [v]))] [ν]:=fun s M A φ a w hh hr hν hd=>by
 have hrep:=hr.ev hh.a
 obtain ⟨g1,g2⟩:=jW hrep h1
 have hrun:(execOp a.eval o).run P w = .ok (.value (.pointer (some ⟨w.heap.size,0,none⟩))) (w.alloc (.cells (a.eval x).cells T)):=by
  unfold execOp;simp only [ho];simp [Instr.box,newVar,newRow,go_sem]
 unfold Oper.wp
 rw [hrun]
 have hbel:Below w.heap.size w (w.alloc (.cells (a.eval x).cells T)):=(Below.refl _ w).alloc (Nat.le_refl _) _
 refine AO (pl:=⟨some w.heap.size,v.cells.length,1⟩) hr (hν ν (by simp)) rfl (fun φ' hφ=>?_) (fun φ' hφ=>?_) hd
 ·refine ⟨rfl,Nat.le_of_ble_eq_true hz,by simp [LIM],fun y hy=>?_,.inr ⟨_,(a.eval x).cells,rfl,.inr rfl,heap_alloc_new w _,by simp [g1],by simp,by simp [maxLen],fun i j y u hy hu=>?_⟩⟩
  ·rw [List.mem_singleton] at hy
   subst hy
   exact ⟨rfl,fun u hu=>List.all_eq_true.1 h1 u hu⟩
  ·rcases i with _|i
   ·simp at hy;subst hy
    obtain ⟨c,h3,h4⟩:=g2 j u hu
    refine ⟨c,by simpa using h3,h4.mono (fun b hb h=>?_) (.of_below hbel) (fun _ h=>.inl h) hφ⟩
    rcases h with (h|h)|h
    ·exact .inl h
    ·omega
    ·exact .inr h
   ·simp at hy
 ·have:=Rep.loc (X:=fun b=>(M b∨b=w.heap.size)∨N b) (A:=fun n=>A n∨n=ν) (φ:=φ') (w:=w.alloc (.cells (a.eval x).cells T)) (n:=ν) (i:=0) (off:=0) (b:=w.heap.size) (.inr rfl) (by rw [hφ])
  simpa using this
theorem gL {w':World} (hr:Rel N M A φ s a w) (hb:Below w.heap.size w w') (hv:Rep (fun b=>M b∨N b) A φ w' v x) (hd:∀ d,dst=some d→d<s.nt):
  ∃ M' φ',bF M w w'∧(∀ b,b<w.heap.size→M' b→M b)∧Rel N M' (fun n=>A n∨n∈([]:List Nat)) φ' (s.eff dst v [] nx) (a.put dst x) w' :=
 ⟨M,φ,.of_below hb,fun _ _ h=>h,(eX (hr.grow hb) hv hd).wider fun _ h=>.inl h⟩
theorem OB {x:Operand} (ho:o.op = .box T x) (hn:v.names=[]) (h1:v.cells.all V.one=true):aC P N o ⟨[(x,v)],[]⟩ (.fp v.cells 0) [] []:=fun s M A φ a w hh hr hν hd=>by
 have hrep:=hr.ev hh.a
 obtain ⟨g1,g2⟩:=jW hrep h1
 have hrun:(execOp a.eval o).run P w = .ok (.value (.pointer (some ⟨w.heap.size,0,none⟩))) (w.alloc (.cells (a.eval x).cells T)):=by
  unfold execOp;simp only [ho];simp [Instr.box,newVar,newRow,go_sem]
 have hbel:Below w.heap.size w (w.alloc (.cells (a.eval x).cells T)):=(Below.refl _ w).alloc (Nat.le_refl _) _
 unfold Oper.wp
 rw [hrun]
 have hnn:∀ u∈v.cells,u.names=[]:=fun u hu=>by
  cases v with
  | agg vs =>
   rw [V.names] at hn
   refine List.eq_nil_iff_forall_not_mem.2 fun m hm=>?_
   have:=aB.2 ⟨u,hu,hm⟩
   have h9:m∈V.bf vs:=this
   rw [hn] at h9;cases h9
  | _=>simp only [V.cells,List.mem_singleton] at hu;subst hu;exact hn
 refine gL hr hbel ?_ hd
 refine .fz (Fz.fp (o:=0) (fun j=>((a.eval x).cells[j]?).getD undef) (fun h=>?_) (by simp) (fun u hu=>List.all_eq_true.1 h1 u hu) (fun j u hu=>?_) (fun j u hu=>?_))
 ·have:=hr.lim _ h;omega
 ·obtain ⟨c,h3,_⟩:=g2 j u hu
  simp [World.cell?_alloc_new,h3]
 ·obtain ⟨c,h3,h4⟩:=g2 j u hu
  rw [h3]
  exact (pK h4 (hnn u (List.mem_of_getElem? hu))).mono (fun _ _ h=>h) (.of_below hbel)
theorem zu {X A:Nat→Prop} {φ:Nat→Pl} {w:World}:∀ {zs:List Zc} {vs:List Value},qi zs vs=true→zs.length=vs.length∧∀ (i:Nat) z v,zs[i]? = some z→vs[i]? = some v→Rep X A φ w z.v v
 | [],[],_=>⟨rfl,fun i z v h=>by simp at h⟩
 | z::r,v::q,h=>by
  rw [qi,Bool.and_eq_true] at h
  obtain ⟨h1,h2⟩:=zu (X:=X) (A:=A) (φ:=φ) (w:=w) h.2
  refine ⟨by simp [h1],fun i y u hy hu=>?_⟩
  rcases i with _|i
  ·simp at hy hu
   subst hy hu
   have h3:=h.1
   unfold adE at h3
   split at h3<;>first|(cases h3;done)|skip
   ·simp at h3;obtain ⟨rfl,rfl⟩:=h3;exact .fz (.int (oo _))
   ·simp at h3;subst h3;exact .fz .bool
   ·rename_i s
    have h4:s.size=0:=by simpa using h3
    have:s=⟨#[]⟩:=ByteArray.ext (Array.eq_empty_of_size_eq_zero h4)
    subst this
    exact .fz (.str (by decide))
   ·exact .fz .nilp
   ·exact .fz .nils
   ·exact .fz .nilm
   ·exact .fz .nilf
   ·exact .fz .nili
  ·exact h2 i y u (by simpa using hy) (by simpa using hu)
 | [],_::_,h=>by simp [qi] at h
 | _::_,[],h=>by simp [qi] at h
def Ty.zeroV (e:Ty):Option V:=match e.agg,e.zero with
 | true,[]=>none
 | true,z::r=>some (.agg ((z::r).map Zc.v))
 | false,[z]=>some z.v
 | false,_=>none
theorem NA (z:Zc):z.v.one=true:=by cases z<;>rfl
theorem Ke (z:Zc):z.v.names=[]:=by cases z<;>rfl
theorem l8 (htb:aL P tb) (hT:nth tb T=some e) (hv:e.zeroV=some v):∃ z,(∀ w,(zeroValue T).run P w = .ok z w)∧(∀ X A φ w,Rep X A φ w v z)∧v.cells.all V.one=true∧0<v.cells.length∧v.names=[]:=by
 obtain ⟨i,d,ht⟩:=aV htb hT
 rcases ht.zero with h0|⟨z,h1,h2,h3⟩
 ·unfold Ty.zeroV at hv;rw [h0] at hv;cases ha:e.agg<;>simp [ha] at hv
 ·refine ⟨z,fun w=>by simp [zeroValue,typeInfo,ht.info,h1],?_⟩
  unfold Ty.zeroV at hv
  cases ha:e.agg with
  | true =>
   cases hz:e.zero with
   | nil=>rw [ha,hz] at hv;simp at hv
   | cons z0 r =>
    rw [ha,hz] at hv
    simp only [Option.some.injEq] at hv
    subst hv
    rw [ha] at h2
    cases z<;>simp only [IC] at h2<;>try (cases h2)
    rename_i cs
    rw [hz] at h3
    refine ⟨fun X A φ w=>?_,?_,by simp [V.cells],?_⟩
    ·obtain ⟨g1,g2⟩:=zu (X:=X) (A:=A) (φ:=φ) (w:=w) h3
     refine .agg (by simpa [Value.cells] using g1) (fun v hv=>?_) (fun i v c hv hc=>?_)
     ·obtain ⟨z,_,rfl⟩:=List.mem_map.1 hv;exact NA z
     ·rw [List.getElem?_map,Option.map_eq_some_iff] at hv
      obtain ⟨z,hz,rfl⟩:=hv
      exact g2 i z c hz (by simpa [Value.cells] using hc)
    ·rw [List.all_eq_true]
     intro v hv
     obtain ⟨z,_,rfl⟩:=List.mem_map.1 hv;exact NA z
    ·rw [V.names]
     refine List.eq_nil_iff_forall_not_mem.2 fun m hm=>?_
     obtain ⟨v,hv,hm⟩:=aB.1 hm
     obtain ⟨z,_,rfl⟩:=List.mem_map.1 hv
     rw [Ke] at hm;cases hm
  | false =>
   cases hz:e.zero with
   | nil=>rw [ha,hz] at hv;simp at hv
   | cons z0 r =>
    cases r with
    | cons z1 r=>rw [ha,hz] at hv;simp at hv
    | nil =>
     rw [ha,hz] at hv
     simp only [Option.some.injEq] at hv
     subst hv
     rw [ha] at h2
     rw [hz] at h3
     have hzc:z.cells = #[z]:=by cases z<;>first|rfl|(simp [IC] at h2)
     have hcs:z0.v.cells=[z0.v]:=by cases z0<;>rfl
     refine ⟨fun X A φ w=>?_,by rw [hcs];simp [NA],by rw [hcs];simp,Ke z0⟩
     obtain ⟨g1,g2⟩:=zu (X:=X) (A:=A) (φ:=φ) (w:=w) h3
     exact g2 0 z0 z rfl (by rw [hzc];rfl)
theorem RQ (htb:aL P tb) (ho:o.op = .alloc T) (hT:nth tb T=some e) (hv:e.zeroV=some v):
  aC P N o ⟨[],[]⟩ (.loc ν 0 0) [(ν,some (.els T v.cells.length [v]))] [ν]:=fun s M A φ a w hh hr hν hd=>by
 obtain ⟨z,hz,hrep,h1,h0,_⟩:=l8 htb hT hv
 obtain ⟨g1,g2⟩:=jW (hrep (fun b=>M b∨N b) A φ w) h1
 have hrun:(execOp a.eval o).run P w = .ok (.value (.pointer (some ⟨w.heap.size,0,none⟩))) (w.alloc (.cells z.cells T)):=by
  unfold execOp;simp only [ho];simp [Instr.alloc,newVar,newRow,go_sem,hz]
 unfold Oper.wp
 rw [hrun]
 have hbel:Below w.heap.size w (w.alloc (.cells z.cells T)):=(Below.refl _ w).alloc (Nat.le_refl _) _
 refine AO (pl:=⟨some w.heap.size,v.cells.length,1⟩) hr (hν ν (by simp)) rfl (fun φ' hφ=>?_) (fun φ' hφ=>?_) hd
 ·refine ⟨rfl,h0,by simp [LIM],fun y hy=>?_,.inr ⟨_,z.cells,rfl,.inr rfl,heap_alloc_new w _,by simp [g1],by simp,by simp [maxLen],fun i j y u hy hu=>?_⟩⟩
  ·rw [List.mem_singleton] at hy
   subst hy
   exact ⟨rfl,fun u hu=>List.all_eq_true.1 h1 u hu⟩
  ·rcases i with _|i
   ·simp at hy;subst hy
    obtain ⟨c,h3,h4⟩:=g2 j u hu
    refine ⟨c,by simpa using h3,h4.mono (fun b hb h=>?_) (.of_below hbel) (fun _ h=>.inl h) hφ⟩
    rcases h with (h|h)|h
    ·exact .inl h
    ·omega
    ·exact .inr h
   ·simp at hy
 ·have:=Rep.loc (X:=fun b=>(M b∨b=w.heap.size)∨N b) (A:=fun n=>A n∨n=ν) (φ:=φ') (w:=w.alloc (.cells z.cells T)) (n:=ν) (i:=0) (off:=0) (b:=w.heap.size) (.inr rfl) (by rw [hφ])
  simpa using this
theorem NG (h:Km el off v=some el') (hel:¬ el.one=true∨v.cells.length=1) (hel2:el.one=true∨∃ vs,el = .agg vs):off+v.cells.length≤el.cells.length∧el'.cells=el.cells.take off++v.cells++el.cells.drop (off+v.cells.length):=by
 unfold Km at h
 split at h
 ·rename_i vs
  cases hs:sW vs off v.cells with
  | none=>rw [hs] at h;cases h
  | some q =>
   rw [hs] at h;cases h
   obtain ⟨h1,rfl⟩:=nZ hs
   exact ⟨h1,rfl⟩
 ·rename_i hne
  have h1:el.one=true:=hel2.resolve_right fun ⟨vs,e⟩=>hne vs e
  have hl:v.cells.length=1:=hel.resolve_left (fun h=>h h1)
  have hc:el.cells=[el]:=by cases el<;>first|rfl|(simp [V.one] at h1)
  cases off with
  | zero=>cases h;rw [hc];simp [hl]
  | succ n=>cases h
theorem H9 {o:Nat} {v:Value} {i:TypeInfo} (hi:P.info? T=some i) (hs:v.cells.size=i.size) (hb:w.heap[b]? = some (.cells cur T' (0,0))) (hn:o+v.cells.size≤cur.size) (h1:∀ c∈v.cells.toList,c.oneCell'=true):
  (Instr.storeAt T (.pointer (some ⟨b,o,none⟩)) v).run P w = .ok () (w.setRow b (cur.toList.take o++v.cells.toList++cur.toList.drop (o+v.cells.toList.length)).toArray):=by
 have:=run_storeCells_at (P:=P) b o T' v.cells.toList 0 cur w hb (by simpa using hn) h1
 unfold Instr.storeAt Instr.sureAddr storeVar
 simp only [Sem.run_bind,Sem.run_pure,Result.andThen_ok,eD hi,hs,ne_eq,not_true_eq_false,if_false]
 rw [this]
 simp
theorem Jb {cur':Array Value} (hr:Rel N M A φ s a w) (hk:s.blk n=some (.els T' sz xs)) (hb:(φ n).blk=some b) (hc:w.heap[b]? = some (.cells cur T' (0,0))) (hsz:cur'.size=cur.size) (hlen:xs'.length≤xs.length) (h1:∀ x∈xs',x.cells.length=sz∧∀ u∈x.cells,u.one=true) (h2:∀ (i j:Nat) x u,xs'[i]? = some x→x.cells[j]? = some u→∃ c,cur'[i*sz+j]? = some c∧Rep (fun b=>M b∨N b) A φ w u c) (hv:Rep (fun b=>M b∨N b) A φ w v x) (hd:∀ d,dst=some d→d<s.nt):
  ∃ M' φ',bF M w (w.setRow b cur')∧(∀ b,b<w.heap.size→M' b→M b)∧Rel N M' (fun n=>A n∨n∈([]:List Nat)) φ' (s.eff dst v [(n,some (.els T' sz xs'))] nx) (a.put dst x) (w.setRow b cur'):=by
 have hM:M b:=hr.gy hk hb
 have hst:∀ Q:Nat→Prop,Q b→bF Q w (w.setRow b cur'):=fun Q hQ=>⟨rfl,rfl,rfl,by simp,fun b' _ hb'=>setRow_other w b b' cur' fun e=>hb' (e ▸ hQ)⟩
 have hs:=hst (fun b=>M b∨N b) (.inl hM)
 refine ⟨M,φ,hst M hM,fun _ _ h=>h,?_⟩
 have hgrow:Rel N M A φ (s.eff none .und [(n,some (.els T' sz xs'))] nx) a (w.setRow b cur'):=by
  have eb:∀ m,(s.eff none .und [(n,some (.els T' sz xs'))] nx).blk m=if n=m then some (.els T' sz xs') else s.blk m:=fun m=>by
   unfold S.blk S.eff
   simp only [List.cons_append,List.nil_append,bW]
   by_cases e:n=m<;>simp [e]
  have name:∀ m k,(s.eff none .und [(n,some (.els T' sz xs'))] nx).blk m=some k→∃ k',s.blk m=some k':=fun m k h=>by
   rw [eb] at h
   split at h
   ·rename_i e;subst e;exact ⟨_,hk⟩
   ·exact ⟨_,h⟩
  refine ⟨fun t u ht=>?_,hr.nt,fun m q hq=>?_,fun m m' q q' b' g1 g2 g3 g4=>?_,fun b' hb'=>?_,hr.dis,hr.df,hr.pin,hr.gl.stays hs fun _ _ h=>h⟩
  ·obtain ⟨g1,g2⟩:=hr.tm t u ht
   exact ⟨g1,g2.mono (fun _ _ h=>h) hs (fun _ h=>h) fun _ _=>rfl⟩
  ·rw [eb] at hq
   split at hq
   ·rename_i e;subst e;cases hq
    obtain ⟨g0,g1,g2,g3,_,g5⟩:=hr.st n _ hk
    refine ⟨g0,g1,g2,Nat.le_trans hlen g3,h1,?_⟩
    rcases g5 with ⟨k1,_⟩|⟨b',cur0,k1,k2,k3,k4,k5,k6,_⟩
    ·rw [hb] at k1;cases k1
    ·rw [hb] at k1;cases k1
     rw [hc] at k3;cases k3
     refine .inr ⟨b,cur',hb,k2,setRow_heap w b cur cur' T' (0,0) hc,by rw [hsz];exact k4,Nat.le_trans hlen k5,k6,fun i j x u hx hu=>?_⟩
     obtain ⟨c,k7,k8⟩:=h2 i j x u hx hu
     exact ⟨c,k7,k8.mono (fun _ _ h=>h) hs (fun _ h=>h) fun _ _=>rfl⟩
   ·rename_i e
    obtain ⟨g0,g1⟩:=hr.st m q hq
    exact ⟨g0,g1.mono (fun _ _ h=>h) hs (fun _ h=>h) (fun _ _=>rfl) (fun _ h=>h) fun b' hb'=>setRow_other w b b' cur' fun e2=>e (hr.inj n m _ _ b hk hq hb (by rw [hb',e2]))⟩
  ·obtain ⟨k1,f1⟩:=name m q g1
   obtain ⟨k2,f2⟩:=name m' q' g2
   exact hr.inj m m' k1 k2 b' f1 f2 g3 g4
  ·have:=hr.lim b' hb';simpa using this
 have h9:=eX (nx:=nx) hgrow (hv.mono (fun _ _ h=>h) hs (fun _ h=>h) fun _ _=>rfl) hd
 refine (h9.wider fun n h=>.inl h).as (fun t=>?_) (fun n=>rfl) rfl
 cases dst<;>rfl
theorem uh {x y:Operand} {i:Nat} (htb:aL P tb) (ho:o.op = .store T x y) (hT:nth tb T=some e) (he:xs[i]? = some el) (hv1:v.cells.all V.one=true) (hvs:v.cells.length=e.size) (hp:Km el off v=some el') (hel:(!el.one||Nat.beq v.cells.length 1)=true) (hxs:xs.set i el'=xs'):aC P N o ⟨[(x,.loc n i off),(y,v)],[(n,.els T' sz xs)]⟩ .und [(n,some (.els T' sz xs'))] []:=fun s M A φ a w hh hr _ hd=>by
 subst hxs
 obtain ⟨b,h1,h2⟩:=iX (hr.ev hh.a)
 have hrep:=hr.ev hh.b
 obtain ⟨ti,d,ht⟩:=aV htb hT
 obtain ⟨g0,g1,g2,g3,g4,g5⟩:=hr.st n _ hh.n
 rcases g5 with ⟨k1,_⟩|⟨b',cur,k1,k2,k3,k4,k5,k6,k7⟩
 ·rw [h1] at k1;cases k1
 rw [h1] at k1;cases k1
 rw [g1] at h2
 obtain ⟨c1,c2⟩:=jW hrep hv1
 obtain ⟨el1,el2⟩:=g4 el (List.mem_of_getElem? he)
 have hil:i<xs.length:=(List.getElem?_eq_some_iff.1 he).1
 have hagg:el.one=true∨∃ vs,el = .agg vs:=by
  cases el with
  | agg vs=>exact .inr ⟨vs,rfl⟩
  | tup vs=>have:=el2 (.tup vs) (by simp [V.cells]);simp [V.one] at this
  | und=>have:=el2 .und (by simp [V.cells]);simp [V.one] at this
  | _=>exact .inl rfl
 obtain ⟨p1,p2⟩:=NG hp (by
  rw [Bool.or_eq_true] at hel
  rcases hel with h|h
  ·exact .inl (by simpa using h)
  ·exact .inr (Nat.eq_of_beq_eq_true h)) hagg
 have hfit:i*sz+off+(a.eval y).cells.size≤cur.size:=by
  rw [← c1,k4]
  have:(i+1)*sz≤(φ n).cap*sz:=Nat.mul_le_mul_right _ (by omega)
  rw [Nat.add_mul] at this
  omega
 have hrun:(execOp a.eval o).run P w = .ok .skip (w.setRow b (cur.toList.take (i*sz+off)++(a.eval y).cells.toList++cur.toList.drop (i*sz+off+(a.eval y).cells.toList.length)).toArray):=by
  unfold execOp
  simp only [ho,h2]
  have:=H9 (P:=P) (T:=T) ht.info (by rw [← c1,hvs,ht.size]) k3 hfit (cells_one hrep hv1)
  simp only [Sem.run_bind,this,Result.andThen_ok,Sem.run_pure]
 unfold Oper.wp
 rw [hrun]
 refine Jb hr hh.n h1 k3 ?_ (by simp) ?_ ?_ (.fz .und) hd
 ·simp;omega
 ·intro y' hy'
  rcases List.mem_or_eq_of_mem_set hy' with h|h
  ·exact g4 y' h
  ·subst h
   refine ⟨by rw [p2,← el1];simp;omega,fun u hu=>?_⟩
   rw [p2] at hu
   simp only [List.mem_append] at hu
   rcases hu with (hu|hu)|hu
   ·exact el2 u (List.mem_of_mem_take hu)
   ·exact List.all_eq_true.1 hv1 u hu
   ·exact el2 u (List.mem_of_mem_drop hu)
 ·intro i' j x' u hx' hu
  have cell:∀ q,(cur.toList.take (i*sz+off)++(a.eval y).cells.toList++cur.toList.drop (i*sz+off+(a.eval y).cells.toList.length)).toArray[q]? = if q<i*sz+off then cur[q]? else if q<i*sz+off+(a.eval y).cells.size then (a.eval y).cells[q-(i*sz+off)]? else cur[q]? := fun q=>by
   simp only [List.getElem?_toArray]
   by_cases q1:q<i*sz+off
   ·rw [if_pos q1,List.append_assoc,List.getElem?_append_left (by simp;omega),List.getElem?_take_of_lt q1];simp
   ·rw [if_neg q1]
    by_cases q2:q<i*sz+off+(a.eval y).cells.size
    ·rw [if_pos q2,List.getElem?_append_left (by simp;omega),List.getElem?_append_right (by simp;omega)]
     simp
     congr 1
     omega
    ·rw [if_neg q2,List.getElem?_append_right (by simp;omega),List.getElem?_drop]
     simp
     congr 1
     omega
  rw [List.getElem?_set] at hx'
  split at hx'
  ·rename_i e1
   subst e1
   first
    | rw [if_pos hil] at hx'
    | skip
   cases hx'
   have hj:j<sz:=by
    have:=(List.getElem?_eq_some_iff.1 hu).1
    rw [p2] at this
    simp at this;omega
   rw [cell]
   rw [p2] at hu
   by_cases j1:j<off
   ·rw [if_pos (by omega)]
    rw [List.append_assoc,List.getElem?_append_left (by simp;omega),List.getElem?_take_of_lt j1] at hu
    exact k7 i j el u he hu
   ·rw [if_neg (by omega)]
    by_cases j2:j<off+v.cells.length
    ·rw [if_pos (by omega)]
     rw [List.getElem?_append_left (by simp;omega),List.getElem?_append_right (by simp;omega)] at hu
     obtain ⟨c,c3,c4⟩:=c2 _ u hu
     refine ⟨c,?_,c4⟩
     rw [← c3]
     congr 1
     simp;omega
    ·rw [if_neg (by omega)]
     rw [List.getElem?_append_right (by simp;omega),List.getElem?_drop] at hu
     refine k7 i j el u he ?_
     rw [← hu]
     congr 1
     simp;omega
  ·rename_i e1
   have hi':i'<xs.length:=(List.getElem?_eq_some_iff.1 hx').1
   have hj:j<sz:=by
    have:=(List.getElem?_eq_some_iff.1 hu).1
    rw [(g4 x' (List.mem_of_getElem? hx')).1] at this
    exact this
   rw [cell]
   have:¬ (i*sz+off≤i'*sz+j∧i'*sz+j<i*sz+off+(a.eval y).cells.size):=by
    rw [← c1]
    rintro ⟨q1,q2⟩
    rcases Nat.lt_or_gt_of_ne e1 with h|h
    ·have:(i+1)*sz≤i'*sz:=Nat.mul_le_mul_right _ h
     rw [Nat.add_mul] at this;omega
    ·have:(i'+1)*sz≤i*sz:=Nat.mul_le_mul_right _ h
     rw [Nat.add_mul] at this;omega
   obtain ⟨c,q3,q4⟩:=k7 i' j x' u hx' hu
   refine ⟨c,?_,q4⟩
   split
   ·exact q3
   ·rw [if_neg (by omega)];exact q3
end
end Abs
end
end Go.Proofs.YtlfdjpgghiemfaaGreatDoor
