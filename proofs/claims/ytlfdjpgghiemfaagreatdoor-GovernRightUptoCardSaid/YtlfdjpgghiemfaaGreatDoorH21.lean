/- Texts of the proof, joined: Rdy, GrantP, PolP, JarB. -/
import Derived.Test.YtlfdjpgghiemfaaGreatDoorH18
import Derived.Test.YtlfdjpgghiemfaaGreatDoorH20
set_option maxHeartbeats 4000000
set_option maxRecDepth 100000
namespace Go.Proofs.YtlfdjpgghiemfaaGreatDoor
namespace Rdy
open Go.RowKit Mem Abs bH cu iR jh rA gV xh dV bX dn Nl fI gF iG
variable {l s:List UInt8}
def bR (l:List UInt8):Bool:=decide (dS l=(l,0))
def vw (c:Int):Bool:=(decide (c<32) && !decide (c=9))||decide (c=127)
def jY (b:UInt8):Bool:=vw (b.toNat:Int)
def mQ (s:List UInt8):Bool:=s.all fun b => !jY b
theorem uH (l:List UInt8):bR l=(decide ((dS l).2=0)&&decide ((dS l).1=l)):=by
 unfold bR
 obtain ⟨a,b⟩:=dS l
 simp [Bool.and_comm,Prod.mk.injEq,Bool.decide_and]
theorem vZ:aj Tryz.prog 59 [au l] (.bool (bR l)):=by
 have c1:=PN (l:=l)
 rw [uH]
 generalize dS l=p at *
 obtain ⟨h,n⟩:=p
 dsimp only [pairT] at c1
 refine aU af Tryz.func59 rfl Tryz.ntmps59 Tryz.results59 rfl fun N=>?_
 by_cases h0:n=0
 ·subst h0
  by_cases h1:h=l
  ·subst h1
   repeat' (first|refine zt ?_|(refine isR ?_;first|refine zo ?_|refine zk c1 ?_|refine zc5 ?_)|refine zr ?_|exact ah)
   simp;rfl
  ·repeat' (first|refine zt ?_|(refine isR ?_;first|refine zo ?_|refine zk c1 ?_|refine zc5 ?_)|refine zr ?_|exact ah)
   simp [h1];rfl
 ·repeat' (first|refine zt ?_|(refine isR ?_;first|refine zo ?_|refine zk c1 ?_|refine zc5 ?_)|refine zr ?_|exact ah)
  simp [h0];rfl
theorem VZ:aj Tryz.prog 54 [au l] (.bool (bR l)):=by
 have c1:=SI (l:=l)
 rw [uH]
 generalize dS l=p at *
 obtain ⟨h,n⟩:=p
 dsimp only [pairT] at c1
 refine aU af Tryz.func54 rfl Tryz.ntmps54 Tryz.results54 rfl fun N=>?_
 by_cases h0:n=0
 ·subst h0
  by_cases h1:h=l
  ·subst h1
   repeat' (first|refine zt ?_|(refine isR ?_;first|refine zo ?_|refine zk c1 ?_|refine zc5 ?_)|refine zr ?_|exact ah)
   simp;rfl
  ·repeat' (first|refine zt ?_|(refine isR ?_;first|refine zo ?_|refine zk c1 ?_|refine zc5 ?_)|refine zr ?_|exact ah)
   simp [h1];rfl
 ·repeat' (first|refine zt ?_|(refine isR ?_;first|refine zo ?_|refine zk c1 ?_|refine zc5 ?_)|refine zr ?_|exact ah)
  simp [h0];rfl
theorem OC {c:Int}:aj Tryz.prog 167 [.int .i32 c] (.bool (vw c)):=by
 refine aU af Tryz.func167 rfl Tryz.ntmps167 Tryz.results167 rfl fun N=>?_
 unfold vw
 repeat' (first|refine zt ?_|(refine isR ?_;first|refine zo ?_|refine zc5 ?_|(refine zs ?_ ?_<;>intro hc))|refine zr ?_|exact ah)
 all_goals (show V.bool _=V.bool _;first|(simp [*];done)|(simp [*];omega))
theorem VD:aj Tryz.prog 214 [au s,.fn (.func 167) [] [],.bool true] (.int .i64 (fE jY s)):=aj.lim fun hl=>by
 have hlim:=(bH.gK hl).1
 refine vS af Tryz.func214 rfl Tryz.ntmps214 Tryz.results214 rfl fun N=>?_
 repeat' (first|refine zt ?_|(refine isR ?_;first|refine zo ?_|refine Ij af ?_|refine zc5 ?_)|refine zr ?_|exact ah)
 refine dP (fun k=>⟨[(0,au s),(1,.fn (.func 167) [] []),(2,.bool true),(10,.loc 0 0 0)],[(0,some (.sit (str s) k))],1,21⟩) (fun k=>k≤s.length∧∀ j y,j<k→s[j]? = some y→jY y=false) (fun k=>s.length-k) 0 (by exact ah) ⟨Nat.zero_le _,fun j y h=>absurd h (Nat.not_lt_zero _)⟩ ?_
 intro k ⟨hk,hp⟩
 have hsz:(str s).size=s.length:=aM s
 by_cases hk2:k<s.length
 ·obtain ⟨c,wd,hdec,h1,h2,h3,hcase⟩:=IE s k hk2
  have hps:k<(str s).size:=by rw [hsz];exact hk2
  have hw:k+wd≤dY:=by simp only [dY];omega
  have c1:=OC (c:=(c:Int))
  rcases hcase with ⟨b,g1,g2,g3,g4⟩|⟨g1,g2⟩
  ·cases hb:vw (c:Int) with
   | true =>
    rw [hb] at c1
    repeat' (first|refine zt ?_|(refine isR ?_;first|refine zo ?_|refine nY _ _ ?_|refine ak (c1 _) ?_|refine ak (c1) ?_|refine zc5 ?_)|refine zr ?_|exact ah)
    show V.int .i64 _=V.int .i64 _
    rw [oh hp g1 (by unfold jY;rw [← g3];exact hb)]
   | false =>
    rw [hb] at c1
    repeat' (first|refine zt ?_|(refine isR ?_;first|refine zo ?_|refine nY _ _ ?_|refine ak (c1 _) ?_|refine ak (c1) ?_|refine zc5 ?_)|refine zr ?_|exact ah)
    refine ⟨k+wd,⟨h2,fun j y hj hy=>?_⟩,by omega,(by exact ah)⟩
    by_cases e:j<k
    ·exact hp j y e hy
    ·obtain rfl:j=k:=by omega
     rw [g1] at hy;cases hy
     unfold jY;rw [← g3];exact hb
  ·have hb:vw (c:Int)=false:=by
    unfold vw
    rw [decide_eq_false (by omega),decide_eq_false (by omega),decide_eq_false (by omega)];rfl
   rw [hb] at c1
   repeat' (first|refine zt ?_|(refine isR ?_;first|refine zo ?_|refine nY _ _ ?_|refine ak (c1 _) ?_|refine ak (c1) ?_|refine zc5 ?_)|refine zr ?_|exact ah)
   refine ⟨k+wd,⟨h2,fun j y hj hy=>?_⟩,by omega,(by exact ah)⟩
   by_cases e:j<k
   ·exact hp j y e hy
   ·obtain ⟨b,f1,f2⟩:=g2 j (by omega) (by omega)
    rw [f1] at hy;cases hy
    unfold jY vw
    rw [decide_eq_false (by omega),decide_eq_false (by omega),decide_eq_false (by omega)];rfl
 ·have hps:¬ k<(str s).size:=by rw [hsz];exact hk2
  repeat' (first|refine zt ?_|(refine isR ?_;first|refine zo ?_|refine Bo ?_|refine zc5 ?_)|refine zr ?_|exact ah)
  show V.int .i64 _=V.int .i64 _
  rw [kE fun x hx=>?_]
  obtain ⟨i,hi⟩:=List.mem_iff_getElem?.1 hx
  exact hp i x (by have:=(List.getElem?_eq_some_iff.1 hi).1;omega) hi
theorem lN:aj Tryz.prog 166 [au s,.fn (.func 167) [] []] (.int .i64 (fE jY s)):=by
 have c1:=VD (s:=s)
 refine aW af Tryz.func166 rfl Tryz.ntmps166 Tryz.results166 rfl fun N=>?_
 repeat' (first|refine zt ?_|(refine isR ?_;first|refine zo ?_|refine zk c1 ?_)|refine zr ?_|exact ah)
 rfl
theorem yI (s:List UInt8):mQ s=decide (fE jY s<0):=by
 have h:=lW (p:=jY) (l:=s)
 have e:mQ s = !s.any jY:=by unfold mQ;rw [List.not_any_eq_all_not]
 rw [e]
 cases ha:s.any jY with
 | true=>rw [ha] at h;rw [decide_eq_false (by have:=h.2 rfl;omega)];rfl
 | false =>
  have:¬ (0≤fE jY s):=fun g=>by rw [h.1 g] at ha;cases ha
  rw [decide_eq_true (by omega)];rfl
theorem Fy:aj Tryz.prog 126 [au s] (.bool (mQ s)):=by
 have c1:=lN (s:=s)
 rw [yI]
 generalize fE jY s=n at *
 refine aU af Tryz.func126 rfl Tryz.ntmps126 Tryz.results126 rfl fun N=>?_
 repeat' (first|refine zt ?_|(refine isR ?_;first|refine zo ?_|refine zk c1 ?_|(refine zs1 ?_ ?_<;>intro hc))|refine zr ?_|exact ah)
 all_goals (show V.bool _=V.bool _;simp [*])
theorem fD {c:UInt8}:aj Tryz.prog 173 [au s,au [c]] (.bool (s.contains c)):=fun g N w vs hG hN hlen hv=>by
 obtain ⟨vs⟩:=vs
 match vs,hlen with
 | [x0,x1],_ =>
  obtain ⟨rfl,h0⟩:=iJ (hv 0 _ x0 rfl rfl)
  obtain ⟨rfl,_⟩:=iJ (hv 1 _ x1 rfl rfl)
  refine (Tryz.strings_Contains_one (str s) c w).mono fun e w' ⟨h1,h2⟩=>⟨_,h1,h2 ▸ Below.refl _ _,?_⟩
  rw [aY,index_ge]
  exact .bool
def gq (f:From) (now:Int):Int:=if bR f.host=true∧pre f.path [47]=true∧mQ f.path=true∧f.path.contains 59=false∧f.path.length≤400 then (if isJ now then 0 else 3) else 1
theorem wH {f:From} {now:Int}:aj Tryz.prog 132 [f.v,.int .i64 now] (.int .i64 (gq f now)):=by
 have c1:=vZ (l:=f.host)
 have c2:=gH (l:=f.path) (m:=[47])
 have c3:=Fy (s:=f.path)
 have c4:=fD (s:=f.path) (c:=59)
 have c5:=qP (n:=now)
 unfold gq
 obtain ⟨f1,f2,f3,f4,f5⟩:=f
 dsimp only at *
 generalize bR f1=x1 at *
 generalize pre f2 [47]=x2 at *
 generalize mQ f2=x3 at *
 generalize f2.contains 59=x4 at *
 generalize isJ now=x5 at *
 show aj _ _ [.agg [au f1,au f2,.bool f3,.bool f4,.bool f5],.int .i64 now] _
 have z:∀ {p:Prop} [Decidable p] {a b:Int},¬ p→(if p then a else b)=b:=fun h=>if_neg h
 cases x1
 ·rw [z (by simp)]
  refine aW af Tryz.func132 rfl Tryz.ntmps132 Tryz.results132 rfl fun N=>?_
  repeat' (first|refine zt ?_|(refine isR ?_;first|refine zo ?_|refine zk c1 ?_|refine zX ?_)|refine zr ?_|exact ah)
  rfl
 cases x2
 ·rw [z (by simp)]
  refine aW af Tryz.func132 rfl Tryz.ntmps132 Tryz.results132 rfl fun N=>?_
  repeat' (first|refine zt ?_|(refine isR ?_;first|refine zo ?_|refine zk c1 ?_|refine zk c2 ?_|refine zX ?_)|refine zr ?_|exact ah)
  rfl
 cases x3
 ·rw [z (by simp)]
  refine aW af Tryz.func132 rfl Tryz.ntmps132 Tryz.results132 rfl fun N=>?_
  repeat' (first|refine zt ?_|(refine isR ?_;first|refine zo ?_|refine zk c1 ?_|refine zk c2 ?_|refine zk c3 ?_|refine zX ?_)|refine zr ?_|exact ah)
  rfl
 cases x4
 ·by_cases h:f2.length≤400
  ·rw [if_pos ⟨rfl,rfl,rfl,rfl,h⟩]
   cases x5
   ·refine aW af Tryz.func132 rfl Tryz.ntmps132 Tryz.results132 rfl fun N=>?_
    repeat' (first|refine zt ?_|(refine isR ?_;first|refine zo ?_|refine zk c1 ?_|refine zk c2 ?_|refine zk c3 ?_|refine zk c4 ?_|refine zk c5 ?_|refine zX ?_)|refine zr ?_|exact ah)
    rfl
   ·refine aW af Tryz.func132 rfl Tryz.ntmps132 Tryz.results132 rfl fun N=>?_
    repeat' (first|refine zt ?_|(refine isR ?_;first|refine zo ?_|refine zk c1 ?_|refine zk c2 ?_|refine zk c3 ?_|refine zk c4 ?_|refine zk c5 ?_|refine zX ?_)|refine zr ?_|exact ah)
    rfl
  ·rw [z (by simp [h])]
   refine aW af Tryz.func132 rfl Tryz.ntmps132 Tryz.results132 rfl fun N=>?_
   repeat' (first|refine zt ?_|(refine isR ?_;first|refine zo ?_|refine zk c1 ?_|refine zk c2 ?_|refine zk c3 ?_|refine zk c4 ?_|refine zX ?_)|refine zr ?_|exact ah)
   rfl
 ·rw [z (by simp)]
  refine aW af Tryz.func132 rfl Tryz.ntmps132 Tryz.results132 rfl fun N=>?_
  repeat' (first|refine zt ?_|(refine isR ?_;first|refine zo ?_|refine zk c1 ?_|refine zk c2 ?_|refine zk c3 ?_|refine zk c4 ?_|refine zX ?_)|refine zr ?_|exact ah)
  rfl
end Rdy
namespace bD
open Scan
variable {V:List Int}
def lm (V:List Int) (i:Nat):Nat:=if V.getD i 0<1∨40<V.getD i 0 then 3 else if 0<i∧V.getD i 0≤V.getD (i-1) 0 then 4 else 0
def Ul (g:Int):Nat:=if g<0∨68719476735<g then 3 else 0
def check (g:Int) (V:List Int):Nat:=if Ul g=0 then scan (lm V) V.length else 3
theorem vX {i:Nat}:lm V i=0↔(1≤V.getD i 0∧V.getD i 0≤40)∧(0<i→V.getD (i-1) 0<V.getD i 0):=by
 unfold lm
 split
 ·constructor
  ·intro h;cases h
  ·intro h;omega
 ·split
  ·constructor
   ·intro h;cases h
   ·intro h;omega
  ·constructor
   ·intro _;omega
   ·intro _;rfl
def Right (V:List Int):Prop:=V.Pairwise (· < ·)∧∀ v∈V,1≤v∧v≤40
theorem xM (h:scan (lm V) V.length=0):Right V:=by
 have ha:=lQ.1 h
 have step:∀ i,i+1<V.length→V.getD i 0<V.getD (i+1) 0:=fun i hi=>(vX.1 (ha (i+1) hi)).2 (by omega)
 have lt:∀ d i,i+d+1<V.length→V.getD i 0<V.getD (i+d+1) 0:=by
  intro d
  induction d with
  | zero=>intro i hi;exact step i hi
  | succ d ih=>intro i hi;exact Int.lt_trans (ih i (by omega)) (step (i+d+1) hi)
 have at':∀ i (hi:i<V.length),V.getD i 0=V[i]:=fun i hi=>by rw [List.getD_eq_getElem?_getD,List.getElem?_eq_getElem hi];rfl
 refine ⟨List.pairwise_iff_getElem.2 fun i j hi hj hij=>?_,fun v hv=>?_⟩
 ·have:=lt (j-i-1) i (by omega)
  rw [show i+(j-i-1)+1=j from by omega,at' i hi,at' j hj] at this
  exact this
 ·obtain ⟨i,hi,rfl⟩:=List.mem_iff_getElem.1 hv
  have:=(vX.1 (ha i hi)).1
  rwa [at' i hi] at this
theorem UX (h:Right V):scan (lm V) V.length=0:=by
 have at':∀ i (hi:i<V.length),V.getD i 0=V[i]:=fun i hi=>by rw [List.getD_eq_getElem?_getD,List.getElem?_eq_getElem hi];rfl
 refine lQ.2 fun i hi=>vX.2 ⟨?_,fun h0=>?_⟩
 ·rw [at' i hi];exact h.2 _ (List.getElem_mem hi)
 ·rw [at' i hi,at' (i-1) (by omega)]
  exact List.pairwise_iff_getElem.1 h.1 (i-1) i (by omega) hi (by omega)
end bD
namespace uR
open Abs cu dV Rdy fI
abbrev Pol:=jb
abbrev Ea (C:Nat→Int):List Int:=[C 0,C 1,C 2,C 3,C 4,C 5,C 6,C 7,C 8,C 9,C 10]
abbrev iZ (p:Pol):Abs.V:=jb.v p
def fG (n:Int):Bool:=decide (0≤n)&&decide (n≤10)
def iU (r:Rule):Nat:=if r.kind<1∨4<r.kind then 7 else if r.text=[]∨400<r.text.length∨(r.kind=4∧bR r.text=false) then 1 else if fG r.purpose=false∨r.vendor<0∨40<r.vendor then 3 else 0
def kg:List Rule→Nat
 | []=>0
 | r::l=>if iU r=0 then kg l else iU r
def qd (n:Int):Bool:=decide (n<1)||decide (1000000000<n)
def OT (C:Nat→Int):Bool:=(Ea C).any qd
def eH (p:Pol):Nat:=if 12<p.rules.length then 2 else if kg p.rules≠0 then kg p.rules else if fG p.dflt=false∨OT p.caps=true then 3 else 0
structure OkR (r:Rule):Prop where
 kind:1≤r.kind∧r.kind≤4
 text:r.text.length≤400
 fG:0≤r.purpose∧r.purpose≤10
theorem Cc {n:Int}:fG n=true↔0≤n∧n≤10:=by unfold fG;simp
theorem MQ {r:Rule} (h:iU r=0):OkR r:=by
 unfold iU at h
 split at h
 ·cases h
 ·split at h
  ·cases h
  ·split at h
   ·cases h
   ·rename_i h1 h2 h3
    exact ⟨by omega,Nat.le_of_not_lt fun h=>h2 (.inr (.inl h)),Cc.1 (by
     cases hp:fG r.purpose with
     | true=>rfl
     | false=>exact absurd (.inl hp) h3)⟩
theorem Al:∀ {l:List Rule},kg l=0→∀ r∈l,OkR r
 | [],_,r,hr=>by cases hr
 | a::l,h,r,hr=>by
  rw [kg] at h
  split at h
  ·rename_i h0
   rcases List.mem_cons.1 hr with rfl|hr
   ·exact MQ h0
   ·exact Al h r hr
  ·rename_i h0;exact absurd h h0
structure OkP (p:Pol):Prop where
 len:p.rules.length≤12
 rules:∀ r∈p.rules,OkR r
 dflt:0≤p.dflt∧p.dflt≤10
 caps:∀ i,i≤10→1≤p.caps i∧p.caps i≤1000000000
theorem eT {p:Pol} (h:eH p=0):OkP p:=by
 unfold eH at h
 split at h
 ·cases h
 ·split at h
  ·rename_i h1 h2;exact absurd h h2
  ·split at h
   ·cases h
   ·rename_i h1 h2 h3
    refine ⟨by omega,Al (by simpa using h2),Cc.1 (by
     cases hp:fG p.dflt with
     | true=>rfl
     | false=>exact absurd (.inl hp) h3),fun i hi=>?_⟩
    have hb:OT p.caps=false:=by
     cases hp:OT p.caps with
     | false=>rfl
     | true=>exact absurd (.inr hp) h3
    have hm:p.caps i∈Ea p.caps:=by
     have:i=0∨i=1∨i=2∨i=3∨i=4∨i=5∨i=6∨i=7∨i=8∨i=9∨i=10:=by omega
     rcases this with rfl|rfl|rfl|rfl|rfl|rfl|rfl|rfl|rfl|rfl|rfl<;>simp [Ea]
    have:=List.any_eq_false.1 hb _ hm
    unfold qd at this
    simp at this
    omega
def jB (r:Rule) (c:ai):Bool:=if r.kind=1 then decide (c.name=r.text) else if r.kind=2 then pre c.name r.text else if r.kind=3 then qI c.name r.text else iq c.domain r.text
def je (p:Pol) (c:ai):Int × Int:=match p.rules.find? (fun r=>jB r c) with
 | some r=>(r.purpose,r.vendor)
 | none=>(p.dflt,0)
theorem AQ {p:Pol} (h:OkP p) (c:ai):0≤(je p c).1∧(je p c).1≤10:=by
 unfold je
 cases hf:p.rules.find? (fun r=>jB r c) with
 | none=>exact h.dflt
 | some r=>exact (h.rules r (List.mem_of_find?_eq_some hf)).fG
def EU (P:Nat→Bool) (U:List Int) (k v:Int):Bool:=(decide (k=0)||(fG k&&P (k-1).toNat))&&(decide (v=0)||U.contains v)
def fV (n s:Int):Int:=n+if s<253402300799-n then s else 253402300799-n
def vG (p:Pol) (c:ai):Int:=fV c.created (p.caps (je p c).1.toNat)
def bM (p:Pol) (c:ai):ai:={ c with expiry:=if vG p c<c.expiry then vG p c else c.expiry }
def jd (p:Pol) (P:Nat→Bool) (U:List Int) (c:ai):Bool:=EU P U (je p c).1 (je p c).2
def dm (p:Pol) (P:Nat→Bool) (U:List Int) (now:Int) (L:List ai):List ai:=L.flatMap fun c=>if jd p P U c=true∧now<(bM p c).expiry then [bM p c] else []
theorem Yy {p:Pol} {P:Nat→Bool} {U:List Int} {now:Int} (L:List ai) {k:Nat} {c:ai} (h:L[k]? = some c):dm p P U now (L.take (k+1))=dm p P U now (L.take k)++if jd p P U c=true∧now<(bM p c).expiry then [bM p c] else []:=by
 unfold dm
 rw [List.take_add_one,h,List.flatMap_append]
 simp
theorem wQ {p:Pol} {P:Nat→Bool} {U:List Int} {now:Int}:∀ L:List ai,(dm p P U now L).length≤L.length
 | []=>Nat.zero_le _
 | c::L=>by
  have ih:=wQ (p:=p) (P:=P) (U:=U) (now:=now) L
  have e:dm p P U now (c::L)=(if jd p P U c=true∧now<(bM p c).expiry then [bM p c] else [])++dm p P U now L:=by unfold dm;rw [List.flatMap_cons]
  rw [e,List.length_append,List.length_cons]
  split
  ·rw [List.length_singleton];omega
  ·rw [List.length_nil];omega
def jQ (p:Pol) (g:Int) (U:List Int):Nat:=if eH p≠0 then eH p else bD.check g U
end uR
namespace iP
open Go.RowKit Mem Abs Scan fI gF iG
abbrev TC:Nat:=46
abbrev nV (n:Nat):Abs.V:=.int .i64 (n:Int)
theorem bT {α:Type} {f:α→Abs.V} {L:List α} {k:Nat} {x:α} (h:L[k]? = some x):(L.map f)[k]? = some (f x):=by rw [List.getElem?_map,h];rfl
def RO (L:List ai) (c:ai) (k:Nat):Nat:=(L.take k).countP fun d=>decide (d.domain=c.domain)
theorem abv (L:List ai) (c:ai) (k:Nat):RO L c k≤k:=Nat.le_trans List.countP_le_length (by rw [List.length_take];omega)
theorem YW {L:List ai} {nx:Int} {i:Nat} {c:ai} (hc:L[i]? = some c):jC L nx i=if kF c=true then 3 else if c.no<0∨nx≤c.no then 4
  else if (L.take i).any (fun d=>bq d c||decide (d.no=c.no))=true then 6
  else if RO L c i=4 then 2 else 0:=by
 unfold jC
 rw [hc]
 rfl
end iP
end Go.Proofs.YtlfdjpgghiemfaaGreatDoor
