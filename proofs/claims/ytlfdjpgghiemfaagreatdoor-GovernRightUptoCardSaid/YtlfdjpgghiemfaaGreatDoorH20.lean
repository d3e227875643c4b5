/- Texts of the proof, joined: Rune, Scan, JarP, JarQ, AbsZ, JarA. -/
import Derived.Test.YtlfdjpgghiemfaaGreatDoorH19
import Derived.Lib.SpaceUEq
import Derived.Lib.MapLaws
import Derived.Test.YtlfdjpgghiemfaaGreatDoorH12
import Derived.Test.YtlfdjpgghiemfaaGreatDoorH15
set_option maxHeartbeats 4000000
set_option maxRecDepth 100000
namespace Go.Proofs.YtlfdjpgghiemfaaGreatDoor
namespace Nl
open Abs
theorem AP (l:List UInt8) (i:Nat):(str l).get! i=l.getD i 0:=by
 show l.toArray[i]! = _
 rw [List.getElem!_toArray,List.getD_eq_getElem?_getD,List.getElem!_eq_getElem?_getD]
 rfl
theorem getD_some {l:List UInt8} {i:Nat} (h:i<l.length):l[i]? = some (l.getD i 0):=by
 rw [List.getD_eq_getElem?_getD,List.getElem?_eq_getElem h];rfl
theorem IE (l:List UInt8) (pos:Nat) (h:pos<l.length):∃ c wd,Utf8.decode (str l) pos=(c,wd)∧1≤wd∧pos+wd≤l.length∧c≤1114111 ∧
  ((∃ b,l[pos]? = some b∧b.toNat<128∧c=b.toNat∧wd=1)∨(128≤c∧∀ j,pos≤j→j<pos+wd→∃ b,l[j]? = some b∧128≤b.toNat)):=by
 have hr:=Lib.rune_le (str l) pos
 have hd:=Lib.decode_at (str l) pos
 rw [AP,AP,AP,AP,aM] at hd
 have h0:=getD_some h
 have hb:=(l.getD pos 0).toNat_lt
 have hs:=Lib.decodeN_shape (l.length-pos) (l.getD pos 0).toNat (l.getD (pos+1) 0).toNat (l.getD (pos+2) 0).toNat (l.getD (pos+3) 0).toNat
 rcases hs with ⟨g1,g2⟩|⟨g1,g2,g3,g4,g5⟩|⟨g1,g2,g3,g4,g5,g6,g7⟩|⟨g1,g2,g3,g4,g5,g6,g7,g8⟩|g1
 ·rw [g2] at hd
  exact ⟨_,_,hd,by omega,by omega,by omega,.inl ⟨_,h0,g1,rfl,rfl⟩⟩
 ·rw [g5] at hd
  refine ⟨_,_,hd,by omega,by omega,by rw [hd] at hr;exact hr,.inr ⟨g4,fun j h1 h2=>?_⟩⟩
  refine ⟨_,getD_some (by omega),?_⟩
  rcases (show j=pos∨j=pos+1 by omega) with rfl|rfl<;>omega
 ·rw [g7] at hd
  refine ⟨_,_,hd,by omega,by omega,by rw [hd] at hr;exact hr,.inr ⟨by omega,fun j h1 h2=>?_⟩⟩
  refine ⟨_,getD_some (by omega),?_⟩
  rcases (show j=pos∨j=pos+1∨j=pos+2 by omega) with rfl|rfl|rfl<;>omega
 ·rw [g8] at hd
  refine ⟨_,_,hd,by omega,by omega,by rw [hd] at hr;exact hr,.inr ⟨by omega,fun j h1 h2=>?_⟩⟩
  refine ⟨_,getD_some (by omega),?_⟩
  rcases (show j=pos∨j=pos+1∨j=pos+2∨j=pos+3 by omega) with rfl|rfl|rfl|rfl<;>omega
 ·rw [g1] at hd
  by_cases h1:(l.getD pos 0).toNat<128
  ·exfalso
   have:Lib.decodeN (l.length-pos) (l.getD pos 0).toNat (l.getD (pos+1) 0).toNat (l.getD (pos+2) 0).toNat (l.getD (pos+3) 0).toNat=((l.getD pos 0).toNat,1):=by unfold Lib.decodeN;rw [if_pos h1]
   rw [g1] at this
   have:=congrArg Prod.fst this
   dsimp only at this;omega
  ·refine ⟨_,_,hd,by omega,by omega,by omega,.inr ⟨by omega,fun j h2 h3=>?_⟩⟩
   obtain rfl:j=pos:=by omega
   exact ⟨_,h0,by omega⟩
end Nl
namespace Scan
variable {k:Nat} {f:Nat→Nat}
def scan (f:Nat→Nat):Nat→Nat
 | 0=>0
 | n+1=>if scan f n=0 then f n else scan f n
theorem yH (h:scan f k=0) (hk:f k=0):scan f (k+1)=0:=by
 simp [scan,h,hk]
theorem Ps (h:scan f k=0):scan f (k+1)=f k:=by
 simp [scan,h]
theorem Qj (h:scan f k≠0):∀ n,k≤n→scan f n=scan f k:=by
 intro n hn
 induction n with
 | zero => have : k = 0 := by omega
           subst this;rfl
 | succ n ih =>
  by_cases e:k=n+1
  ·subst e;rfl
  ·have:=ih (by omega)
   simp only [scan]
   rw [this,if_neg h]
theorem F8 {n:Nat} (h:scan f k=0) (hk:f k≠0) (hn:k<n):scan f n=f k:=by
 have e:=Ps h
 rw [Qj (by rw [e];exact hk) n hn,e]
theorem lQ {n:Nat}:scan f n=0↔∀ i,i<n→f i=0:=by
 induction n with
 | zero=>simp [scan]
 | succ n ih =>
  constructor
  ·intro h
   have h0:scan f n=0:=by
    rcases Nat.eq_zero_or_pos (scan f n) with h0|h0
    ·exact h0
    ·simp only [scan] at h;rw [if_neg (by omega)] at h;omega
   intro i hi
   by_cases e:i=n
   ·subst e;rw [Ps h0] at h;exact h
   ·exact ih.1 h0 i (by omega)
  ·intro h
   exact yH (ih.2 fun i hi=>h i (by omega)) (h n (by omega))
end Scan
namespace fI
open Abs Scan
def isJ (n:Int):Bool:=decide (-11644473600≤n)&&decide (n≤253402300799)
def bq (a b:ai):Bool:=decide (a.name=b.name)&&(decide (a.domain=b.domain)&&decide (a.path=b.path))
def kF (c:ai):Bool := !(isJ c.created&&isJ c.used)
def jC (L:List ai) (nx:Int) (i:Nat):Nat:=match L[i]? with
 | none=>0
 | some c => if kF c = true then 3 else if c.no < 0 ∨ nx ≤ c.no then 4
   else if (L.take i).any (fun d=>bq d c||decide (d.no=c.no))=true then 6
   else if (L.take i).countP (fun d=>decide (d.domain=c.domain))=4 then 2 else 0
def dD (L:List ai) (nx:Int):Nat:=if 12<L.length then 2 else if scan (jC L nx) L.length≠0 then scan (jC L nx) L.length else if nx<0∨1099511627776<nx then 3 else 0
theorem few {L:List ai} {nx:Int}:∀ {k:Nat},k≤L.length→scan (jC L nx) k=0→∀ d:List UInt8,(L.take k).countP (fun c=>decide (c.domain=d))≤4
 | 0,_,_,d=>by simp
 | k+1,hk,h,d=>by
  have hz:=lQ.1 h
  have ih:=few (L:=L) (nx:=nx) (k:=k) (by omega) (lQ.2 fun i hi=>hz i (by omega)) d
  have hc:L[k]? = some L[k]:=by simp
  have h2:=hz k (by omega)
  rw [List.take_add_one,hc,List.countP_append]
  generalize L[k]=c at *
  by_cases hd:c.domain=d
  ·subst hd
   have h4:(L.take k).countP (fun x=>decide (x.domain=c.domain))≠4:=fun h4=>by
    unfold jC at h2
    rw [hc] at h2
    dsimp only at h2
    rw [if_pos h4] at h2
    split at h2
    ·cases h2
    ·split at h2
     ·cases h2
     ·split at h2<;>cases h2
   simp
   omega
  ·simp [hd]
   exact ih
def aI (now:Int) (L:List ai):List ai:=L.filter fun c=>decide (now<c.expiry)
def mh (L:List ai) (nx:Int) (c:ai):List ai × Int:=match L.findIdx? (fun x=>bq x c) with
 | some i=>(L.set i { c with created:=(L.getD i c).created,no:=(L.getD i c).no },nx)
 | none=>(L++[{ c with no:=nx }],nx+1)
def l7 (a b:ai):Bool:=decide (a.used<b.used)||(decide (a.used=b.used)&&decide (a.no<b.no))
def l5 (p:ai→Bool) (L:List ai):Nat→Option Nat
 | 0=>none
 | k+1=>match L[k]? with
  | none=>l5 p L k
  | some c=>if p c=true then (match l5 p L k with
   | none=>some k
   | some a=>if l7 c (L.getD a c)=true then some k else some a) else l5 p L k
def evF (most:Nat) (p:ai→Bool):Nat→List ai→List ai
 | 0,L=>L
 | n+1,L=>if L.countP p≤most then L else match l5 p L L.length with
  | none=>L
  | some i=>evF most p n (L.eraseIdx i)
def sV (L:List ai) (nx:Int) (c:ai) (now:Int):List ai × Int :=
 let r:=mh (aI now L) nx c
 let M:=aI now r.1
 let M1:=evF 4 (fun x=>decide (x.domain=c.domain)) (M.length+1) M
 (evF 12 (fun _=>true) (M1.length+1) M1,r.2)
def iw (L:List ai) (nx:Int) (c:ai) (now:Int):Nat :=
 if dD L nx≠0 then dD L nx else if isJ now=false∨kF c=true then 3 else if nx=1099511627776 then 2 else 0
end fI
namespace gF
open Abs Scan fI
structure Rj (L:List ai) (nx:Int):Prop where
 len:L.length≤12
 mom:∀ c∈L,kF c=false
 no:∀ c∈L,0≤c.no∧c.no<nx
 dis:L.Pairwise fun a b=>bq a b=false∧a.no≠b.no
 per:∀ d:List UInt8,L.countP (fun c=>decide (c.domain=d))≤4
 nx:0≤nx∧nx≤1099511627776
theorem Ga {L:List ai} {nx:Int} {i:Nat} {c:ai} (hc:L[i]? = some c):jC L nx i=0↔kF c=false∧(0≤c.no∧c.no<nx)∧(∀ d∈L.take i,bq d c=false∧d.no≠c.no)∧(L.take i).countP (fun d=>decide (d.domain=c.domain))≠4:=by
 unfold jC
 rw [hc]
 dsimp only
 by_cases h1:kF c=true
 ·rw [if_pos h1]
  constructor
  ·intro h;cases h
  ·rintro ⟨h,_⟩;rw [h] at h1;cases h1
 ·rw [if_neg h1]
  have h1:kF c=false:=by simpa using h1
  by_cases h2:c.no<0∨nx≤c.no
  ·rw [if_pos h2]
   constructor
   ·intro h;cases h
   ·rintro ⟨_,h,_⟩;omega
  ·rw [if_neg h2]
   by_cases h3:(L.take i).any (fun d=>bq d c||decide (d.no=c.no))=true
   ·rw [if_pos h3]
    constructor
    ·intro h;cases h
    ·rintro ⟨_,_,h,_⟩
     obtain ⟨d,hd,hq⟩:=List.any_eq_true.1 h3
     obtain ⟨k1,k2⟩:=h d hd
     rw [k1,decide_eq_false k2] at hq
     cases hq
   ·rw [if_neg h3]
    have h3':∀ d∈L.take i,bq d c=false∧d.no≠c.no:=fun d hd=>by
     have:(bq d c||decide (d.no=c.no))=false:=by
      cases hb:(bq d c||decide (d.no=c.no)) with
      | false=>rfl
      | true=>exact absurd (List.any_eq_true.2 ⟨d,hd,hb⟩) h3
     rw [Bool.or_eq_false_iff] at this
     exact ⟨this.1,of_decide_eq_false this.2⟩
    by_cases h4:(L.take i).countP (fun d=>decide (d.domain=c.domain))=4
    ·rw [if_pos h4]
     constructor
     ·intro h;cases h
     ·rintro ⟨_,_,_,h⟩;exact absurd h4 h
    ·rw [if_neg h4]
     exact ⟨fun _=>⟨h1,by omega,h3',h4⟩,fun _=>rfl⟩
theorem dx {L:List ai} {nx:Int}:dD L nx=0↔Rj L nx:=by
 unfold dD
 by_cases hl:12<L.length
 ·rw [if_pos hl]
  constructor
  ·intro h;cases h
  ·intro h;have:=h.len;omega
 rw [if_neg hl]
 by_cases hs:scan (jC L nx) L.length=0
 ·rw [if_neg (by rw [hs];simp)]
  by_cases hn:nx<0∨1099511627776<nx
  ·rw [if_pos hn]
   constructor
   ·intro h;cases h
   ·intro h;have:=h.nx;omega
  ·rw [if_neg hn]
   refine ⟨fun _=>?_,fun _=>rfl⟩
   have hz:=lQ.1 hs
   have at':∀ i (hi:i<L.length),kF L[i]=false∧(0≤L[i].no∧L[i].no<nx)∧(∀ d∈L.take i,bq d L[i]=false∧d.no≠L[i].no)∧(L.take i).countP (fun d=>decide (d.domain=L[i].domain))≠4:=fun i hi=>(Ga (by simp [hi])).1 (hz i hi)
   refine ⟨by omega,fun c hc=>?_,fun c hc=>?_,List.pairwise_iff_getElem.2 fun i j hi hj hij=>?_,fun d=>?_,by omega⟩
   ·obtain ⟨i,hi,rfl⟩:=List.mem_iff_getElem.1 hc
    exact (at' i hi).1
   ·obtain ⟨i,hi,rfl⟩:=List.mem_iff_getElem.1 hc
    exact (at' i hi).2.1
   ·refine (at' j hj).2.2.1 _ ?_
    rw [List.mem_take_iff_getElem]
    exact ⟨i,by omega,rfl⟩
   ·have:=few (L:=L) (nx:=nx) (k:=L.length) (Nat.le_refl _) hs d
    rwa [List.take_length] at this
 ·rw [if_pos hs]
  refine ⟨fun h=>absurd h hs,fun h=>absurd (lQ.2 fun i hi=>?_) hs⟩
  have hc:L[i]? = some L[i]:=by simp [hi]
  refine (Ga hc).2 ⟨h.mom _ (List.getElem_mem hi),h.no _ (List.getElem_mem hi),fun d hd=>?_,fun h4=>?_⟩
  ·obtain ⟨k,hk,rfl⟩:=List.mem_take_iff_getElem.1 hd
   exact List.pairwise_iff_getElem.1 h.dis k i (by omega) hi (by omega)
  ·have:=h.per L[i].domain
   have e:L.countP (fun d=>decide (d.domain=L[i].domain))=(L.take (i+1)).countP (fun d=>decide (d.domain=L[i].domain))+(L.drop (i+1)).countP (fun d=>decide (d.domain=L[i].domain)):=by
    rw [← List.countP_append,List.take_append_drop]
   rw [List.take_add_one,hc,List.countP_append,h4] at e
   simp at e
   omega
end gF
namespace Abs
open Go.RowKit Mem Facts
theorem NT {n:Nat} (h:n<128):Utf8.encode (n:Int)=⟨#[UInt8.ofNat n]⟩:=by
 have hv:Utf8.valid (n:Int)=true:=by
  simp only [Utf8.valid,Bool.or_eq_true,Bool.and_eq_true,decide_eq_true_eq]
  first|omega|(left;omega)|(left;constructor<;>omega)
 unfold Utf8.encode
 simp only [hv,if_true,Int.toNat_natCast]
 rw [if_pos h]
theorem Gf:∀ (l:List UInt8) (s:ByteArray),(∀ b∈l,b.toNat<128)→(l.map fun b=>(b.toNat:Int)).foldl (fun r n=>r++Utf8.encode n) s=s++str l
 | [],s,_=>by show s=s++str [];apply ByteArray.ext;simp [str,ByteArray.data_append]
 | b::l,s,h=>by
  have hb:=h b (by simp)
  rw [List.map_cons,List.foldl_cons,Gf l _ fun c hc=>h c (by simp [hc]),NT hb]
  apply ByteArray.ext
  simp [str,ByteArray.data_append]
theorem Co {l:List UInt8} (h:∀ b∈l,b.toNat<128):runesBytes (l.map fun b=>(b.toNat:Int))=str l:=by
 unfold runesBytes
 rw [Gf l _ h]
 apply ByteArray.ext
 simp [str]
abbrev uU (c:UInt8):V:=.int .i32 (c.toNat:Int)
section
variable {X A A':Nat→Prop} {φ φ':Nat→Pl} {w w':World} {P:Program} {tb:List Ty} {T:Nat} {e ee e':Ty} {N:Env} {M:Nat→Prop} {o:Oper} {s:S} {a:Act} {x y:Operand} {el:Nat} {L:List UInt8}
variable {src dst:Nat}
theorem yX {α:Type} {f:α→V} (hf:∀ a,(f a).cells=[f a]):∀ L:List α,flat (L.map f)=L.map f
 | []=>rfl
 | a::L=>by show (f a).cells++flat (L.map f)=_;rw [hf,yX hf L];rfl
theorem Iu {ti:TypeInfo} {d:TypeDesc} {k:IntKind} (ht:GV P T e ti d) (hk:Nat.beq e.knd (jN k)=true):P.underlying T=some (.int k):=by
 have:d = .int k:=rP ((Nat.eq_of_beq_eq_true hk).symm.trans ht.knd)
 rw [ht.und,this]
theorem Iq {n:Nat} (htb:aL P tb) (ho:o.op = .convert src dst x) (hS:nth tb src=some e) (hs:e.sl=some el) (hE:nth tb el=some ee) (hk:Nat.beq ee.knd (jN .i32)=true) (hD:nth tb dst=some e') (hd2:Nat.beq e'.knd 2=true) (hlow:∀ b∈L,b.toNat<128) (hl:L.length≤dY):
  aC P N o ⟨[(x,.own n 0 L.length)],[(n,.els el 1 (L.map uU))]⟩ (au L) [] []:=aD fun s M A φ a w hh hr=>by
 obtain ⟨ti,d,ht⟩:=aV htb hS
 obtain ⟨tj,dj,hj⟩:=aV htb hE
 obtain ⟨tk,dk,hkk⟩:=aV htb hD
 obtain ⟨vals,h1,h2,h3⟩:=Bn hr hh.n (hr.ev hh.a) (by simp)
 refine ⟨.string (str L),?_,.fz (.str (by rw [aM];exact hl))⟩
 have hv:∀ (j:Nat) c,L[j]? = some c→vals[j]? = some (.int .i32 c.toNat):=fun j c hj=>by
  have hf:=yX (f:=uU) (fun _=>rfl) L
  have hlv:vals.length=L.length:=by have:=h1.1;simpa using this
  have hjl:j<vals.length:=by rw [hlv];exact (List.getElem?_eq_some_iff.1 hj).1
  have hr2:=h2.at (j:=j) (u:=uU c) (c:=vals[j]) (by rw [hf];simp [hj]) (by simp [hjl])
  rw [List.getElem?_eq_getElem hjl,fJ hr2]
 have hrun:(convert src dst (a.eval x)).run P w = .ok (.string (str L)) w:=by
  rcases h1.2 with ⟨e1,e2⟩|⟨g,cap,cur,e1,_,hg,hnc,hcm,hcs,htake⟩
  ·rw [e1,run_convert_runes_nil w src dst el 0 0 (dF ht hs) (Iu hj hk) (qc hkk hd2)]
   have:L=[]:=List.eq_nil_of_length_eq_zero e2
   subst this;rfl
  ·rw [e1,run_convert_runes w src dst el ⟨g,0,none⟩ L.length cap (L.map fun b=>(b.toNat:Int)) (by simp) (dF ht hs) (Iu hj hk) (qc hkk hd2) (fun j hjl=>?_)]
   ·rw [List.take_of_length_le (by simp),Co hlow]
   ·have hj2:j<L.length:=by simpa using hjl
    have hc:=h1.cells (g:=g) (by rw [e1];rfl) j (.int .i32 (L[j]).toNat) (hv j L[j] (by simp [hj2]))
    rw [hc,List.getD_eq_getElem?_getD,List.getElem?_map,List.getElem?_eq_getElem hj2]
    rfl
 unfold execOp
 simp only [ho,Sem.run_bind,hrun,Result.andThen_ok,Sem.run_pure]
theorem SF {n:Int} (h1 : -9223372036854775808≤n) (h2:n≤9223372036854775807):IntKind.i64.wrap (((BitVec.ofInt 64 (-1) ^^^ BitVec.ofInt 64 n).toNat:Nat):Int) = -1-n:=by
 have e:(BitVec.ofInt 64 (-1):BitVec 64)=BitVec.allOnes 64:=by decide
 have e2:((2^64:Nat):Int)=18446744073709551616:=by decide
 have e3:(2^64:Nat)=18446744073709551616:=by decide
 rw [e,BitVec.allOnes_xor,BitVec.toNat_not,BitVec.toNat_ofInt,e2,e3]
 by_cases h:0≤n
 ·have e4:(n % 18446744073709551616).toNat=n.toNat:=by omega
  rw [e4]
  have e5:((18446744073709551616-1-n.toNat:Nat):Int)=18446744073709551615-n:=by omega
  rw [e5]
  simp [IntKind.wrap,IntKind.bits,IntKind.signed]
  omega
 ·have e4:(n % 18446744073709551616).toNat=(n+18446744073709551616).toNat:=by omega
  rw [e4]
  have e5:((18446744073709551616-1-(n+18446744073709551616).toNat:Nat):Int) = -1-n:=by omega
  rw [e5]
  exact wrap64 (by omega) (by omega)
theorem YL {t:TypeId} {n:Int} (ho:o.op = .unOp .xor t x) (h : -9223372036854775808≤n∧n≤9223372036854775807):aC P N o ⟨[(x,.int .i64 n)],[]⟩ (.int .i64 (-1-n)) [] []:=aD fun s M A φ a w hh hr =>
 ⟨.int .i64 (-1-n),by
  unfold execOp
  simp only [ho,hr.int hh.a,Op.unary,Op.intBits,Sem.run_bind,Sem.run_pure,Result.andThen_ok]
  exact congrArg (fun z=>Result.ok (Next.value (Value.int .i64 z)) w) (SF h.1 h.2),.fz (.int ⟨by simp only [rng];omega,by simp only [rng];omega⟩)⟩
def eqI (us vs:List V):List Nat→Bool
 | []=>true
 | i::r=>(match nth us i,nth vs i with
  | some u,some v=>eqS u v
  | _,_=>false)&&eqI us vs r
def okI (k:Nat) (us vs:List V):List Nat→Bool
 | []=>true
 | i::r=>(match nth us i,nth vs i with
  | some u,some v=>okS k u v
  | _,_=>false)&&okI k us vs r
theorem Im {us vs:List V} {xs ys:Array Value} (htb:aL P tb) (hE:nth tb el=some ee) (hx:gG X A φ w us xs.toList) (hy:gG X A φ w vs ys.toList) (d:Nat):∀ (is:List Nat),okI ee.knd us vs is=true→∀ w1,(Op.eqItems (d+1) el 1 xs ys is).run P w1 = .ok (eqI us vs is) w1
 | [],_,w1=>by simp [Op.eqItems,eqI]
 | i::is,hok,w1=>by
  simp only [okI,Bool.and_eq_true] at hok
  obtain ⟨h1,h2⟩:=hok
  have ih:=Im htb hE hx hy d is h2
  cases hu:nth us i with
  | none=>rw [hu] at h1;cases h1
  | some u =>
   cases hv:nth vs i with
   | none=>rw [hu,hv] at h1;cases h1
   | some v =>
    rw [hu,hv] at h1
    simp only at h1
    have hu':=hu
    have hv':=hv
    rw [dw] at hu hv
    obtain ⟨cx,k1,k2⟩:=hx.2 _ _ hu
    obtain ⟨cy,k3,k4⟩:=hy.2 _ _ hv
    rw [Array.getElem?_toList] at k1 k3
    obtain ⟨g1,g2⟩:=Bc (P:=P) htb hE h1 k2 k4 d
    simp only [Op.eqItems,Nat.mul_one,Sem.run_bind,run_part_plain w1 g1 k1,run_part_plain w1 g1 k3,Result.andThen_ok,g2 w1,eqI,hu',hv']
    cases eqS u v
    ·simp
    ·simp [ih w1]
theorem JY {y:Operand} {T':TypeId} {us vs:List V} {r:Bool} {len:Nat} (htb:aL P tb) (ho:o.op = .binOp .neq T x y T') (hT:nth tb T=some e) (ha:e.arr=some (len,el)) (hE:nth tb el=some ee) (hc:P.cellsOf el=1) (hq:P.eqGuardType P.depth T=false) (hok:okI ee.knd us vs (List.range len)=true) (h:(!eqI us vs (List.range len))=r) :
  aC P N o ⟨[(x,.agg us),(y,.agg vs)],[]⟩ (.bool r) [] []:=aD fun s M A φ ac w hh hr=>by
 obtain ⟨cx,e1,h1,h2,h3⟩:=jw (hr.ev hh.a)
 obtain ⟨cy,e2,g1,g2,g3⟩:=jw (hr.ev hh.b)
 obtain ⟨ti,d,ht⟩:=aV htb hT
 obtain ⟨tj,dj,hj⟩:=aV htb hE
 have hd:d = .array len el:=by
  have:=ht.arr
  rw [ha] at this
  cases d<;>simp [yC] at this
  rw [this.1,this.2]
 have hu:P.underlying T=some (.array len el):=by rw [ht.und,hd]
 have hrun:(Op.equalIn 10000 T (.agg cx) (.agg cy)).run P w = .ok (eqI us vs (List.range len)) w:=by
  rw [run_equalIn_array (P:=P) w 9999 cx cy hu hj.info,hc]
  exact Im (w:=w) htb hE (gG.mk' (by simpa using h1) fun j u c hu hc=>h3 j u c hu (by simpa using hc)) (gG.mk' (by simpa using g1) fun j u c hu hc=>g3 j u c hu (by simpa using hc)) 9998 _ hok w
 refine ⟨.bool r,?_,.fz .bool⟩
 unfold execOp
 simp only [ho,e1,e2,Sem.run_bind,run_eqGuard_agg w .neq T x y cx cy hq,Result.andThen_ok,run_neq_struct,hrun,Sem.run_pure,h]
theorem LQ (l:List UInt8):strOfNums (l.map fun b=>(b.toNat:Int))=str l:=by
 unfold strOfNums
 apply ByteArray.ext
 simp [str,Function.comp_def]
theorem IB {n:Nat} (htb:aL P tb) (ho:o.op = .convert src dst x) (hS:nth tb src=some e) (hs:e.sl=some el) (hE:nth tb el=some ee) (hk:Nat.beq ee.knd (jN .u8)=true) (hD:nth tb dst=some e') (hd2:Nat.beq e'.knd 2=true) (hl:L.length≤dY):
  aC P N o ⟨[(x,.own n 0 L.length)],[(n,.els el 1 (L.map bB))]⟩ (au L) [] []:=aD fun s M A φ a w hh hr=>by
 obtain ⟨ti,d,ht⟩:=aV htb hS
 obtain ⟨tj,dj,hj⟩:=aV htb hE
 obtain ⟨tk,dk,hkk⟩:=aV htb hD
 obtain ⟨vals,h1,h2,h3⟩:=Bn hr hh.n (hr.ev hh.a) (by simp)
 refine ⟨.string (str L),?_,.fz (.str (by rw [aM];exact hl))⟩
 have hv:∀ (j:Nat) c,L[j]? = some c→vals[j]? = some (.int .u8 c.toNat):=fun j c hj=>by
  have hf:=yX (f:=bB) (fun _=>rfl) L
  have hlv:vals.length=L.length:=by have:=h1.1;simpa using this
  have hjl:j<vals.length:=by rw [hlv];exact (List.getElem?_eq_some_iff.1 hj).1
  have hr2:=h2.at (j:=j) (u:=bB c) (c:=vals[j]) (by rw [hf];simp [hj]) (by simp [hjl])
  rw [List.getElem?_eq_getElem hjl,fJ hr2]
 have hrun:(convert src dst (a.eval x)).run P w = .ok (.string (str L)) w:=by
  rcases h1.2 with ⟨e1,e2⟩|⟨g,cap,cur,e1,_,hg,hnc,hcm,hcs,htake⟩
  ·rw [e1,run_convert_bytes_nil w src el (dF ht hs) (Iu hj hk) 0 0 dst (qc hkk hd2)]
   have:L=[]:=List.eq_nil_of_length_eq_zero e2
   subst this;rfl
  ·rw [e1,run_convert_bytes_arg w src el (dF ht hs) (Iu hj hk) g 0 L.length cap (L.map fun b=>(b.toNat:Int)) (by simp) (fun j hjl=>?_) dst (qc hkk hd2),LQ]
   have hc:=h1.cells (g:=g) (by rw [e1];rfl) j (.int .u8 (L[j]).toNat) (hv j L[j] (by simp [hjl]))
   have hplain:(⟨g,0,none⟩:Addr).add j=⟨g,0+j,none⟩:=by
    unfold Addr.add
    split
    ·subst_vars;rfl
    ·simp
   rw [hplain] at hc
   rw [hc,List.getD_eq_getElem?_getD,List.getElem?_map,List.getElem?_eq_getElem hjl]
   rfl
 unfold execOp
 simp only [ho,Sem.run_bind,hrun,Result.andThen_ok,Sem.run_pure]
end
section
variable {P:Program} {N:Env} {l r:List Oper} {o:Oper} {tm:List (Nat × V)} {st:List (Nat × Option Blk)} {nx nt:Nat} {tr:List Tr} {K:S→List Tr→Prop} {tb:List Ty} {d T:Nat} {t t':TypeId} {x y z:Operand} {a b n:Int} {p q:List UInt8} {u v:Bool} {e ee:Ty} {kd:IntKind}
variable {α:Type} {i0:Nat} {a0:α} {sz:Nat} {kc:IntKind} {z0:V} {m:Nat} {c:Int}
theorem kD (f:α→V) {L:List α} {a1:α} {el:Nat} (j:Nat) (htb:aL P tb) (k:ay P N l K r ⟨tm,(m,some (.els el sz ((L.set j a1).map f)))::st,nx,nt⟩ (tr++[aH l o ⟨[(x,.loc m i0 0),(y,f a1)],[(m,.els el sz (L.map f))]⟩ [(m,some (.els el sz ((L.set j a1).map f)))]])) (ho:o.op = .store t x y:=by rfl) (hx:S.ev ⟨tm,st,nx,nt⟩ x=some (.loc m i0 0):=by rfl) (hy:S.ev ⟨tm,st,nx,nt⟩ y=some (f a1):=by rfl) (hg:ax l o ⟨tm,st,nx,nt⟩=some true:=by rfl) (hd:o.dst=none:=by rfl) (hB:S.blk ⟨tm,st,nx,nt⟩ m=some (.els el sz (L.map f)):=by rfl) (hT':nth tb t=some e:=by rfl) (hi:i0=j:=by omega) (hL:L[j]? = some a0:=by assumption) (h1:(f a1).cells.all V.one=true:=by rfl) (h2:(f a1).cells.length=e.size:=by rfl) (hp:Km (f a0) 0 (f a1)=some (f a1):=by rfl) (hel:(!(f a0).one||Nat.beq (f a1).cells.length 1)=true:=by rfl):ay P N l K (o::r) ⟨tm,st,nx,nt⟩ tr:=BD hg hd (uh htb ho hT' (i:=i0) (el:=f a0) (by subst hi;rw [List.getElem?_map,hL];rfl) h1 h2 hp hel (by subst hi;rw [List.map_set])) (hT hx (hT hy (hN hB h0))) k
theorem cZ (f:α→V) {L:List α} {el:Nat} (j:Nat) (htb:aL P tb) (k:ay P N l K r ⟨(d,f a0)::tm,st,nx,nt⟩ (tr++[aH l o ⟨[(x,.loc m i0 0)],[(m,.els el sz (L.map f))]⟩ []])) (ho:o.op = .load t x:=by rfl) (hx:S.ev ⟨tm,st,nx,nt⟩ x=some (.loc m i0 0):=by rfl) (hg:ax l o ⟨tm,st,nx,nt⟩=some true:=by rfl) (hd:o.dst=some d:=by rfl) (hlt:Nat.blt d nt=true:=by rfl) (hB:S.blk ⟨tm,st,nx,nt⟩ m=some (.els el sz (L.map f)):=by rfl) (hT':nth tb t=some e:=by rfl) (hi:i0=j:=by omega) (hL:L[j]? = some a0:=by assumption) (hv:lJ (f a0).cells 0 e.agg e.size=some (f a0):=by rfl):ay P N l K (o::r) ⟨tm,st,nx,nt⟩ tr:=aJ hg hd hlt (Dl htb ho hT' (i:=i0) (el:=f a0) (by subst hi;rw [List.getElem?_map,hL];rfl) hv) (hT hx (hN hB h0)) k
theorem VQ (f:α→V) (a0:α) (n:Nat) {el:Nat} (htb:aL P tb) (k:ay P N l K r ⟨(d,.own nx 0 n)::tm,(nx,some (.els el sz ((List.replicate n a0).map f)))::st,nx+1,nt⟩ (tr++[aH l o ⟨[(x,.int kd c),(y,.int kc c)],[]⟩ [(nx,some (.els el sz ((List.replicate n a0).map f)))]])) (ho:o.op = .makeSlice T x y:=by rfl) (hx:S.ev ⟨tm,st,nx,nt⟩ x=some (.int kd c):=by rfl) (hy:S.ev ⟨tm,st,nx,nt⟩ y=some (.int kc c):=by rfl) (hg:ax l o ⟨tm,st,nx,nt⟩=some true:=by rfl) (hd:o.dst=some d:=by rfl) (hlt:Nat.blt d nt=true:=by rfl) (hT':nth tb T=some e:=by rfl) (hs:e.sl=some el:=by rfl) (hE:nth tb el=some ee:=by rfl) (hz:ee.zeroV=some z0:=by rfl) (hsz:ee.size=sz:=by rfl) (hzl:z0.cells.length=sz:=by rfl) (h0':Nat.ble 1 sz=true:=by rfl) (hf:f a0=z0:=by rfl) (hn:c=(n:Int):=by first|rfl|omega) (hlim:n≤LIM:=by first|omega|(simp only [LIM] at *;omega)) (hby:ee.bytes*n≤281474976710656:=by show (_:Nat)*_≤_;first|(simp;done)|(simp;omega)|omega):ay P N l K (o::r) ⟨tm,st,nx,nt⟩ tr:=FB rfl hg hd hlt (by have:=ED (P:=P) (N:=N) (ν:=nx) htb ho hT' hs hE hz hsz hzl h0' hn hlim hby (kl:=kd) (kc:=kc);rw [List.map_replicate,hf];exact this) (hT hx (hT hy h0)) k
theorem adh (f:α→V) (n:Nat) {el:Nat} (htb:aL P tb) (k:ay P N l K r ⟨(d,.own nx 0 ([]:List α).length)::tm,(nx,some (.els el sz (([]:List α).map f)))::st,nx+1,nt⟩ (tr++[aH l o ⟨[(x,.int kd 0),(y,.int kc c)],[]⟩ [(nx,some (.els el sz (([]:List α).map f)))]])) (ho:o.op = .makeSlice T x y:=by rfl) (hx:S.ev ⟨tm,st,nx,nt⟩ x=some (.int kd 0):=by rfl) (hy:S.ev ⟨tm,st,nx,nt⟩ y=some (.int kc c):=by rfl) (hg:ax l o ⟨tm,st,nx,nt⟩=some true:=by rfl) (hd:o.dst=some d:=by rfl) (hlt:Nat.blt d nt=true:=by rfl) (hT':nth tb T=some e:=by rfl) (hs:e.sl=some el:=by rfl) (hE:nth tb el=some ee:=by rfl) (hz:ee.zeroV=some z0:=by rfl) (hsz:ee.size=sz:=by rfl) (hzl:z0.cells.length=sz:=by rfl) (h0':Nat.ble 1 sz=true:=by rfl) (hn:c=(n:Int):=by first|rfl|omega) (hlim:n≤LIM:=by first|omega|(simp only [LIM] at *;omega)) (hby:ee.bytes*n≤281474976710656:=by show (_:Nat)*_≤_;first|(simp;done)|(simp;omega)|omega):ay P N l K (o::r) ⟨tm,st,nx,nt⟩ tr:=FB rfl hg hd hlt (Dw htb ho hT' hs hE hz hsz hzl h0' hn hlim hby) (hT hx (hT hy h0)) k
theorem YH {el:Nat} {e':Ty} (htb:aL P tb) (k:ay P N l K r ⟨(d,au p)::tm,st,nx,nt⟩ (tr++[aH l o ⟨[(x,.own m 0 p.length)],[(m,.els el 1 (p.map uU))]⟩ []])) (ho:o.op = .convert t t' x:=by rfl) (hx:S.ev ⟨tm,st,nx,nt⟩ x=some (.own m 0 p.length):=by rfl) (hg:ax l o ⟨tm,st,nx,nt⟩=some true:=by rfl) (hd:o.dst=some d:=by rfl) (hlt:Nat.blt d nt=true:=by rfl) (hB:S.blk ⟨tm,st,nx,nt⟩ m=some (.els el 1 (p.map uU)):=by rfl) (hS:nth tb t=some e:=by rfl) (hs:e.sl=some el:=by rfl) (hE:nth tb el=some ee:=by rfl) (hk:Nat.beq ee.knd (jN .i32)=true:=by rfl) (hD:nth tb t'=some e':=by rfl) (hd2:Nat.beq e'.knd 2=true:=by rfl) (hlow:∀ b∈p,b.toNat<128:=by assumption) (hl:p.length≤dY:=by simp only [dY];omega):ay P N l K (o::r) ⟨tm,st,nx,nt⟩ tr:=aJ hg hd hlt (Iq htb ho hS hs hE hk hD hd2 hlow hl) (hT hx (hN hB h0)) k
theorem ab7 {el:Nat} {e':Ty} (htb:aL P tb) (k:ay P N l K r ⟨(d,au p)::tm,st,nx,nt⟩ (tr++[aH l o ⟨[(x,.own m 0 p.length)],[(m,.els el 1 (p.map bB))]⟩ []])) (ho:o.op = .convert t t' x:=by rfl) (hx:S.ev ⟨tm,st,nx,nt⟩ x=some (.own m 0 p.length):=by rfl) (hg:ax l o ⟨tm,st,nx,nt⟩=some true:=by rfl) (hd:o.dst=some d:=by rfl) (hlt:Nat.blt d nt=true:=by rfl) (hB:S.blk ⟨tm,st,nx,nt⟩ m=some (.els el 1 (p.map bB)):=by rfl) (hS:nth tb t=some e:=by rfl) (hs:e.sl=some el:=by rfl) (hE:nth tb el=some ee:=by rfl) (hk:Nat.beq ee.knd (jN .u8)=true:=by rfl) (hD:nth tb t'=some e':=by rfl) (hd2:Nat.beq e'.knd 2=true:=by rfl) (hl:p.length≤dY:=by simp only [dY];omega):ay P N l K (o::r) ⟨tm,st,nx,nt⟩ tr:=aJ hg hd hlt (IB htb ho hS hs hE hk hD hd2 hl) (hT hx (hN hB h0)) k
theorem adJ (k:ay P N l K r ⟨(d,.int .i64 (-1-a))::tm,st,nx,nt⟩ (tr++[aH l o ⟨[(x,.int .i64 a)],[]⟩ []])) (ho:o.op = .unOp .xor t x:=by rfl) (hx:S.ev ⟨tm,st,nx,nt⟩ x=some (.int .i64 a):=by rfl) (hg:ax l o ⟨tm,st,nx,nt⟩=some true:=by rfl) (hd:o.dst=some d:=by rfl) (hlt:Nat.blt d nt=true:=by rfl) (h : -9223372036854775808≤a∧a≤9223372036854775807:=by omega):ay P N l K (o::r) ⟨tm,st,nx,nt⟩ tr:=aJ hg hd hlt (YL ho h) (hT hx h0) k
theorem aac (k:ay P N l K r ⟨(d,.int kd n)::tm,st,nx,nt⟩ (tr++[aH l o ⟨[(x,.int kd a),(y,.int kd b)],[]⟩ []])) (ho:o.op = .binOp .quo t x y t':=by rfl) (hx:S.ev ⟨tm,st,nx,nt⟩ x=some (.int kd a):=by rfl) (hy:S.ev ⟨tm,st,nx,nt⟩ y=some (.int kd b):=by rfl) (hg:ax l o ⟨tm,st,nx,nt⟩=some true:=by rfl) (hd:o.dst=some d:=by rfl) (hlt:Nat.blt d nt=true:=by rfl) (hb:¬ b=0:=by decide) (h:kd.wrap (a.tdiv b)=n:=by assumption):ay P N l K (o::r) ⟨tm,st,nx,nt⟩ tr:=aJ hg hd hlt (ZM ho hb h) (hT hx (hT hy h0)) k
theorem Vf (k:ay P N l K r ⟨(d,.int kd n)::tm,st,nx,nt⟩ (tr++[aH l o ⟨[(x,.int kd a),(y,.int kd b)],[]⟩ []])) (ho:o.op = .binOp .rem t x y t':=by rfl) (hx:S.ev ⟨tm,st,nx,nt⟩ x=some (.int kd a):=by rfl) (hy:S.ev ⟨tm,st,nx,nt⟩ y=some (.int kd b):=by rfl) (hg:ax l o ⟨tm,st,nx,nt⟩=some true:=by rfl) (hd:o.dst=some d:=by rfl) (hlt:Nat.blt d nt=true:=by rfl) (hb:¬ b=0:=by decide) (h:a.tmod b=n:=by assumption) (hn:InR kd n:=by assumption):ay P N l K (o::r) ⟨tm,st,nx,nt⟩ tr:=aJ hg hd hlt (ZF ho hb h hn) (hT hx (hT hy h0)) k
theorem zK {us vs:List V} {w:Bool} {len el:Nat} (htb:aL P tb) (k:ay P N l K r ⟨(d,.bool w)::tm,st,nx,nt⟩ (tr++[aH l o ⟨[(x,.agg us),(y,.agg vs)],[]⟩ []])) (ho:o.op = .binOp .neq t x y t':=by rfl) (hx:S.ev ⟨tm,st,nx,nt⟩ x=some (.agg us):=by rfl) (hy:S.ev ⟨tm,st,nx,nt⟩ y=some (.agg vs):=by rfl) (hg:ax l o ⟨tm,st,nx,nt⟩=some true:=by rfl) (hd:o.dst=some d:=by rfl) (hlt:Nat.blt d nt=true:=by rfl) (hT':nth tb t=some e:=by rfl) (ha:e.arr=some (len,el):=by rfl) (hE:nth tb el=some ee:=by rfl) (hc:P.cellsOf el=1:=by kernel_rfl) (hq:P.eqGuardType P.depth t=false:=by kernel_rfl) (hok:okI ee.knd us vs (List.range len)=true:=by rfl) (h:(!eqI us vs (List.range len))=w:=by first|assumption|rfl):ay P N l K (o::r) ⟨tm,st,nx,nt⟩ tr:=aJ hg hd hlt (JY htb ho hT' ha hE hc hq hok h) (hT hx (hT hy h0)) k
theorem S9 (k:ay P N l K r ⟨(d,.int kd n)::tm,st,nx,nt⟩ (tr++[aH l o ⟨[(x,.int kd a),(y,.int kd b)],[]⟩ []])) (ho:o.op = .binOp .sub t x y t':=by rfl) (hx:S.ev ⟨tm,st,nx,nt⟩ x=some (.int kd a):=by rfl) (hy:S.ev ⟨tm,st,nx,nt⟩ y=some (.int kd b):=by rfl) (hg:ax l o ⟨tm,st,nx,nt⟩=some true:=by rfl) (hd:o.dst=some d:=by rfl) (hlt:Nat.blt d nt=true:=by rfl) (he:kd.wrap (a-b)=n:=by assumption):ay P N l K (o::r) ⟨tm,st,nx,nt⟩ tr:=aJ hg hd hlt (CY ho he) (hT hx (hT hy h0)) k
end
end Abs
namespace iG
open Go.RowKit Mem Abs Scan fI gF
abbrev dL (L:List ai) (nx:Int):Abs.V:=.agg [.fro (L.map ai.v),.int .i64 nx]
theorem Nw {n:Int}:aj Tryz.prog 56 [.int .i64 n] (.bool (!isJ n)):=by
 unfold isJ
 by_cases h1 : -11644473600≤n
 ·rw [decide_eq_true h1]
  by_cases h2:n≤253402300799
  ·rw [decide_eq_true h2]
   refine aU af Tryz.func56 rfl Tryz.ntmps56 Tryz.results56 rfl fun N=>?_
   repeat' (first|refine zt ?_|(refine isR ?_;first|refine zo ?_|refine zX ?_)|refine zr ?_|exact ah)
   all_goals first|rfl|(exfalso;omega)
  ·rw [decide_eq_false h2]
   refine aU af Tryz.func56 rfl Tryz.ntmps56 Tryz.results56 rfl fun N=>?_
   repeat' (first|refine zt ?_|(refine isR ?_;first|refine zo ?_|refine zX ?_)|refine zr ?_|exact ah)
   all_goals first|rfl|(exfalso;omega)
 ·rw [decide_eq_false h1]
  refine aU af Tryz.func56 rfl Tryz.ntmps56 Tryz.results56 rfl fun N=>?_
  repeat' (first|refine zt ?_|(refine isR ?_;first|refine zo ?_|refine zX ?_)|refine zr ?_|exact ah)
  all_goals first|rfl|(exfalso;omega)
theorem qP {n:Int}:aj Tryz.prog 37 [.int .i64 n] (.bool (isJ n)):=by
 unfold isJ
 by_cases h1 : -11644473600≤n
 ·rw [decide_eq_true h1]
  by_cases h2:n≤253402300799
  ·rw [decide_eq_true h2]
   refine aU af Tryz.func37 rfl Tryz.ntmps37 Tryz.results37 rfl fun N=>?_
   repeat' (first|refine zt ?_|(refine isR ?_;first|refine zo ?_|refine zX ?_)|refine zr ?_|exact ah)
   all_goals first|rfl|(exfalso;omega)
  ·rw [decide_eq_false h2]
   refine aU af Tryz.func37 rfl Tryz.ntmps37 Tryz.results37 rfl fun N=>?_
   repeat' (first|refine zt ?_|(refine isR ?_;first|refine zo ?_|refine zX ?_)|refine zr ?_|exact ah)
   all_goals first|rfl|(exfalso;omega)
 ·rw [decide_eq_false h1]
  refine aU af Tryz.func37 rfl Tryz.ntmps37 Tryz.results37 rfl fun N=>?_
  repeat' (first|refine zt ?_|(refine isR ?_;first|refine zo ?_|refine zX ?_)|refine zr ?_|exact ah)
  all_goals first|rfl|(exfalso;omega)
theorem uw {c:ai}:aj Tryz.prog 64 [c.v] (.bool (!kF c)):=by
 have c1:=qP (n:=c.created)
 have c2:=qP (n:=c.used)
 unfold kF
 generalize isJ c.created=a at *
 generalize isJ c.used=b at *
 cases a<;>cases b
 all_goals
  refine aU af Tryz.func64 rfl Tryz.ntmps64 Tryz.results64 rfl fun N=>?_
  repeat' (first|refine zt ?_|(refine isR ?_;first|refine zo ?_|refine zk c1 ?_|refine zk c2 ?_)|refine zr ?_|exact ah)
  all_goals first|rfl|(exfalso;omega)
end iG
end Go.Proofs.YtlfdjpgghiemfaaGreatDoor
