/- Texts of the proof, joined: Rune, Scan, JarP, JarQ, AbsZ, JarA, Rdy, GrantP, PolP, JarB. -/
import Derived.Test.YtlfdjpgghiemfaaGreatDoorG17
import Derived.Lib.SpaceUEq
import Derived.Lib.MapLaws
import Derived.WalkKit
import Derived.Test.YtlfdjpgghiemfaaGreatDoorG11
import Derived.Laws.Cover4
import Derived.Laws.BytesArg
import Derived.ChangeKeysEq
import Derived.Test.YtlfdjpgghiemfaaGreatDoorG14
import Derived.Test.YtlfdjpgghiemfaaGreatDoorG16
import Derived.Test.YtlfdjpgghiemfaaGreatDoorG15
set_option maxHeartbeats 4000000
set_option maxRecDepth 100000
section
namespace Go.Proofs.YtlfdjpgghiemfaaGreatDoor.Rune
open Abs
theorem get_str (l:List UInt8) (i:Nat):(str l).get! i=l.getD i 0:=by
 show l.toArray[i]! = _
 rw [List.getElem!_toArray,List.getD_eq_getElem?_getD,List.getElem!_eq_getElem?_getD]
 rfl
theorem getD_some {l:List UInt8} {i:Nat} (h:i<l.length):l[i]? = some (l.getD i 0):=by
 rw [List.getD_eq_getElem?_getD,List.getElem?_eq_getElem h];rfl
theorem rune_at (l:List UInt8) (pos:Nat) (h:pos<l.length):∃ c wd,Utf8.decode (str l) pos=(c,wd)∧1≤wd∧pos+wd≤l.length∧c≤1114111 ∧
  ((∃ b,l[pos]? = some b∧b.toNat<128∧c=b.toNat∧wd=1)∨(128≤c∧∀ j,pos≤j→j<pos+wd→∃ b,l[j]? = some b∧128≤b.toNat)):=by
 have hr:=Lib.rune_le (str l) pos
 have hd:=Lib.decode_at (str l) pos
 rw [get_str,get_str,get_str,get_str,str_size] at hd
 have h0:=getD_some h
 have hb:=(l.getD pos 0).toNat_lt
 have hs:=Lib.decodeN_shape (l.length-pos) (l.getD pos 0).toNat (l.getD (pos+1) 0).toNat (l.getD (pos+2) 0).toNat (l.getD (pos+3) 0).toNat
 rcases hs with ⟨g1,g2⟩|⟨g1,g2,g3,g4,g5⟩|⟨g1,g2,g3,g4,g5,g6,g7⟩|⟨g1,g2,g3,g4,g5,g6,g7,g8⟩|g1
 ·rw [g2] at hd
  exact ⟨_,_,hd,by omega,by omega,by omega,.inl ⟨_,h0,g1,rfl,rfl⟩⟩
 ·rw [g5] at hd
  refine ⟨_,_,hd,by omega,by omega,by rw [hd] at hr;exact hr,.inr ⟨g4,fun j h1 h2=>?_⟩⟩
  refine ⟨_,getD_some (by omega),?_⟩
  rcases (show j=pos∨j=pos+1 by omega) with rfl|rfl<;>omega
 ·rw [g7] at hd
  refine ⟨_,_,hd,by omega,by omega,by rw [hd] at hr;exact hr,.inr ⟨by omega,fun j h1 h2=>?_⟩⟩
  refine ⟨_,getD_some (by omega),?_⟩
  rcases (show j=pos∨j=pos+1∨j=pos+2 by omega) with rfl|rfl|rfl<;>omega
 ·rw [g8] at hd
  refine ⟨_,_,hd,by omega,by omega,by rw [hd] at hr;exact hr,.inr ⟨by omega,fun j h1 h2=>?_⟩⟩
  refine ⟨_,getD_some (by omega),?_⟩
  rcases (show j=pos∨j=pos+1∨j=pos+2∨j=pos+3 by omega) with rfl|rfl|rfl|rfl<;>omega
 ·rw [g1] at hd
  by_cases h1:(l.getD pos 0).toNat<128
  ·exfalso
   have:Lib.decodeN (l.length-pos) (l.getD pos 0).toNat (l.getD (pos+1) 0).toNat (l.getD (pos+2) 0).toNat (l.getD (pos+3) 0).toNat=((l.getD pos 0).toNat,1):=by unfold Lib.decodeN;rw [if_pos h1]
   rw [g1] at this
   have:=congrArg Prod.fst this
   dsimp only at this;omega
  ·refine ⟨_,_,hd,by omega,by omega,by omega,.inr ⟨by omega,fun j h2 h3=>?_⟩⟩
   obtain rfl:j=pos:=by omega
   exact ⟨_,h0,by omega⟩
end Go.Proofs.YtlfdjpgghiemfaaGreatDoor.Rune
end
section
namespace Go.Proofs.YtlfdjpgghiemfaaGreatDoor.Scan
def scan (f:Nat→Nat):Nat→Nat
 | 0=>0
 | n+1=>if scan f n=0 then f n else scan f n
theorem scan_next {f:Nat→Nat} {k:Nat} (h:scan f k=0) (hk:f k=0):scan f (k+1)=0:=by
 simp [scan,h,hk]
theorem scan_at {f:Nat→Nat} {k:Nat} (h:scan f k=0):scan f (k+1)=f k:=by
 simp [scan,h]
theorem scan_keep {f : Nat → Nat} {k : Nat} (h : scan f k ≠ 0) : ∀ n, k ≤ n → scan f n = scan f k := by
  intro n hn
  induction n with
  | zero => have : k = 0 := by omega
            subst this; rfl
  | succ n ih =>
    by_cases e : k = n + 1
    · subst e; rfl
    · have := ih (by omega)
      simp only [scan]
      rw [this, if_neg h]
theorem scan_stop {f:Nat→Nat} {k n:Nat} (h:scan f k=0) (hk:f k≠0) (hn:k<n):scan f n=f k:=by
 have e:=scan_at h
 rw [scan_keep (by rw [e];exact hk) n hn,e]
theorem scan_zero {f:Nat→Nat} {n:Nat}:scan f n=0↔∀ i,i<n→f i=0:=by
 induction n with
 | zero=>simp [scan]
 | succ n ih =>
  constructor
  ·intro h
   have h0:scan f n=0:=by
    rcases Nat.eq_zero_or_pos (scan f n) with h0|h0
    ·exact h0
    ·simp only [scan] at h;rw [if_neg (by omega)] at h;omega
   intro i hi
   by_cases e:i=n
   ·subst e;rw [scan_at h0] at h;exact h
   ·exact ih.1 h0 i (by omega)
  ·intro h
   exact scan_next (ih.2 fun i hi=>h i (by omega)) (h n (by omega))
end Go.Proofs.YtlfdjpgghiemfaaGreatDoor.Scan
end
section
namespace Go.Proofs.YtlfdjpgghiemfaaGreatDoor.JarP
open Abs Scan
def isJ (n:Int):Bool:=decide (-11644473600≤n)&&decide (n≤253402300799)
def sameK (a b:Cookie):Bool:=decide (a.name=b.name)&&(decide (a.domain=b.domain)&&decide (a.path=b.path))
def badM (c:Cookie):Bool := !(isJ c.created&&isJ c.used)
def codeJ (L:List Cookie) (nx:Int) (i:Nat):Nat:=match L[i]? with
 | none=>0
 | some c=>if badM c=true then 3 else if c.no<0∨nx≤c.no then 4
  else if (L.take i).any (fun d=>sameK d c||decide (d.no=c.no))=true then 6
  else if (L.take i).countP (fun d=>decide (d.domain=c.domain))=4 then 2 else 0
def checkJ (L:List Cookie) (nx:Int):Nat:=if 12<L.length then 2 else if scan (codeJ L nx) L.length≠0 then scan (codeJ L nx) L.length else if nx<0∨1099511627776<nx then 3 else 0
theorem few {L:List Cookie} {nx:Int}:∀ {k:Nat},k≤L.length→scan (codeJ L nx) k=0→∀ d:List UInt8,(L.take k).countP (fun c=>decide (c.domain=d))≤4
 | 0,_,_,d=>by simp
 | k+1,hk,h,d=>by
  have hz:=scan_zero.1 h
  have ih:=few (L:=L) (nx:=nx) (k:=k) (by omega) (scan_zero.2 fun i hi=>hz i (by omega)) d
  have hc:L[k]? = some L[k]:=by simp
  have h2:=hz k (by omega)
  rw [List.take_add_one,hc,List.countP_append]
  generalize L[k]=c at *
  by_cases hd:c.domain=d
  ·subst hd
   have h4:(L.take k).countP (fun x=>decide (x.domain=c.domain))≠4:=fun h4=>by
    unfold codeJ at h2
    rw [hc] at h2
    dsimp only at h2
    rw [if_pos h4] at h2
    split at h2
    ·cases h2
    ·split at h2
     ·cases h2
     ·split at h2<;>cases h2
   simp
   omega
  ·simp [hd]
   exact ih
def liveF (now:Int) (L:List Cookie):List Cookie:=L.filter fun c=>decide (now<c.expiry)
def layF (L:List Cookie) (nx:Int) (c:Cookie):List Cookie × Int:=match L.findIdx? (fun x=>sameK x c) with
 | some i=>(L.set i { c with created:=(L.getD i c).created,no:=(L.getD i c).no },nx)
 | none=>(L++[{ c with no:=nx }],nx+1)
def lessU (a b:Cookie):Bool:=decide (a.used<b.used)||(decide (a.used=b.used)&&decide (a.no<b.no))
def minAt (p:Cookie→Bool) (L:List Cookie):Nat→Option Nat
 | 0=>none
 | k+1=>match L[k]? with
  | none=>minAt p L k
  | some c=>if p c=true then (match minAt p L k with
   | none=>some k
   | some a=>if lessU c (L.getD a c)=true then some k else some a) else minAt p L k
def evF (most:Nat) (p:Cookie→Bool):Nat→List Cookie→List Cookie
 | 0,L=>L
 | n+1,L=>if L.countP p≤most then L else match minAt p L L.length with
  | none=>L
  | some i=>evF most p n (L.eraseIdx i)
def putF (L:List Cookie) (nx:Int) (c:Cookie) (now:Int):List Cookie × Int :=
 let r:=layF (liveF now L) nx c
 let M:=liveF now r.1
 let M1:=evF 4 (fun x=>decide (x.domain=c.domain)) (M.length+1) M
 (evF 12 (fun _=>true) (M1.length+1) M1,r.2)
def codePut (L:List Cookie) (nx:Int) (c:Cookie) (now:Int):Nat :=
 if checkJ L nx≠0 then checkJ L nx else if isJ now=false∨badM c=true then 3 else if nx=1099511627776 then 2 else 0
end Go.Proofs.YtlfdjpgghiemfaaGreatDoor.JarP
end
section
namespace Go.Proofs.YtlfdjpgghiemfaaGreatDoor.JarQ
open Abs Scan JarP
structure Rj (L:List Cookie) (nx:Int):Prop where
 len:L.length≤12
 mom:∀ c∈L,badM c=false
 no:∀ c∈L,0≤c.no∧c.no<nx
 dis:L.Pairwise fun a b=>sameK a b=false∧a.no≠b.no
 per:∀ d:List UInt8,L.countP (fun c=>decide (c.domain=d))≤4
 nx:0≤nx∧nx≤1099511627776
theorem code_zero {L:List Cookie} {nx:Int} {i:Nat} {c:Cookie} (hc:L[i]? = some c):codeJ L nx i=0↔badM c=false∧(0≤c.no∧c.no<nx)∧(∀ d∈L.take i,sameK d c=false∧d.no≠c.no)∧(L.take i).countP (fun d=>decide (d.domain=c.domain))≠4:=by
 unfold codeJ
 rw [hc]
 dsimp only
 by_cases h1:badM c=true
 ·rw [if_pos h1]
  constructor
  ·intro h;cases h
  ·rintro ⟨h,_⟩;rw [h] at h1;cases h1
 ·rw [if_neg h1]
  have h1:badM c=false:=by simpa using h1
  by_cases h2:c.no<0∨nx≤c.no
  ·rw [if_pos h2]
   constructor
   ·intro h;cases h
   ·rintro ⟨_,h,_⟩;omega
  ·rw [if_neg h2]
   by_cases h3:(L.take i).any (fun d=>sameK d c||decide (d.no=c.no))=true
   ·rw [if_pos h3]
    constructor
    ·intro h;cases h
    ·rintro ⟨_,_,h,_⟩
     obtain ⟨d,hd,hq⟩:=List.any_eq_true.1 h3
     obtain ⟨k1,k2⟩:=h d hd
     rw [k1,decide_eq_false k2] at hq
     cases hq
   ·rw [if_neg h3]
    have h3':∀ d∈L.take i,sameK d c=false∧d.no≠c.no:=fun d hd=>by
     have:(sameK d c||decide (d.no=c.no))=false:=by
      cases hb:(sameK d c||decide (d.no=c.no)) with
      | false=>rfl
      | true=>exact absurd (List.any_eq_true.2 ⟨d,hd,hb⟩) h3
     rw [Bool.or_eq_false_iff] at this
     exact ⟨this.1,of_decide_eq_false this.2⟩
    by_cases h4:(L.take i).countP (fun d=>decide (d.domain=c.domain))=4
    ·rw [if_pos h4]
     constructor
     ·intro h;cases h
     ·rintro ⟨_,_,_,h⟩;exact absurd h4 h
    ·rw [if_neg h4]
     exact ⟨fun _=>⟨h1,by omega,h3',h4⟩,fun _=>rfl⟩
theorem check_zero {L:List Cookie} {nx:Int}:checkJ L nx=0↔Rj L nx:=by
 unfold checkJ
 by_cases hl:12<L.length
 ·rw [if_pos hl]
  constructor
  ·intro h;cases h
  ·intro h;have:=h.len;omega
 rw [if_neg hl]
 by_cases hs:scan (codeJ L nx) L.length=0
 ·rw [if_neg (by rw [hs];simp)]
  by_cases hn:nx<0∨1099511627776<nx
  ·rw [if_pos hn]
   constructor
   ·intro h;cases h
   ·intro h;have:=h.nx;omega
  ·rw [if_neg hn]
   refine ⟨fun _=>?_,fun _=>rfl⟩
   have hz:=scan_zero.1 hs
   have at':∀ i (hi:i<L.length),badM L[i]=false∧(0≤L[i].no∧L[i].no<nx)∧(∀ d∈L.take i,sameK d L[i]=false∧d.no≠L[i].no)∧(L.take i).countP (fun d=>decide (d.domain=L[i].domain))≠4:=fun i hi=>(code_zero (by simp [hi])).1 (hz i hi)
   refine ⟨by omega,fun c hc=>?_,fun c hc=>?_,List.pairwise_iff_getElem.2 fun i j hi hj hij=>?_,fun d=>?_,by omega⟩
   ·obtain ⟨i,hi,rfl⟩:=List.mem_iff_getElem.1 hc
    exact (at' i hi).1
   ·obtain ⟨i,hi,rfl⟩:=List.mem_iff_getElem.1 hc
    exact (at' i hi).2.1
   ·refine (at' j hj).2.2.1 _ ?_
    rw [List.mem_take_iff_getElem]
    exact ⟨i,by omega,rfl⟩
   ·have:=few (L:=L) (nx:=nx) (k:=L.length) (Nat.le_refl _) hs d
    rwa [List.take_length] at this
 ·rw [if_pos hs]
  refine ⟨fun h=>absurd h hs,fun h=>absurd (scan_zero.2 fun i hi=>?_) hs⟩
  have hc:L[i]? = some L[i]:=by simp [hi]
  refine (code_zero hc).2 ⟨h.mom _ (List.getElem_mem hi),h.no _ (List.getElem_mem hi),fun d hd=>?_,fun h4=>?_⟩
  ·obtain ⟨k,hk,rfl⟩:=List.mem_take_iff_getElem.1 hd
   exact List.pairwise_iff_getElem.1 h.dis k i (by omega) hi (by omega)
  ·have:=h.per L[i].domain
   have e:L.countP (fun d=>decide (d.domain=L[i].domain))=(L.take (i+1)).countP (fun d=>decide (d.domain=L[i].domain))+(L.drop (i+1)).countP (fun d=>decide (d.domain=L[i].domain)):=by
    rw [← List.countP_append,List.take_append_drop]
   rw [List.take_add_one,hc,List.countP_append,h4] at e
   simp at e
   omega
end Go.Proofs.YtlfdjpgghiemfaaGreatDoor.JarQ
end
section
namespace Go.Proofs.YtlfdjpgghiemfaaGreatDoor.Abs
open Go.RowKit Mem Facts
abbrev runeT (c:UInt8):V:=.int .i32 (c.toNat:Int)
section
variable {X A A':Nat→Prop} {φ φ':Nat→Pl} {w w':World} {P:Program} {tb:List Ty} {T:Nat} {e ee e':Ty} {N:Env} {M:Nat→Prop} {o:Oper} {s:S} {a:Act} {x y:Operand} {el:Nat} {L:List UInt8}
theorem flat_one1 {α:Type} {f:α→V} (hf:∀ a,(f a).cells=[f a]):∀ L:List α,flat (L.map f)=L.map f
 | []=>rfl
 | a::L=>by show (f a).cells++flat (L.map f)=_;rw [hf,flat_one1 hf L];rfl
theorem kd_int {ti:TypeInfo} {d:TypeDesc} {k:IntKind} (ht:TyIs P T e ti d) (hk:Nat.beq e.knd (kcode k)=true):P.underlying T=some (.int k):=by
 have:d = .int k:=kind_int ((Nat.eq_of_beq_eq_true hk).symm.trans ht.knd)
 rw [ht.und,this]
def eqI (us vs:List V):List Nat→Bool
 | []=>true
 | i::r=>(match nth us i,nth vs i with
  | some u,some v=>eqS u v
  | _,_=>false)&&eqI us vs r
def okI (k:Nat) (us vs:List V):List Nat→Bool
 | []=>true
 | i::r=>(match nth us i,nth vs i with
  | some u,some v=>okS k u v
  | _,_=>false)&&okI k us vs r
theorem run_eqI {us vs:List V} {xs ys:Array Value} (htb:TbOk P tb) (hE:nth tb el=some ee) (hx:Reps X A φ w us xs.toList) (hy:Reps X A φ w vs ys.toList) (d:Nat):∀ (is:List Nat),okI ee.knd us vs is=true→∀ w1,(Op.eqItems (d+1) el 1 xs ys is).run P w1 = .ok (eqI us vs is) w1
 | [],_,w1=>by simp [Op.eqItems,eqI]
 | i::is,hok,w1=>by
  simp only [okI,Bool.and_eq_true] at hok
  obtain ⟨h1,h2⟩:=hok
  have ih:=run_eqI htb hE hx hy d is h2
  cases hu:nth us i with
  | none=>rw [hu] at h1;cases h1
  | some u =>
   cases hv:nth vs i with
   | none=>rw [hu,hv] at h1;cases h1
   | some v =>
    rw [hu,hv] at h1
    simp only at h1
    have hu':=hu
    have hv':=hv
    rw [nth_eq] at hu hv
    obtain ⟨cx,k1,k2⟩:=hx.2 _ _ hu
    obtain ⟨cy,k3,k4⟩:=hy.2 _ _ hv
    rw [Array.getElem?_toList] at k1 k3
    obtain ⟨g1,g2⟩:=run_eqS (P:=P) htb hE h1 k2 k4 d
    simp only [Op.eqItems,Nat.mul_one,Sem.run_bind,run_part_plain w1 g1 k1,run_part_plain w1 g1 k3,Result.andThen_ok,g2 w1,eqI,hu',hv']
    cases eqS u v
    ·simp
    ·simp [ih w1]
theorem strOf_bytes (l:List UInt8):strOfNums (l.map fun b=>(b.toNat:Int))=str l:=by
 unfold strOfNums
 apply ByteArray.ext
 simp [str,Function.comp_def]
theorem law_bytesStr {src dst n:Nat} (htb:TbOk P tb) (ho:o.op = .convert src dst x) (hS:nth tb src=some e) (hs:e.sl=some el) (hE:nth tb el=some ee) (hk:Nat.beq ee.knd (kcode .u8)=true) (hD:nth tb dst=some e') (hd2:Nat.beq e'.knd 2=true) (hl:L.length≤SLIM) :
  OpLaw P N o ⟨[(x,.own n 0 L.length)],[(n,.els el 1 (L.map byteT))]⟩ (strT L) [] []:=law_pure fun s M A φ a w hh hr=>by
 obtain ⟨ti,d,ht⟩:=ty_at htb hS
 obtain ⟨tj,dj,hj⟩:=ty_at htb hE
 obtain ⟨tk,dk,hkk⟩:=ty_at htb hD
 obtain ⟨vals,h1,h2,h3⟩:=own_src hr hh.n (hr.ev hh.a) (by simp)
 refine ⟨.string (str L),?_,.fz (.str (by rw [str_size];exact hl))⟩
 have hv:∀ (j:Nat) c,L[j]? = some c→vals[j]? = some (.int .u8 c.toNat):=fun j c hj=>by
  have hf:=flat_one1 (f:=byteT) (fun _=>rfl) L
  have hlv:vals.length=L.length:=by have:=h1.1;simpa using this
  have hjl:j<vals.length:=by rw [hlv];exact (List.getElem?_eq_some_iff.1 hj).1
  have hr2:=h2.at (j:=j) (u:=byteT c) (c:=vals[j]) (by rw [hf];simp [hj]) (by simp [hjl])
  rw [List.getElem?_eq_getElem hjl,rep_int hr2]
 have hrun:(convert src dst (a.eval x)).run P w = .ok (.string (str L)) w:=by
  rcases h1.2 with ⟨e1,e2⟩|⟨g,cap,cur,e1,_,hg,hnc,hcm,hcs,htake⟩
  ·rw [e1,run_convert_bytes_nil w src el (slOf_und ht hs) (kd_int hj hk) 0 0 dst (und_str hkk hd2)]
   have:L=[]:=List.eq_nil_of_length_eq_zero e2
   subst this;rfl
  ·rw [e1,run_convert_bytes_arg w src el (slOf_und ht hs) (kd_int hj hk) g 0 L.length cap (L.map fun b=>(b.toNat:Int)) (by simp) (fun j hjl=>?_) dst (und_str hkk hd2),strOf_bytes]
   have hc:=h1.cells (g:=g) (by rw [e1];rfl) j (.int .u8 (L[j]).toNat) (hv j L[j] (by simp [hjl]))
   have hplain:(⟨g,0,none⟩:Addr).add j=⟨g,0+j,none⟩:=by
    unfold Addr.add
    split
    ·subst_vars;rfl
    ·simp
   rw [hplain] at hc
   rw [hc,List.getD_eq_getElem?_getD,List.getElem?_map,List.getElem?_eq_getElem hjl]
   rfl
 unfold execOp
 simp only [ho,Sem.run_bind,hrun,Result.andThen_ok,Sem.run_pure]
end
section
variable {P:Program} {N:Env} {l r:List Oper} {o:Oper} {tm:List (Nat × V)} {st:List (Nat × Option Blk)} {nx nt:Nat} {tr:List Tr} {K:S→List Tr→Prop} {tb:List Ty} {d T:Nat} {t t':TypeId} {x y z:Operand} {a b n:Int} {p q:List UInt8} {u v:Bool} {e ee:Ty} {kd:IntKind}
theorem x_stI {α:Type} (f:α→V) {L:List α} {a1 a0:α} {m i0 el sz:Nat} (j:Nat) (htb:TbOk P tb) (k:ARun P N l K r ⟨tm,(m,some (.els el sz ((L.set j a1).map f)))::st,nx,nt⟩ (tr++[trOf l o ⟨[(x,.loc m i0 0),(y,f a1)],[(m,.els el sz (L.map f))]⟩ [(m,some (.els el sz ((L.set j a1).map f)))]])) (ho:o.op = .store t x y:=by rfl) (hx:S.ev ⟨tm,st,nx,nt⟩ x=some (.loc m i0 0):=by rfl) (hy:S.ev ⟨tm,st,nx,nt⟩ y=some (f a1):=by rfl) (hg:guardV l o ⟨tm,st,nx,nt⟩=some true:=by rfl) (hd:o.dst=none:=by rfl) (hB:S.blk ⟨tm,st,nx,nt⟩ m=some (.els el sz (L.map f)):=by rfl) (hT':nth tb t=some e:=by rfl) (hi:i0=j:=by omega) (hL:L[j]? = some a0:=by assumption) (h1:(f a1).cells.all V.one=true:=by rfl) (h2:(f a1).cells.length=e.size:=by rfl) (hp:putV (f a0) 0 (f a1)=some (f a1):=by rfl) (hel:(!(f a0).one||Nat.beq (f a1).cells.length 1)=true:=by rfl):ARun P N l K (o::r) ⟨tm,st,nx,nt⟩ tr:=r_set hg hd (law_store htb ho hT' (i:=i0) (el:=f a0) (by subst hi;rw [List.getElem?_map,hL];rfl) h1 h2 hp hel (by subst hi;rw [List.map_set])) (hT hx (hT hy (hN hB h0))) k
theorem x_ldI {α:Type} (f:α→V) {L:List α} {a0:α} {m i0 el sz:Nat} (j:Nat) (htb:TbOk P tb) (k:ARun P N l K r ⟨(d,f a0)::tm,st,nx,nt⟩ (tr++[trOf l o ⟨[(x,.loc m i0 0)],[(m,.els el sz (L.map f))]⟩ []])) (ho:o.op = .load t x:=by rfl) (hx:S.ev ⟨tm,st,nx,nt⟩ x=some (.loc m i0 0):=by rfl) (hg:guardV l o ⟨tm,st,nx,nt⟩=some true:=by rfl) (hd:o.dst=some d:=by rfl) (hlt:Nat.blt d nt=true:=by rfl) (hB:S.blk ⟨tm,st,nx,nt⟩ m=some (.els el sz (L.map f)):=by rfl) (hT':nth tb t=some e:=by rfl) (hi:i0=j:=by omega) (hL:L[j]? = some a0:=by assumption) (hv:subV (f a0).cells 0 e.agg e.size=some (f a0):=by rfl):ARun P N l K (o::r) ⟨tm,st,nx,nt⟩ tr:=r_val hg hd hlt (law_load htb ho hT' (i:=i0) (el:=f a0) (by subst hi;rw [List.getElem?_map,hL];rfl) hv) (hT hx (hN hB h0)) k
theorem x_bstr {m el:Nat} {e':Ty} (htb:TbOk P tb) (k:ARun P N l K r ⟨(d,strT p)::tm,st,nx,nt⟩ (tr++[trOf l o ⟨[(x,.own m 0 p.length)],[(m,.els el 1 (p.map byteT))]⟩ []])) (ho:o.op = .convert t t' x:=by rfl) (hx:S.ev ⟨tm,st,nx,nt⟩ x=some (.own m 0 p.length):=by rfl) (hg:guardV l o ⟨tm,st,nx,nt⟩=some true:=by rfl) (hd:o.dst=some d:=by rfl) (hlt:Nat.blt d nt=true:=by rfl) (hB:S.blk ⟨tm,st,nx,nt⟩ m=some (.els el 1 (p.map byteT)):=by rfl) (hS:nth tb t=some e:=by rfl) (hs:e.sl=some el:=by rfl) (hE:nth tb el=some ee:=by rfl) (hk:Nat.beq ee.knd (kcode .u8)=true:=by rfl) (hD:nth tb t'=some e':=by rfl) (hd2:Nat.beq e'.knd 2=true:=by rfl) (hl:p.length≤SLIM:=by simp only [SLIM];omega):ARun P N l K (o::r) ⟨tm,st,nx,nt⟩ tr:=r_val hg hd hlt (law_bytesStr htb ho hS hs hE hk hD hd2 hl) (hT hx (hN hB h0)) k
theorem x_quo (k:ARun P N l K r ⟨(d,.int kd n)::tm,st,nx,nt⟩ (tr++[trOf l o ⟨[(x,.int kd a),(y,.int kd b)],[]⟩ []])) (ho:o.op = .binOp .quo t x y t':=by rfl) (hx:S.ev ⟨tm,st,nx,nt⟩ x=some (.int kd a):=by rfl) (hy:S.ev ⟨tm,st,nx,nt⟩ y=some (.int kd b):=by rfl) (hg:guardV l o ⟨tm,st,nx,nt⟩=some true:=by rfl) (hd:o.dst=some d:=by rfl) (hlt:Nat.blt d nt=true:=by rfl) (hb:¬ b=0:=by decide) (h:kd.wrap (a.tdiv b)=n:=by assumption):ARun P N l K (o::r) ⟨tm,st,nx,nt⟩ tr:=r_val hg hd hlt (law_quo ho hb h) (hT hx (hT hy h0)) k
theorem x_rem (k:ARun P N l K r ⟨(d,.int kd n)::tm,st,nx,nt⟩ (tr++[trOf l o ⟨[(x,.int kd a),(y,.int kd b)],[]⟩ []])) (ho:o.op = .binOp .rem t x y t':=by rfl) (hx:S.ev ⟨tm,st,nx,nt⟩ x=some (.int kd a):=by rfl) (hy:S.ev ⟨tm,st,nx,nt⟩ y=some (.int kd b):=by rfl) (hg:guardV l o ⟨tm,st,nx,nt⟩=some true:=by rfl) (hd:o.dst=some d:=by rfl) (hlt:Nat.blt d nt=true:=by rfl) (hb:¬ b=0:=by decide) (h:a.tmod b=n:=by assumption) (hn:InR kd n:=by assumption):ARun P N l K (o::r) ⟨tm,st,nx,nt⟩ tr:=r_val hg hd hlt (law_rem ho hb h hn) (hT hx (hT hy h0)) k
end
end Go.Proofs.YtlfdjpgghiemfaaGreatDoor.Abs
end
section
namespace Go.Proofs.YtlfdjpgghiemfaaGreatDoor.JarA
open Go.RowKit Mem Abs Scan JarP JarQ
abbrev jarV (L:List Cookie) (nx:Int):Abs.V:=.agg [.fro (L.map Cookie.v),.int .i64 nx]
theorem is_v {n:Int}:ACalls Tryz.prog 37 [.int .i64 n] (.bool (isJ n)):=by
 unfold isJ
 by_cases h1 : -11644473600≤n
 ·rw [decide_eq_true h1]
  by_cases h2:n≤253402300799
  ·rw [decide_eq_true h2]
   refine fun1 tb_ok Tryz.func37 rfl Tryz.ntmps37 Tryz.results37 rfl fun N=>?_
   repeat' (first|refine zt ?_|(refine isR ?_;first|refine zo ?_|refine zc2 ?_|refine zc4 ?_)|refine zr ?_|exact x_le)
   all_goals first|rfl|(exfalso;omega)
  ·rw [decide_eq_false h2]
   refine fun1 tb_ok Tryz.func37 rfl Tryz.ntmps37 Tryz.results37 rfl fun N=>?_
   repeat' (first|refine zt ?_|(refine isR ?_;first|refine zo ?_|refine zc2 ?_|refine zc4 ?_)|refine zr ?_|exact x_le)
   all_goals first|rfl|(exfalso;omega)
 ·rw [decide_eq_false h1]
  refine fun1 tb_ok Tryz.func37 rfl Tryz.ntmps37 Tryz.results37 rfl fun N=>?_
  repeat' (first|refine zt ?_|(refine isR ?_;first|refine zo ?_|refine zc2 ?_|refine zc4 ?_)|refine zr ?_|exact x_le)
  all_goals first|rfl|(exfalso;omega)
theorem moments_v {c:Cookie}:ACalls Tryz.prog 64 [c.v] (.bool (!badM c)):=by
 have c1:=is_v (n:=c.created)
 have c2:=is_v (n:=c.used)
 unfold badM
 generalize isJ c.created=a at *
 generalize isJ c.used=b at *
 cases a<;>cases b
 all_goals
  refine fun1 tb_ok Tryz.func64 rfl Tryz.ntmps64 Tryz.results64 rfl fun N=>?_
  repeat' (first|refine zt ?_|(refine isR ?_;first|refine zo ?_|refine zk c1 ?_|refine zk c2 ?_)|refine zr ?_|exact x_le)
  all_goals first|rfl|(exfalso;omega)
end Go.Proofs.YtlfdjpgghiemfaaGreatDoor.JarA
end
section
namespace Go.Proofs.YtlfdjpgghiemfaaGreatDoor.Rdy
open Go.RowKit Mem Abs TreeW HostP HostO HostA HostB HostC HostD PathT WordP WordS Rune JarP JarQ JarA
def hostOk (l:List UInt8):Bool:=decide (canonF l=(l,0))
def badI (c:Int):Bool:=(decide (c<32) && !decide (c=9))||decide (c=127)
def badB (b:UInt8):Bool:=badI (b.toNat:Int)
def letF (s:List UInt8):Bool:=s.all fun b => !badB b
theorem hostOk_eq (l:List UInt8):hostOk l=(decide ((canonF l).2=0)&&decide ((canonF l).1=l)):=by
 unfold hostOk
 obtain ⟨a,b⟩:=canonF l
 simp [Bool.and_comm,Prod.mk.injEq,Bool.decide_and]
theorem host_v {l:List UInt8}:ACalls Tryz.prog 59 [strT l] (.bool (hostOk l)):=by
 have c1:=canon_v (l:=l)
 rw [hostOk_eq]
 generalize canonF l=p at *
 obtain ⟨h,n⟩:=p
 dsimp only [pairT] at c1
 refine fun1 tb_ok Tryz.func59 rfl Tryz.ntmps59 Tryz.results59 rfl fun N=>?_
 by_cases h0:n=0
 ·subst h0
  by_cases h1:h=l
  ·subst h1
   repeat' (first|refine zt ?_|(refine isR ?_;first|refine zo ?_|refine zk c1 ?_|refine zc5 ?_)|refine zr ?_|exact x_le)
   simp;rfl
  ·skip
   repeat' (first|refine zt ?_|(refine isR ?_;first|refine zo ?_|refine zk c1 ?_|refine zc5 ?_)|refine zr ?_|exact x_le)
   simp [h1];rfl
 ·skip
  repeat' (first|refine zt ?_|(refine isR ?_;first|refine zo ?_|refine zk c1 ?_|refine zc5 ?_)|refine zr ?_|exact x_le)
  simp [h0];rfl
theorem let1_v {c:Int}:ACalls Tryz.prog 167 [.int .i32 c] (.bool (badI c)):=by
 refine fun1 tb_ok Tryz.func167 rfl Tryz.ntmps167 Tryz.results167 rfl fun N=>?_
 unfold badI
 repeat' (first|refine zt ?_|(refine isR ?_;first|refine zo ?_|refine zc5 ?_|(refine zs1 ?_ ?_<;>intro hc)|(refine zs5 ?_ ?_<;>intro hc)|(refine zs6 ?_ ?_<;>intro hc))|refine zr ?_|exact x_le)
 all_goals (show V.bool _=V.bool _;first|(simp [*];done)|(simp [*];omega))
theorem idx_v {s:List UInt8}:ACalls Tryz.prog 214 [strT s,.fn (.func 167) [] [],.bool true] (.int .i64 (firstI badB s)):=ACalls.lim fun hl=>by
 have hlim:=(TreeW.str_lim hl).1
 refine fun3 tb_ok Tryz.func214 rfl Tryz.ntmps214 Tryz.results214 rfl fun N=>?_
 repeat' (first|refine zt ?_|(refine isR ?_;first|refine zo ?_|refine x_range tb_ok ?_|refine zc5 ?_)|refine zr ?_|exact x_le)
 refine awp_while (fun k=>⟨[(0,strT s),(1,.fn (.func 167) [] []),(2,.bool true),(10,.loc 0 0 0)],[(0,some (.sit (str s) k))],1,21⟩) (fun k=>k≤s.length∧∀ j y,j<k→s[j]? = some y→badB y=false) (fun k=>s.length-k) 0 (by exact x_le) ⟨Nat.zero_le _,fun j y h=>absurd h (Nat.not_lt_zero _)⟩ ?_
 intro k ⟨hk,hp⟩
 have hsz:(str s).size=s.length:=str_size s
 by_cases hk2:k<s.length
 ·obtain ⟨c,wd,hdec,h1,h2,h3,hcase⟩:=rune_at s k hk2
  have hps:k<(str s).size:=by rw [hsz];exact hk2
  have hw:k+wd≤SLIM:=by simp only [SLIM];omega
  have c1:=let1_v (c:=(c:Int))
  rcases hcase with ⟨b,g1,g2,g3,g4⟩|⟨g1,g2⟩
  ·cases hb:badI (c:Int) with
   | true =>
    rw [hb] at c1
    repeat' (first|refine zt ?_|(refine isR ?_;first|refine zo ?_|refine x_next _ _ ?_|refine x_callv (c1 _) ?_|refine x_callv (c1) ?_|refine zc5 ?_)|refine zr ?_|exact x_le)
    show V.int .i64 _=V.int .i64 _
    rw [firstI_at hp g1 (by unfold badB;rw [← g3];exact hb)]
   | false =>
    rw [hb] at c1
    repeat' (first|refine zt ?_|(refine isR ?_;first|refine zo ?_|refine x_next _ _ ?_|refine x_callv (c1 _) ?_|refine x_callv (c1) ?_|refine zc5 ?_)|refine zr ?_|exact x_le)
    refine ⟨k+wd,⟨h2,fun j y hj hy=>?_⟩,by omega,(by exact x_le)⟩
    by_cases e:j<k
    ·exact hp j y e hy
    ·obtain rfl:j=k:=by omega
     rw [g1] at hy;cases hy
     unfold badB;rw [← g3];exact hb
  ·have hb:badI (c:Int)=false:=by
    unfold badI
    rw [decide_eq_false (by omega),decide_eq_false (by omega),decide_eq_false (by omega)];rfl
   rw [hb] at c1
   repeat' (first|refine zt ?_|(refine isR ?_;first|refine zo ?_|refine x_next _ _ ?_|refine x_callv (c1 _) ?_|refine x_callv (c1) ?_|refine zc5 ?_)|refine zr ?_|exact x_le)
   refine ⟨k+wd,⟨h2,fun j y hj hy=>?_⟩,by omega,(by exact x_le)⟩
   by_cases e:j<k
   ·exact hp j y e hy
   ·obtain ⟨b,f1,f2⟩:=g2 j (by omega) (by omega)
    rw [f1] at hy;cases hy
    unfold badB badI
    rw [decide_eq_false (by omega),decide_eq_false (by omega),decide_eq_false (by omega)];rfl
 ·have hps:¬ k<(str s).size:=by rw [hsz];exact hk2
  repeat' (first|refine zt ?_|(refine isR ?_;first|refine zo ?_|refine x_nextE ?_|refine zc5 ?_)|refine zr ?_|exact x_le)
  show V.int .i64 _=V.int .i64 _
  rw [firstI_none fun x hx=>?_]
  obtain ⟨i,hi⟩:=List.mem_iff_getElem?.1 hx
  exact hp i x (by have:=(List.getElem?_eq_some_iff.1 hi).1;omega) hi
theorem index_v {s:List UInt8}:ACalls Tryz.prog 166 [strT s,.fn (.func 167) [] []] (.int .i64 (firstI badB s)):=by
 have c1:=idx_v (s:=s)
 refine fun2 tb_ok Tryz.func166 rfl Tryz.ntmps166 Tryz.results166 rfl fun N=>?_
 repeat' (first|refine zt ?_|(refine isR ?_;first|refine zo ?_|refine zk c1 ?_)|refine zr ?_|exact x_le)
 rfl
theorem first_let (s:List UInt8):letF s=decide (firstI badB s<0):=by
 have h:=firstI_ge (p:=badB) (l:=s)
 have e:letF s = !s.any badB:=by unfold letF;rw [List.not_any_eq_all_not]
 rw [e]
 cases ha:s.any badB with
 | true=>rw [ha] at h;rw [decide_eq_false (by have:=h.2 rfl;omega)];rfl
 | false =>
  have:¬ (0≤firstI badB s):=fun g=>by rw [h.1 g] at ha;cases ha
  rw [decide_eq_true (by omega)];rfl
theorem let_v {s:List UInt8}:ACalls Tryz.prog 126 [strT s] (.bool (letF s)):=by
 have c1:=index_v (s:=s)
 rw [first_let]
 generalize firstI badB s=n at *
 refine fun1 tb_ok Tryz.func126 rfl Tryz.ntmps126 Tryz.results126 rfl fun N=>?_
 repeat' (first|refine zt ?_|(refine isR ?_;first|refine zo ?_|refine zk c1 ?_|(refine zs1 ?_ ?_<;>intro hc))|refine zr ?_|exact x_le)
 all_goals (show V.bool _=V.bool _;simp [*])
theorem contains_v {s:List UInt8} {c:UInt8}:ACalls Tryz.prog 173 [strT s,strT [c]] (.bool (s.contains c)):=fun g N w vs hG hN hlen hv=>by
 obtain ⟨vs⟩:=vs
 match vs,hlen with
 | [x0,x1],_ =>
  obtain ⟨rfl,h0⟩:=fz_str (hv 0 _ x0 rfl rfl)
  obtain ⟨rfl,_⟩:=fz_str (hv 1 _ x1 rfl rfl)
  refine (Tryz.strings_Contains_one (str s) c w).mono fun e w' ⟨h1,h2⟩=>⟨_,h1,h2 ▸ Below.refl _ _,?_⟩
  rw [str_toList,index_ge]
  exact .bool
def readyF (f:From) (now:Int):Int:=if hostOk f.host=true∧pre f.path [47]=true∧letF f.path=true∧f.path.contains 59=false∧f.path.length≤400 then (if isJ now then 0 else 3) else 1
theorem ready_v {f:From} {now:Int}:ACalls Tryz.prog 132 [f.v,.int .i64 now] (.int .i64 (readyF f now)):=by
 have c1:=host_v (l:=f.host)
 have c2:=hasPrefix_v (l:=f.path) (m:=[47])
 have c3:=let_v (s:=f.path)
 have c4:=contains_v (s:=f.path) (c:=59)
 have c5:=is_v (n:=now)
 unfold readyF
 obtain ⟨f1,f2,f3,f4,f5⟩:=f
 dsimp only at *
 generalize hostOk f1=x1 at *
 generalize pre f2 [47]=x2 at *
 generalize letF f2=x3 at *
 generalize f2.contains 59=x4 at *
 generalize isJ now=x5 at *
 show ACalls _ _ [.agg [strT f1,strT f2,.bool f3,.bool f4,.bool f5],.int .i64 now] _
 have z:∀ {p:Prop} [Decidable p] {a b:Int},¬ p→(if p then a else b)=b:=fun h=>if_neg h
 cases x1
 ·rw [z (by simp)]
  refine fun2 tb_ok Tryz.func132 rfl Tryz.ntmps132 Tryz.results132 rfl fun N=>?_
  repeat' (first|refine zt ?_|(refine isR ?_;first|refine zo ?_|refine zk c1 ?_|refine zL ?_|refine zc3 ?_)|refine zr ?_|exact x_le)
  rfl
 cases x2
 ·rw [z (by simp)]
  refine fun2 tb_ok Tryz.func132 rfl Tryz.ntmps132 Tryz.results132 rfl fun N=>?_
  repeat' (first|refine zt ?_|(refine isR ?_;first|refine zo ?_|refine zk c1 ?_|refine zk c2 ?_|refine zL ?_|refine zc3 ?_)|refine zr ?_|exact x_le)
  rfl
 cases x3
 ·rw [z (by simp)]
  refine fun2 tb_ok Tryz.func132 rfl Tryz.ntmps132 Tryz.results132 rfl fun N=>?_
  repeat' (first|refine zt ?_|(refine isR ?_;first|refine zo ?_|refine zk c1 ?_|refine zk c2 ?_|refine zk c3 ?_|refine zL ?_|refine zc3 ?_)|refine zr ?_|exact x_le)
  rfl
 cases x4
 ·by_cases h:f2.length≤400
  ·rw [if_pos ⟨rfl,rfl,rfl,rfl,h⟩]
   cases x5
   ·skip
    refine fun2 tb_ok Tryz.func132 rfl Tryz.ntmps132 Tryz.results132 rfl fun N=>?_
    repeat' (first|refine zt ?_|(refine isR ?_;first|refine zo ?_|refine zk c1 ?_|refine zk c2 ?_|refine zk c3 ?_|refine zk c4 ?_|refine zk c5 ?_|refine zL ?_|refine zc3 ?_)|refine zr ?_|exact x_le)
    rfl
   ·skip
    refine fun2 tb_ok Tryz.func132 rfl Tryz.ntmps132 Tryz.results132 rfl fun N=>?_
    repeat' (first|refine zt ?_|(refine isR ?_;first|refine zo ?_|refine zk c1 ?_|refine zk c2 ?_|refine zk c3 ?_|refine zk c4 ?_|refine zk c5 ?_|refine zL ?_|refine zc3 ?_)|refine zr ?_|exact x_le)
    rfl
  ·rw [z (by simp [h])]
   refine fun2 tb_ok Tryz.func132 rfl Tryz.ntmps132 Tryz.results132 rfl fun N=>?_
   repeat' (first|refine zt ?_|(refine isR ?_;first|refine zo ?_|refine zk c1 ?_|refine zk c2 ?_|refine zk c3 ?_|refine zk c4 ?_|refine zL ?_|refine zc3 ?_)|refine zr ?_|exact x_le)
   rfl
 ·rw [z (by simp)]
  refine fun2 tb_ok Tryz.func132 rfl Tryz.ntmps132 Tryz.results132 rfl fun N=>?_
  repeat' (first|refine zt ?_|(refine isR ?_;first|refine zo ?_|refine zk c1 ?_|refine zk c2 ?_|refine zk c3 ?_|refine zk c4 ?_|refine zL ?_|refine zc3 ?_)|refine zr ?_|exact x_le)
  rfl
end Go.Proofs.YtlfdjpgghiemfaaGreatDoor.Rdy
end
section
namespace Go.Proofs.YtlfdjpgghiemfaaGreatDoor.GrantP
open Scan
def codeV (V:List Int) (i:Nat):Nat:=if V.getD i 0<1∨40<V.getD i 0 then 3 else if 0<i∧V.getD i 0≤V.getD (i-1) 0 then 4 else 0
def codeG (g:Int):Nat:=if g<0∨68719476735<g then 3 else 0
def check (g:Int) (V:List Int):Nat:=if codeG g=0 then scan (codeV V) V.length else 3
theorem codeV_zero {V:List Int} {i:Nat}:codeV V i=0↔(1≤V.getD i 0∧V.getD i 0≤40)∧(0<i→V.getD (i-1) 0<V.getD i 0):=by
 unfold codeV
 split
 ·constructor
  ·intro h;cases h
  ·intro h;omega
 ·split
  ·constructor
   ·intro h;cases h
   ·intro h;omega
  ·constructor
   ·intro _;omega
   ·intro _;rfl
def Right (V:List Int):Prop:=V.Pairwise (· < ·)∧∀ v∈V,1≤v∧v≤40
theorem right_of {V:List Int} (h:scan (codeV V) V.length=0):Right V:=by
 have ha:=scan_zero.1 h
 have step:∀ i,i+1<V.length→V.getD i 0<V.getD (i+1) 0:=fun i hi=>(codeV_zero.1 (ha (i+1) hi)).2 (by omega)
 have lt:∀ d i,i+d+1<V.length→V.getD i 0<V.getD (i+d+1) 0:=by
  intro d
  induction d with
  | zero=>intro i hi;exact step i hi
  | succ d ih=>intro i hi;exact Int.lt_trans (ih i (by omega)) (step (i+d+1) hi)
 have at':∀ i (hi:i<V.length),V.getD i 0=V[i]:=fun i hi=>by rw [List.getD_eq_getElem?_getD,List.getElem?_eq_getElem hi];rfl
 refine ⟨List.pairwise_iff_getElem.2 fun i j hi hj hij=>?_,fun v hv=>?_⟩
 ·have:=lt (j-i-1) i (by omega)
  rw [show i+(j-i-1)+1=j from by omega,at' i hi,at' j hj] at this
  exact this
 ·obtain ⟨i,hi,rfl⟩:=List.mem_iff_getElem.1 hv
  have:=(codeV_zero.1 (ha i hi)).1
  rwa [at' i hi] at this
theorem of_right {V:List Int} (h:Right V):scan (codeV V) V.length=0:=by
 have at':∀ i (hi:i<V.length),V.getD i 0=V[i]:=fun i hi=>by rw [List.getD_eq_getElem?_getD,List.getElem?_eq_getElem hi];rfl
 refine scan_zero.2 fun i hi=>codeV_zero.2 ⟨?_,fun h0=>?_⟩
 ·rw [at' i hi];exact h.2 _ (List.getElem_mem hi)
 ·rw [at' i hi,at' (i-1) (by omega)]
  exact List.pairwise_iff_getElem.1 h.1 (i-1) i (by omega) hi (by omega)
def nums:List Int:=(List.range 40).map fun i:Nat=>(i:Int)+1
def upto (f:Int→Bool):List Int:=nums.filter f
def mayP (P:Nat→Bool) (p:Int):Bool:=p==0||(decide (1≤p)&&decide (p≤10)&&P (p-1).toNat)
def mayV (V:List Int) (v:Int):Bool:=v==0||V.contains v
def may (P:Nat→Bool) (V:List Int) (p v:Int):Bool:=mayP P p&&mayV V v
def lessP (P Q:Nat→Bool):Bool:=(List.range 10).all fun i => !P i||Q i
def less (P Q:Nat→Bool) (V U:List Int):Bool:=lessP P Q&&V.all (U.contains ·)
def same10 (P Q:Nat→Bool):Bool:=(List.range 10).all fun i=>P i==Q i
def mayTo (P:Nat→Bool) (p:Int) (i:Nat):Bool:=p==0||(decide (1≤p)&&decide (p≤i)&&P (p-1).toNat)
end Go.Proofs.YtlfdjpgghiemfaaGreatDoor.GrantP
end
section
namespace Go.Proofs.YtlfdjpgghiemfaaGreatDoor.PolP
open Abs HostP PathT Rdy JarP
abbrev Pol:=Policy
abbrev capsL (C:Nat→Int):List Int:=[C 0,C 1,C 2,C 3,C 4,C 5,C 6,C 7,C 8,C 9,C 10]
abbrev polV (p:Pol):Abs.V:=Policy.v p
def purp (n:Int):Bool:=decide (0≤n)&&decide (n≤10)
def codeR (r:Rule):Nat:=if r.kind<1∨4<r.kind then 7 else if r.text=[]∨400<r.text.length∨(r.kind=4∧hostOk r.text=false) then 1 else if purp r.purpose=false∨r.vendor<0∨40<r.vendor then 3 else 0
def codeRs:List Rule→Nat
 | []=>0
 | r::l=>if codeR r=0 then codeRs l else codeR r
def badC (n:Int):Bool:=decide (n<1)||decide (1000000000<n)
def badCs (C:Nat→Int):Bool:=(capsL C).any badC
def checkP (p:Pol):Nat:=if 12<p.rules.length then 2 else if codeRs p.rules≠0 then codeRs p.rules else if purp p.dflt=false∨badCs p.caps=true then 3 else 0
structure OkR (r:Rule):Prop where
 kind:1≤r.kind∧r.kind≤4
 text:r.text.length≤400
 purp:0≤r.purpose∧r.purpose≤10
theorem purp_iff {n:Int}:purp n=true↔0≤n∧n≤10:=by unfold purp;simp
theorem codeR_zero {r:Rule} (h:codeR r=0):OkR r:=by
 unfold codeR at h
 split at h
 ·cases h
 ·split at h
  ·cases h
  ·split at h
   ·cases h
   ·rename_i h1 h2 h3
    exact ⟨by omega,Nat.le_of_not_lt fun h=>h2 (.inr (.inl h)),purp_iff.1 (by
     cases hp:purp r.purpose with
     | true=>rfl
     | false=>exact absurd (.inl hp) h3)⟩
theorem codeRs_zero:∀ {l:List Rule},codeRs l=0→∀ r∈l,OkR r
 | [],_,r,hr=>by cases hr
 | a::l,h,r,hr=>by
  rw [codeRs] at h
  split at h
  ·rename_i h0
   rcases List.mem_cons.1 hr with rfl|hr
   ·exact codeR_zero h0
   ·exact codeRs_zero h r hr
  ·rename_i h0;exact absurd h h0
structure OkP (p:Pol):Prop where
 len:p.rules.length≤12
 rules:∀ r∈p.rules,OkR r
 dflt:0≤p.dflt∧p.dflt≤10
 caps:∀ i,i≤10→1≤p.caps i∧p.caps i≤1000000000
theorem check_ok {p:Pol} (h:checkP p=0):OkP p:=by
 unfold checkP at h
 split at h
 ·cases h
 ·split at h
  ·rename_i h1 h2;exact absurd h h2
  ·split at h
   ·cases h
   ·rename_i h1 h2 h3
    refine ⟨by omega,codeRs_zero (by simpa using h2),purp_iff.1 (by
     cases hp:purp p.dflt with
     | true=>rfl
     | false=>exact absurd (.inl hp) h3),fun i hi=>?_⟩
    have hb:badCs p.caps=false:=by
     cases hp:badCs p.caps with
     | false=>rfl
     | true=>exact absurd (.inr hp) h3
    have hm:p.caps i∈capsL p.caps:=by
     have:i=0∨i=1∨i=2∨i=3∨i=4∨i=5∨i=6∨i=7∨i=8∨i=9∨i=10:=by omega
     rcases this with rfl|rfl|rfl|rfl|rfl|rfl|rfl|rfl|rfl|rfl|rfl<;>simp [capsL]
    have:=List.any_eq_false.1 hb _ hm
    unfold badC at this
    simp at this
    omega
def namesF (r:Rule) (c:Cookie):Bool:=if r.kind=1 then decide (c.name=r.text) else if r.kind=2 then pre c.name r.text else if r.kind=3 then endsB c.name r.text else matchF c.domain r.text
def kindF (p:Pol) (c:Cookie):Int × Int:=match p.rules.find? (fun r=>namesF r c) with
 | some r=>(r.purpose,r.vendor)
 | none=>(p.dflt,0)
theorem kind_ok {p:Pol} (h:OkP p) (c:Cookie):0≤(kindF p c).1∧(kindF p c).1≤10:=by
 unfold kindF
 cases hf:p.rules.find? (fun r=>namesF r c) with
 | none=>exact h.dflt
 | some r=>exact (h.rules r (List.mem_of_find?_eq_some hf)).purp
def mayF (P:Nat→Bool) (U:List Int) (k v:Int):Bool:=(decide (k=0)||(purp k&&P (k-1).toNat))&&(decide (v=0)||U.contains v)
def afterF (n s:Int):Int:=n+if s<253402300799-n then s else 253402300799-n
def capF (p:Pol) (c:Cookie):Int:=afterF c.created (p.caps (kindF p c).1.toNat)
def clampF (p:Pol) (c:Cookie):Cookie:={ c with expiry:=if capF p c<c.expiry then capF p c else c.expiry }
def letsF (p:Pol) (P:Nat→Bool) (U:List Int) (c:Cookie):Bool:=mayF P U (kindF p c).1 (kindF p c).2
def keptF (p:Pol) (P:Nat→Bool) (U:List Int) (now:Int) (L:List Cookie):List Cookie:=L.flatMap fun c=>if letsF p P U c=true∧now<(clampF p c).expiry then [clampF p c] else []
theorem kept_on {p:Pol} {P:Nat→Bool} {U:List Int} {now:Int} (L:List Cookie) {k:Nat} {c:Cookie} (h:L[k]? = some c):keptF p P U now (L.take (k+1))=keptF p P U now (L.take k)++if letsF p P U c=true∧now<(clampF p c).expiry then [clampF p c] else []:=by
 unfold keptF
 rw [List.take_add_one,h,List.flatMap_append]
 simp
theorem kept_len {p:Pol} {P:Nat→Bool} {U:List Int} {now:Int}:∀ L:List Cookie,(keptF p P U now L).length≤L.length
 | []=>Nat.zero_le _
 | c::L=>by
  have ih:=kept_len (p:=p) (P:=P) (U:=U) (now:=now) L
  have e:keptF p P U now (c::L)=(if letsF p P U c=true∧now<(clampF p c).expiry then [clampF p c] else [])++keptF p P U now L:=by unfold keptF;rw [List.flatMap_cons]
  rw [e,List.length_append,List.length_cons]
  split
  ·rw [List.length_singleton];omega
  ·rw [List.length_nil];omega
def codeRight (p:Pol) (g:Int) (U:List Int):Nat:=if checkP p≠0 then checkP p else GrantP.check g U
def codePurge (L:List Cookie) (nx:Int) (p:Pol) (g:Int) (U:List Int) (now:Int):Nat:=if checkJ L nx≠0 then checkJ L nx else if codeRight p g U≠0 then codeRight p g U else if isJ now=false then 3 else 0
end Go.Proofs.YtlfdjpgghiemfaaGreatDoor.PolP
end
section
namespace Go.Proofs.YtlfdjpgghiemfaaGreatDoor.JarB
open Go.RowKit Mem Abs Scan JarP JarQ JarA
abbrev TC:Nat:=46
abbrev nV (n:Nat):Abs.V:=.int .i64 (n:Int)
theorem at_map {α:Type} {f:α→Abs.V} {L:List α} {k:Nat} {x:α} (h:L[k]? = some x):(L.map f)[k]? = some (f x):=by rw [List.getElem?_map,h];rfl
def perJ (L:List Cookie) (c:Cookie) (k:Nat):Nat:=(L.take k).countP fun d=>decide (d.domain=c.domain)
theorem per_le (L:List Cookie) (c:Cookie) (k:Nat):perJ L c k≤k:=Nat.le_trans List.countP_le_length (by rw [List.length_take];omega)
theorem code_at {L:List Cookie} {nx:Int} {i:Nat} {c:Cookie} (hc:L[i]? = some c):codeJ L nx i=if badM c=true then 3 else if c.no<0∨nx≤c.no then 4
  else if (L.take i).any (fun d=>sameK d c||decide (d.no=c.no))=true then 6
  else if perJ L c i=4 then 2 else 0:=by
 unfold codeJ
 rw [hc]
 rfl
end Go.Proofs.YtlfdjpgghiemfaaGreatDoor.JarB
end
