/- Texts of the proof, joined: CookP, BothS, CookW, HeadL, CookQ. -/
import Derived.Test.YtlfdjpgghiemfaaGreatDoorG42
set_option maxHeartbeats 4000000
set_option maxRecDepth 100000
namespace Go.Proofs.YtlfdjpgghiemfaaGreatDoor
namespace iA
open Abs bP bR cZ dh eB Cz jW jI nL yR
def J7:Nat:=1000000000000
def wT (l:List UInt8):Nat:=min J7 (value l)
theorem O1:wT []=0:=by decide
theorem RQ (l:List UInt8) (c:UInt8):wT (l++[c])=min J7 (10*wT l+(c.toNat-48)):=by
 unfold wT
 rw [iM.vk]
 have:J7=1000000000000:=rfl
 omega
theorem abK (l:List UInt8):wT l≤1000000000000:=Nat.min_le_left _ _
def yV (s:List UInt8):Int × Bool:=if (dH s [45]).1.all gU=true∧(dH s [45]).1≠[] then (if (dH s [45]).2 then -(wT (dH s [45]).1:Int) else (wT (dH s [45]).1:Int),true) else (0,false)
def fH (f:From) (now:Int):Int:=if fT.cu f.host=true∧pre f.path [47]=true∧kR.mJ f.path=true∧f.path.contains 59=false∧f.path.length≤400 then (if isB now then 0 else 3) else 1
theorem Lr {f:From} {now:Int} (h:fH f now=0):fT.cu f.host=true∧pre f.path [47]=true∧kR.mJ f.path=true∧f.path.contains 59=false∧f.path.length≤400∧isB now=true:=by
 unfold fH at h
 split at h
 ·rename_i h1
  split at h
  ·rename_i h2
   exact ⟨h1.1,h1.2.1,h1.2.2.1,h1.2.2.2.1,h1.2.2.2.2,h2⟩
  ·exact absurd h (by decide)
 ·exact absurd h (by decide)
def qZ:List UInt8:=([101,120,112,105,114,101,115]:List UInt8)
def o9:List UInt8:=([109,97,120,45,97,103,101]:List UInt8)
def rQ:List UInt8:=([100,111,109,97,105,110]:List UInt8)
def kS:List UInt8:=([112,97,116,104]:List UInt8)
def uY:List UInt8:=([115,101,99,117,114,101]:List UInt8)
def lV:List UInt8:=([104,116,116,112,111,110,108,121]:List UInt8)
def mW:List UInt8:=([115,97,109,101,115,105,116,101]:List UInt8)
def RP (v:List UInt8):Int:=if fold v=([110,111,110,101]:List UInt8) then 1 else if fold v=([108,97,120]:List UInt8) then 2 else if fold v=([115,116,114,105,99,116]:List UInt8) then 3 else 0
def MH (v:List UInt8):List UInt8:=(dH v [46]).1
structure Mk where
 c:ah
 aged:Bool
 told:Bool
 deep:Bool
noncomputable def bN (f:From) (now:Int) (m:Mk) (a:Attr):Mk :=
 if a.name=qZ then (if (bD a.value).2=0 then { m with c:={ m.c with lasting:=true,expiry:=if m.aged then m.c.expiry else (bD a.value).1 } } else m)
 else if a.name=o9 then (if (yV a.value).2=true then { m with aged:=true,c:={ m.c with lasting:=true,expiry:=if 0<(yV a.value).1 then ig now (yV a.value).1 else -11644473600 } } else m)
 else if a.name=rQ then (if MH a.value=[] then m else { m with told:=true,c:={ m.c with domain:=fold (MH a.value) } })
 else if a.name=kS then { m with deep:=true,c:={ m.c with path:=if pre a.value [47] then a.value else rY.dflt f.path } }
 else if a.name=uY then { m with c:={ m.c with secure:=true } }
 else if a.name=lV then { m with c:={ m.c with httpOnly:=true } }
 else if a.name=mW then { m with c:={ m.c with site:=RP a.value } }
 else m
def mk0 (r:Raw) (f:From) (now:Int):Mk:=⟨⟨r.name,r.value,[],rY.dflt f.path,false,false,false,false,0,253402300799,now,now,0⟩,false,false,false⟩
def Bc:ah:=⟨[],[],[],[],false,false,false,false,0,0,0,0,0⟩
def nO (L:List aG) (f:From) (m:Mk):Int × Mk :=
 if m.told=false then (0,{ m with c:={ m.c with domain:=f.host,hostOnly:=true } })
 else if fT.cu m.c.domain=false then (1,m)
 else if fT.xV L m.c.domain=m.c.domain then (if m.c.domain=f.host then 0 else 8,{ m with c:={ m.c with hostOnly:=true } })
 else (if kK f.host m.c.domain=true then 0 else 8,m)
def ZY:List UInt8:=([95,95,115,101,99,117,114,101,45]:List UInt8)
def TQ:List UInt8:=([95,95,104,111,115,116,45]:List UInt8)
def Qw (f:From) (m:Mk):Bool :=
 if (m.c.httpOnly&&f.script||m.c.secure && !f.secure)=true then true
 else if pre (fold m.c.name) ZY=true then !m.c.secure
 else if pre (fold m.c.name) TQ=true then !m.c.secure||(!m.c.hostOnly||(m.told||(!decide (m.c.path=[47]) || !m.deep)))
 else false
noncomputable def iX (r:Raw) (f:From) (now:Int):Mk:=r.attrs.foldl (bN f now) (mk0 r f now)
noncomputable def aaJ (L:List aG) (f:From) (m:Mk):ah × Int :=
 if (nO L f m).1≠0 then (Bc,(nO L f m).1) else if Qw f (nO L f m).2=true then (Bc,8) else ((nO L f m).2.c,0)
noncomputable def jo (L:List aG) (r:Raw) (f:From) (now:Int):ah × Int :=
 if fT.bA L≠0 then (Bc,(fT.bA L:Int)) else if kR.bA r≠0 then (Bc,kR.bA r) else if fH f now≠0 then (Bc,fH f now) else aaJ L f (iX r f now)
noncomputable def oQ (a:Attr):Bool :=
 if a.name=qZ then decide ((bD a.value).2=0) else if a.name=o9 then (yV a.value).2 else if a.name=rQ then decide (a.value≠[]∧a.value≠[46]) else true
noncomputable def Eg (l:List Attr) (n:List UInt8):Option (List UInt8):=(l.reverse.find? fun a=>decide (a.name=n)&&oQ a).map (·.value)
theorem PW (l:List Attr) (a:Attr) (n:List UInt8):Eg (l++[a]) n=if a.name=n∧oQ a=true then some a.value else Eg l n:=by
 unfold Eg
 rw [List.reverse_append,List.reverse_singleton,List.singleton_append,List.find?_cons]
 by_cases h:a.name=n∧oQ a=true
 ·rw [if_pos h]
  simp [h.1,h.2]
 ·rw [if_neg h]
  have:(decide (a.name=n)&&oQ a)=false:=by
   rw [Bool.and_eq_false_iff]
   by_cases hn:a.name=n
   ·right
    cases hs:oQ a with
    | false=>rfl
    | true=>exact absurd ⟨hn,hs⟩ h
   ·left;exact decide_eq_false hn
  rw [this]
theorem Y6 (v:List UInt8):MH v=[]↔(v=[]∨v=[46]):=by
 unfold MH dH
 cases hp:pre v [46] with
 | true =>
  obtain ⟨x,rfl⟩:=(OB v [46]).1 hp
  simp
 | false =>
  refine ⟨fun h=>.inl h,fun h=>?_⟩
  rcases h with rfl|rfl
  ·rfl
  ·exact absurd hp (by decide)
noncomputable def Bq (r:Raw) (f:From) (now:Int) (lf:List UInt8→Option (List UInt8)):Mk :=
 ⟨⟨r.name,r.value,(match lf rQ with|some v=>fold (MH v)|none=>[]),(match lf kS with|some v=>if pre v [47] then v else rY.dflt f.path|none=>rY.dflt f.path),false,(lf uY).isSome,(lf lV).isSome,(lf o9).isSome||(lf qZ).isSome,(match lf mW with|some v=>RP v|none=>0),
  (match lf o9 with|some v=>if 0<(yV v).1 then ig now (yV v).1 else -11644473600|none=>match lf qZ with|some v=>(bD v).1|none=>253402300799),now,now,0⟩,(lf o9).isSome,(lf rQ).isSome,(lf kS).isSome⟩
theorem QI (r:Raw) (f:From) (now:Int) (l:List Attr) (a:Attr):bN f now (Bq r f now (Eg l)) a=Bq r f now (Eg (l++[a])):=by
 have hl:=PW l a
 have e1:qZ≠o9:=by decide
 have e2:qZ≠rQ:=by decide
 have e3:qZ≠kS:=by decide
 have e4:qZ≠uY:=by decide
 have e5:qZ≠lV:=by decide
 have e6:qZ≠mW:=by decide
 have f2:o9≠rQ:=by decide
 have f3:o9≠kS:=by decide
 have f4:o9≠uY:=by decide
 have f5:o9≠lV:=by decide
 have f6:o9≠mW:=by decide
 have g3:rQ≠kS:=by decide
 have g4:rQ≠uY:=by decide
 have g5:rQ≠lV:=by decide
 have g6:rQ≠mW:=by decide
 have i4:kS≠uY:=by decide
 have i5:kS≠lV:=by decide
 have i6:kS≠mW:=by decide
 have j5:uY≠lV:=by decide
 have j6:uY≠mW:=by decide
 have k6:lV≠mW:=by decide
 by_cases h1:a.name=qZ
 ·have hs:oQ a=decide ((bD a.value).2=0):=by unfold oQ;rw [if_pos h1]
  have q1:=hl qZ;have q2:=hl o9;have q3:=hl rQ;have q4:=hl kS;have q5:=hl uY;have q6:=hl lV;have q7:=hl mW
  simp only [h1,hs,e1,e2,e3,e4,e5,e6,true_and,false_and,if_false,decide_eq_true_eq] at q1 q2 q3 q4 q5 q6 q7
  unfold bN Bq
  rw [if_pos h1,q1,q2,q3,q4,q5,q6,q7]
  by_cases h:(bD a.value).2=0
  ·rw [if_pos h,if_pos h]
   cases Eg l o9<;>simp
  ·rw [if_neg h,if_neg h]
 by_cases h2:a.name=o9
 ·have hs:oQ a=(yV a.value).2:=by unfold oQ;rw [if_neg h1,if_pos h2]
  have q1:=hl qZ;have q2:=hl o9;have q3:=hl rQ;have q4:=hl kS;have q5:=hl uY;have q6:=hl lV;have q7:=hl mW
  simp only [h2,hs,Ne.symm e1,f2,f3,f4,f5,f6,true_and,false_and,if_false] at q1 q2 q3 q4 q5 q6 q7
  unfold bN Bq
  rw [if_neg h1,if_pos h2,q1,q2,q3,q4,q5,q6,q7]
  cases h:(yV a.value).2
  ·simp
  ·simp
 by_cases h3:a.name=rQ
 ·have hs:oQ a=decide (a.value≠[]∧a.value≠[46]):=by unfold oQ;rw [if_neg h1,if_neg h2,if_pos h3]
  have hd:=Y6 a.value
  have q1:=hl qZ;have q2:=hl o9;have q3:=hl rQ;have q4:=hl kS;have q5:=hl uY;have q6:=hl lV;have q7:=hl mW
  simp only [h3,hs,Ne.symm e2,Ne.symm f2,g3,g4,g5,g6,true_and,false_and,if_false,decide_eq_true_eq] at q1 q2 q3 q4 q5 q6 q7
  unfold bN Bq
  rw [if_neg h1,if_neg h2,if_pos h3,q1,q2,q3,q4,q5,q6,q7]
  by_cases h:MH a.value=[]
  ·have h':=hd.1 h
   rw [if_pos h,if_neg (fun hh=>by rcases h' with h'|h';exact hh.1 h';exact hh.2 h')]
  ·rw [if_neg h,if_pos ⟨fun e=>h (hd.2 (.inl e)),fun e=>h (hd.2 (.inr e))⟩]
   rfl
 have hs:oQ a=true:=by unfold oQ;rw [if_neg h1,if_neg h2,if_neg h3]
 have q1:=hl qZ;have q2:=hl o9;have q3:=hl rQ;have q4:=hl kS;have q5:=hl uY;have q6:=hl lV;have q7:=hl mW
 simp only [h1,h2,h3,hs,and_true,if_false] at q1 q2 q3 q4 q5 q6 q7
 unfold bN Bq
 rw [if_neg h1,if_neg h2,if_neg h3,q1,q2,q3]
 by_cases h4:a.name=kS
 ·simp only [h4,i4,i5,i6,if_true,if_false] at q4 q5 q6 q7
  rw [if_pos h4,q4,q5,q6,q7]
  rfl
 by_cases h5:a.name=uY
 ·simp only [h5,Ne.symm i4,j5,j6,if_true,if_false] at q4 q5 q6 q7
  rw [if_neg h4,if_pos h5,q4,q5,q6,q7]
  rfl
 by_cases h6:a.name=lV
 ·simp only [h6,Ne.symm i5,Ne.symm j5,k6,if_true,if_false] at q4 q5 q6 q7
  rw [if_neg h4,if_neg h5,if_pos h6,q4,q5,q6,q7]
  rfl
 by_cases h7:a.name=mW
 ·simp only [h7,Ne.symm i6,Ne.symm j6,Ne.symm k6,if_true,if_false] at q4 q5 q6 q7
  rw [if_neg h4,if_neg h5,if_neg h6,if_pos h7,q4,q5,q6,q7]
 simp only [h4,h5,h6,h7,if_false] at q4 q5 q6 q7
 rw [if_neg h4,if_neg h5,if_neg h6,if_neg h7,q4,q5,q6,q7]
theorem Nv (r:Raw) (f:From) (now:Int):∀ l:List Attr,l.foldl (bN f now) (mk0 r f now)=Bq r f now (Eg l) :=
 iM.lN rfl fun l a ih=>by
  rw [List.foldl_append,ih]
  exact QI r f now l a
end iA
namespace Both
open Go.RowKit Mem Abs bP fw pO
variable {f:FuncId} {r:Abs.V} {us:List Abs.V} {w:World}
def KM:iJ:=⟨0+1,fun h=>∃ m T fr,h 0=some (.cells #[.int .i64 m] T fr)⟩
def fU:iJ:=⟨max bG.n KM.n,fun f=>bG.P (fun i=>if i<bG.n then f i else none)∧KM.P (fun i=>if i<KM.n then f i else none)⟩
theorem Bu {n m:Nat} (h:n≤m):(fun i=>if i<n then (if i<m then w.heap[i]? else none) else none)=fun i=>if i<n then w.heap[i]? else none:=by
 funext i
 by_cases hi:i<n
 ·rw [if_pos hi,if_pos hi,if_pos (Nat.lt_of_lt_of_le hi h)]
 ·rw [if_neg hi,if_neg hi]
theorem JC {X:Nat→Prop} (h:ko fU X w):ko bG X w:=by
 obtain ⟨h1,h2,h3,h4⟩:=h
 have e:=Bu (w:=w) (Nat.le_max_left bG.n KM.n)
 refine ⟨Nat.le_trans (Nat.le_max_left _ _) h1,fun b hb=>Nat.le_trans (Nat.le_max_left _ _) (h2 b hb),?_⟩
 rw [← e]
 exact h3
theorem kU (h:av Tryz.prog bG f us r):av Tryz.prog fU f us r:=fun N w vs hG=>h N w vs (JC hG)
theorem ab2 {st:List Blk} {st2:List (Option Blk)} (h:aR Tryz.prog bG f us st r st2):aR Tryz.prog fU f us st r st2:=fun N M φ w vs hR=>fun hl hv=>by
 have hg:=JC hR.gl
 refine Calls.mono (h N M φ w vs ⟨hR.st,hR.inj,hR.lim,hR.dis,hg⟩ hl hv) ?_
 rintro e w2 ⟨x,M2,p2,g1,g2,g3,g4,g5,g6⟩
 exact ⟨x,M2,p2,g1,g2,g3,g4,⟨g5.st,g5.inj,g5.lim,g5.dis,hR.gl.stays (⟨g2.os,g2.tape,g2.output,g2.size,fun b hb hm=>g2.block b hb fun h=>hm (.inl h)⟩) (fun b hb h=>h.imp (g3 b hb) id)⟩,g6⟩
theorem Xa:vM fU:=⟨Nat.lt_of_lt_of_le (Nat.lt_succ_self _) (Nat.le_max_right _ _),fun _h ⟨_,m,T,fr,e⟩=>⟨m,T,fr,(if_pos (Nat.lt_succ_self _)).symm.trans e⟩⟩
theorem QF (h1:ko bG (fun _=>False) w) (h2:ko KM (fun _=>False) w):ko fU (fun _=>False) w:=by
 refine ⟨Nat.max_le.2 ⟨h1.1,h2.1⟩,fun b hb=>hb.elim,?_,?_⟩
 ·have:=h1.2.2
  rw [← Bu (w:=w) (Nat.le_max_left bG.n KM.n)] at this
  exact this
 ·have:=h2.2.2
  rw [← Bu (w:=w) (Nat.le_max_right bG.n KM.n)] at this
  exact this
theorem UC {W:World} (hs:W.ShapedOpen Tryz.prog):ko KM (fun _=>False) W:=by
 obtain ⟨m,hm⟩:=Tryz.Sw.s1_3 W hs
 have hm:W.cell? ⟨0,0,none⟩=some (.int .i64 m):=hm
 obtain ⟨cs,he,hz,_⟩:=hs.1 0 #[.int .i64 0] _ (of_decide_eq_true (by kernel_rfl)) (show ((begin Tryz.prog (fun _ _=>0) default).world.heap[0]?).bind Obj.row? = some (#[Value.int .i64 0],3) by kernel_rfl)
 have h1:=(Array.getElem?_eq_some_iff.1 he).1
 obtain ⟨l⟩:=cs
 match l,hz with
 | [x],_ =>
  have hx:x = .int .i64 m:=by
   have:=hm
   unfold World.cell? at this
   simp only [he] at this
   simpa using this
  subst hx
  exact ⟨h1,fun b h=>h.elim,m,_,_,(if_pos (Nat.lt_succ_self _)).trans he⟩
end Both
namespace Zx
open Go.RowKit Mem Abs bP bR cZ dh iM iZ qV iw wH eB fw pO Cz jW jI nL yR iA Both
variable {s:Int} {m l:List UInt8} {now:Int} {f:From} {n:Int}
theorem qI:aj Tryz.prog 37 [.int .i64 n] (.bool (isB n)):=fun g N w vs hG hN hlen hv=>by
 obtain ⟨vs⟩:=vs
 match vs,hlen with
 | [x0],_ =>
  obtain ⟨rfl,_⟩:=kL (hv 0 _ x0 rfl rfl)
  exact (jI.abB n w).mono fun e w' ⟨he,hbel⟩=>⟨_,he,hbel ▸ Below.refl _ _,.bool⟩
theorem RS (h:isB n=true): -11644473600≤ig n s∧ig n s≤253402300799:=by
 have:=OO.1 h
 unfold ig
 split<;>split<;>omega
theorem G8 (h:isB n=true):aj Tryz.prog 165 [.int .i64 n,.int .i64 s] (.int .i64 (ig n s)):=fun g N w vs hG hN hlen hv=>by
 obtain ⟨vs⟩:=vs
 match vs,hlen with
 | [x0,x1],_ =>
  obtain ⟨rfl,_⟩:=kL (hv 0 _ x0 rfl rfl)
  obtain ⟨rfl,k1⟩:=kL (hv 1 _ x1 rfl rfl)
  have hb:=OO.1 h
  have ha:=RS (s:=s) h
  simp only [InR,rng] at k1
  exact (jI.Rq n s w hb.1 hb.2 k1.1 k1.2).mono fun e w' ⟨he,hbel⟩=>⟨_,he,hbel ▸ Below.refl _ _,.int ⟨by simp only [rng];omega,by simp only [rng];omega⟩⟩
theorem Gn (h:l.length≤400):aj Tryz.prog 133 [au l] (au (rY.dflt l)):=fun g N w vs hG hN hlen hv=>by
 obtain ⟨vs⟩:=vs
 match vs,hlen with
 | [x0],_ =>
  obtain ⟨rfl,h0⟩:=iG (hv 0 _ x0 rfl rfl)
  have hd:=ZL.XI l
  refine (rY.zf (str l) w (by rw [aM];omega)).mono fun e w' ⟨he,hbel⟩=>⟨_,he,hbel ▸ Below.refl _ _,?_⟩
  rw [bf]
  exact .str (by rw [aM];simp only [dS];omega)
theorem EM:aj Tryz.prog 230 [au l,au m] (au (dH l m).1):=aj.lim fun hl=>by
 obtain ⟨h1,hl⟩:=bP.kZ hl
 obtain ⟨h2,_⟩:=bP.kZ hl
 have c1:=lg (l:=l) (m:=m)
 unfold dH
 cases hp:pre l m with
 | true =>
  have hle:=G6 hp
  rw [hp] at c1
  have e:l.drop ((m.length:Int)).toNat=l.drop m.length:=rfl
  rw [if_pos rfl]
  refine aX af Tryz.func230 rfl Tryz.ntmps230 Tryz.results230 rfl fun N=>?_
  repeat' (first|refine zV ?_|(refine isR ?_;refine zk c1 ?_)|refine zW ?_|exact ai)
  rfl
 | false =>
  rw [hp] at c1
  refine aX af Tryz.func230 rfl Tryz.ntmps230 Tryz.results230 rfl fun N=>?_
  repeat' (first|refine zV ?_|(refine isR ?_;refine zk c1 ?_)|refine zW ?_|exact ai)
  rfl
theorem IL:aj Tryz.prog 177 [au l,au m] (au (dH l m).1):=by
 have c1:=EM (l:=l) (m:=m)
 refine aX af Tryz.func177 rfl Tryz.ntmps177 Tryz.results177 rfl fun N=>?_
 repeat' (first|refine zV ?_|(refine isR ?_;refine zk c1 ?_)|refine zW ?_|exact ai)
 rfl
theorem xX:aj Tryz.prog 132 [f.v,.int .i64 now] (.int .i64 (fH f now)):=by
 have c1:=Ab.vJ (l:=f.host)
 have c2:=fZ (l:=f.path) (m:=[47])
 have c3:=K5.EY (s:=f.path)
 have c4:=K5.eU (s:=f.path) (c:=59)
 have c5:=qI (n:=now)
 unfold fH
 obtain ⟨f1,f2,f3,f4,f5⟩:=f
 dsimp only at *
 generalize fT.cu f1=x1 at *
 generalize pre f2 [47]=x2 at *
 generalize kR.mJ f2=x3 at *
 generalize f2.contains 59=x4 at *
 generalize isB now=x5 at *
 show aj _ _ [.agg [au f1,au f2,.bool f3,.bool f4,.bool f5],.int .i64 now] _
 have z:∀ {p:Prop} [Decidable p] {a b:Int},¬ p→(if p then a else b)=b:=fun h=>if_neg h
 cases x1
 ·rw [z (by simp)]
  refine aX af Tryz.func132 rfl Tryz.ntmps132 Tryz.results132 rfl fun N=>?_
  repeat' (first|refine zV ?_|(refine isR ?_;refine zk c1 ?_)|refine zW ?_|exact ai)
  rfl
 cases x2
 ·rw [z (by simp)]
  refine aX af Tryz.func132 rfl Tryz.ntmps132 Tryz.results132 rfl fun N=>?_
  repeat' (first|refine zV ?_|(refine isR ?_;first|refine zk c1 ?_|refine zk c2 ?_)|refine zW ?_|exact ai)
  rfl
 cases x3
 ·rw [z (by simp)]
  refine aX af Tryz.func132 rfl Tryz.ntmps132 Tryz.results132 rfl fun N=>?_
  repeat' (first|refine zV ?_|(refine isR ?_;first|refine zk c1 ?_|refine zk c2 ?_|refine zk c3 ?_)|refine zW ?_|exact ai)
  rfl
 cases x4
 ·by_cases h:f2.length≤400
  ·rw [if_pos ⟨rfl,rfl,rfl,rfl,h⟩]
   cases x5
   ·refine aX af Tryz.func132 rfl Tryz.ntmps132 Tryz.results132 rfl fun N=>?_
    repeat' (first|refine zV ?_|(refine isR ?_;first|refine zk c1 ?_|refine zk c2 ?_|refine zk c3 ?_|refine zk c4 ?_|refine zk c5 ?_)|refine zW ?_|exact ai)
    rfl
   ·refine aX af Tryz.func132 rfl Tryz.ntmps132 Tryz.results132 rfl fun N=>?_
    repeat' (first|refine zV ?_|(refine isR ?_;first|refine zk c1 ?_|refine zk c2 ?_|refine zk c3 ?_|refine zk c4 ?_|refine zk c5 ?_)|refine zW ?_|exact ai)
    rfl
  ·rw [z (by simp [h])]
   refine aX af Tryz.func132 rfl Tryz.ntmps132 Tryz.results132 rfl fun N=>?_
   repeat' (first|refine zV ?_|(refine isR ?_;first|refine zk c1 ?_|refine zk c2 ?_|refine zk c3 ?_|refine zk c4 ?_)|refine zW ?_|exact ai)
   rfl
 ·rw [z (by simp)]
  refine aX af Tryz.func132 rfl Tryz.ntmps132 Tryz.results132 rfl fun N=>?_
  repeat' (first|refine zV ?_|(refine isR ?_;first|refine zk c1 ?_|refine zk c2 ?_|refine zk c3 ?_|refine zk c4 ?_)|refine zW ?_|exact ai)
  rfl
structure Hid (p:Prop):Prop where
 out:p
theorem Ye (m d:Nat):(if (10*(m:Int)+((d:Nat):Int))<1000000000000 then (10*(m:Int)+((d:Nat):Int)) else 1000000000000)=((min J7 (10*m+d):Nat):Int):=by
 have:J7=1000000000000:=rfl
 split<;>omega
theorem ade {s:List UInt8} (hs0:s.length≤140737488355328):aj Tryz.prog 176 [au s] (.tup [.int .i64 (yV s).1,.bool (yV s).2]):=aj.lim fun hl=>by
 obtain ⟨hl,_⟩:=bP.kZ hl
 have c1:=nD (l:=s) (m:=[45])
 have hle:(dH s [45]).1.length≤s.length:=by unfold dH;split<;>simp
 unfold yV
 generalize dH s [45]=p at *
 obtain ⟨t,minus⟩:=p
 dsimp only at *
 have hx:((t.map bB).length:Int)=(t.length:Int):=by simp
 refine aW af Tryz.func176 rfl Tryz.ntmps176 Tryz.results176 rfl fun N=>?_
 repeat' (first|refine zV ?_|(refine isR ?_;refine zk c1 ?_)|refine zW ?_|(refine zs ?_ ?_<;>intro hc)|exact ai)
 refine bM (fun k=>⟨[(0,au t),(2,.int .i64 ((wT (t.take k):Nat):Int)),(3,.bool false),(4,.bool minus),(13,.fro (t.map bB)),(14,.int .i64 (t.map bB).length),(15,.int .i64 (k:Int))],[],0,39⟩) (fun k=>k≤t.length∧rf gU t k) t.length 0 ?_ ⟨Nat.zero_le _,F7⟩ ?_
 ·have e:wT (t.take 0)=0:=O1
  rw [e]
  exact (by exact ai)
 intro k ⟨hk,hq⟩
 have hs:=abK (t.take k)
 by_cases hk2:k<t.length
 ·have e1:(t.map bB)[k]? = some (bB t[k]):=by simp [hk2]
  have e2:t[k]? = some t[k]:=by simp [hk2]
  have e3:wT (t.take (k+1))=min J7 (10*wT (t.take k)+(t[k].toNat-48)):=by rw [List.take_succ_eq_append_getElem hk2,RQ]
  generalize t[k]=c at e1 e2 e3
  have hc:=c.toNat_lt
  generalize wT (t.take k)=m at *
  cases hd:gU c with
  | true =>
   have hn:48≤c.toNat∧c.toNat≤57:=by unfold gU at hd;simpa using hd
   have hw:IntKind.u8.wrap ((c.toNat:Int)-48)=((c.toNat-48:Nat):Int):=by
    simp only [IntKind.wrap,IntKind.bits,IntKind.signed];simp;omega
   have hb:min J7 (10*m+(c.toNat-48))≤1000000000000:=Nat.min_le_left _ _
   have hm:=Ye m (c.toNat-48)
   generalize min J7 (10*m+(c.toNat-48))=q at *
   replace hm:=Hid.mk hm
   repeat' (first|refine zV ?_|(refine isR ?_;first|refine VF ?_|refine UO (q:Int) (h:=hm.1) ?_)|refine zW ?_|(refine zs ?_ ?_<;>intro hc)|exact ai)
   refine ⟨⟨by omega,hq.on e2 hd⟩,hk2,?_⟩
   rw [e3]
   exact (by exact ai)
  | false =>
   have hn:¬ (t.all gU=true∧t≠[]):=fun hh=>by
    have:=List.all_eq_true.1 hh.1 c (List.mem_of_getElem? e2)
    rw [hd] at this;cases this
   rw [if_neg hn]
   unfold gU at hd
   simp only [Bool.and_eq_false_iff,decide_eq_false_iff_not] at hd
   repeat' (first|refine zW ?_|(refine zs ?_ ?_<;>intro hc)|exact ai)
   all_goals first|rfl|(exfalso;omega)
 ·have hall:t.all gU=true:=hq.all hk2
  have e0:t.take k=t:=List.take_of_length_le (by omega)
  rw [e0]
  rw [e0] at hs
  by_cases h0:t=[]
  ·rw [if_neg (fun hh=>hh.2 h0)]
   have e4:wT t=0:=by rw [h0];exact O1
   rw [e4]
   cases minus
   ·repeat' (first|refine zV ?_|(refine isR ?_;refine PE ?_)|refine zW ?_|(refine zs ?_ ?_<;>intro hc)|exact ai)
    rfl
   ·repeat' (first|refine zV ?_|(refine isR ?_;refine PE ?_)|refine zW ?_|(refine zs ?_ ?_<;>intro hc)|exact ai)
    rfl
  ·rw [if_pos ⟨hall,h0⟩]
   generalize wT t=m at *
   cases minus
   ·repeat' (first|refine zV ?_|(refine isR ?_;refine PE ?_)|refine zW ?_|(refine zs ?_ ?_<;>intro hc)|exact ai)
    rfl
   ·repeat' (first|refine zV ?_|(refine isR ?_;refine PE ?_)|refine zW ?_|(refine zs ?_ ?_<;>intro hc)|exact ai)
    rfl
abbrev mkV (f:From) (now:Int) (m:Mk):Abs.V:=.agg [au m.c.name,au m.c.value,au m.c.domain,au m.c.path,.bool m.c.hostOnly,.bool m.c.secure,.bool m.c.httpOnly,.bool m.c.lasting,.int .i64 m.c.site,.int .i64 m.c.expiry,.int .i64 m.c.created,.int .i64 m.c.used,.int .i64 m.c.no,au f.host,au f.path,.bool f.secure,.bool f.script,.bool f.abroad,.int .i64 now,.bool m.aged,.bool m.told,.bool m.deep]
abbrev L9 (f:From) (now:Int) (m:Mk):Blk:=.els 181 22 [mkV f now m]
theorem KR {g:iJ} (hg:vM g) {m:Mk} {a:Attr} (ha:a.value.length≤140737488355328) (hf:f.path.length≤400) (hnow:isB now=true):aR Tryz.prog g 134 [.loc 0 0 0,a.v] [L9 f now m] (.tup []) [some (L9 f now (bN f now m a))]:=by
 have c1:=CJ hg (s:=a.value)
 have c2:=ade (s:=a.value) ha
 have c3:=IL (l:=a.value) (m:=[46])
 have c4:=qm (l:=(dH a.value [46]).1)
 have c5:=Gn hf
 have c6:=fZ (l:=a.value) (m:=[47])
 have c7:=qm (l:=a.value)
 have c8:=G8 (s:=(yV a.value).1) hnow
 have ed:MH a.value=(dH a.value [46]).1:=rfl
 have es:RP a.value=if fold a.value=([110,111,110,101]:List UInt8) then 1 else if fold a.value=([108,97,120]:List UInt8) then 2 else if fold a.value=([115,116,114,105,99,116]:List UInt8) then 3 else 0:=rfl
 unfold bN
 rw [ed,es]
 obtain ⟨n,v⟩:=a
 obtain ⟨f1,f2,f3,f4,f5⟩:=f
 obtain ⟨⟨d1,d2,d3,d4,d5,d6,d7,d8,d9,d10,d11,d12,d13⟩,m1,m2,m3⟩:=m
 dsimp only at *
 generalize bD v=q1 at *
 generalize yV v=q2 at *
 generalize dH v [46]=q3 at *
 generalize rY.dflt f2=q4 at *
 generalize pre v [47]=q5 at *
 generalize fold v=q6 at *
 generalize fold q3.1=q7 at *
 generalize ig now q2.1=q8 at *
 obtain ⟨q11,q12⟩:=q1
 obtain ⟨q21,q22⟩:=q2
 obtain ⟨q31,q32⟩:=q3
 dsimp only at *
 by_cases h1:n=([101,120,112,105,114,101,115]:List UInt8)
 ·rw [if_pos (show n=qZ from h1)]
  by_cases h:q12=0
  ·rw [if_pos h]
   cases m1
   ·refine bJ af Tryz.func134 rfl Tryz.ntmps134 Tryz.results134 rfl rfl rfl rfl fun N pl=>?_
    repeat' (first|refine zV ?_|(refine isR ?_;refine zk c1 ?_)|refine zW ?_|refine aA [0] ?_ ?_|exact ai)
    ·rfl
    ·exact .on (.ren rfl) .nil
   ·refine bJ af Tryz.func134 rfl Tryz.ntmps134 Tryz.results134 rfl rfl rfl rfl fun N pl=>?_
    repeat' (first|refine zV ?_|(refine isR ?_;refine zk c1 ?_)|refine zW ?_|refine aA [0] ?_ ?_|exact ai)
    ·rfl
    ·exact .on (.ren rfl) .nil
  ·rw [if_neg h]
   refine bJ af Tryz.func134 rfl Tryz.ntmps134 Tryz.results134 rfl rfl rfl rfl fun N pl=>?_
   repeat' (first|refine zV ?_|(refine isR ?_;refine zk c1 ?_)|refine zW ?_|refine aA [0] ?_ ?_|exact ai)
   ·rfl
   ·exact .on (.ren rfl) .nil
 rw [if_neg (show ¬ n=qZ from h1)]
 by_cases h2:n=([109,97,120,45,97,103,101]:List UInt8)
 ·rw [if_pos (show n=o9 from h2)]
  cases q22
  ·rw [if_neg (by decide)]
   refine bJ af Tryz.func134 rfl Tryz.ntmps134 Tryz.results134 rfl rfl rfl rfl fun N pl=>?_
   repeat' (first|refine zV ?_|(refine isR ?_;refine zk c2 ?_)|refine zW ?_|refine aA [0] ?_ ?_|exact ai)
   ·rfl
   ·exact .on (.ren rfl) .nil
  ·rw [if_pos rfl]
   by_cases h:0<q21
   ·rw [if_pos h]
    refine bJ af Tryz.func134 rfl Tryz.ntmps134 Tryz.results134 rfl rfl rfl rfl fun N pl=>?_
    repeat' (first|refine zV ?_|(refine isR ?_;first|refine zk c2 ?_|refine zk c8 ?_)|refine zW ?_|refine aA [0] ?_ ?_|exact ai)
    ·rfl
    ·exact .on (.ren rfl) .nil
   ·rw [if_neg h]
    refine bJ af Tryz.func134 rfl Tryz.ntmps134 Tryz.results134 rfl rfl rfl rfl fun N pl=>?_
    repeat' (first|refine zV ?_|(refine isR ?_;first|refine zk c2 ?_|refine zk c8 ?_)|refine zW ?_|refine aA [0] ?_ ?_|exact ai)
    ·rfl
    ·exact .on (.ren rfl) .nil
 rw [if_neg (show ¬ n=o9 from h2)]
 by_cases h3:n=([100,111,109,97,105,110]:List UInt8)
 ·rw [if_pos (show n=rQ from h3)]
  by_cases h:q31=[]
  ·rw [if_pos h]
   refine bJ af Tryz.func134 rfl Tryz.ntmps134 Tryz.results134 rfl rfl rfl rfl fun N pl=>?_
   repeat' (first|refine zV ?_|(refine isR ?_;refine zk c3 ?_)|refine zW ?_|refine aA [0] ?_ ?_|exact ai)
   ·rfl
   ·exact .on (.ren rfl) .nil
  ·rw [if_neg h]
   refine bJ af Tryz.func134 rfl Tryz.ntmps134 Tryz.results134 rfl rfl rfl rfl fun N pl=>?_
   repeat' (first|refine zV ?_|(refine isR ?_;first|refine zk c3 ?_|refine zk c4 ?_)|refine zW ?_|refine aA [0] ?_ ?_|exact ai)
   ·rfl
   ·exact .on (.ren rfl) .nil
 rw [if_neg (show ¬ n=rQ from h3)]
 by_cases h4:n=([112,97,116,104]:List UInt8)
 ·rw [if_pos (show n=kS from h4)]
  cases q5
  ·rw [if_neg (by decide)]
   refine bJ af Tryz.func134 rfl Tryz.ntmps134 Tryz.results134 rfl rfl rfl rfl fun N pl=>?_
   repeat' (first|refine zV ?_|(refine isR ?_;first|refine zk c5 ?_|refine zk c6 ?_)|refine zW ?_|refine aA [0] ?_ ?_|exact ai)
   ·rfl
   ·exact .on (.ren rfl) .nil
  ·rw [if_pos rfl]
   refine bJ af Tryz.func134 rfl Tryz.ntmps134 Tryz.results134 rfl rfl rfl rfl fun N pl=>?_
   repeat' (first|refine zV ?_|(refine isR ?_;first|refine zk c5 ?_|refine zk c6 ?_)|refine zW ?_|refine aA [0] ?_ ?_|exact ai)
   ·rfl
   ·exact .on (.ren rfl) .nil
 rw [if_neg (show ¬ n=kS from h4)]
 by_cases h5:n=([115,101,99,117,114,101]:List UInt8)
 ·rw [if_pos (show n=uY from h5)]
  refine bJ af Tryz.func134 rfl Tryz.ntmps134 Tryz.results134 rfl rfl rfl rfl fun N pl=>?_
  repeat' (first|refine zW ?_|refine aA [0] ?_ ?_|exact ai)
  ·rfl
  ·exact .on (.ren rfl) .nil
 rw [if_neg (show ¬ n=uY from h5)]
 by_cases h6:n=([104,116,116,112,111,110,108,121]:List UInt8)
 ·rw [if_pos (show n=lV from h6)]
  refine bJ af Tryz.func134 rfl Tryz.ntmps134 Tryz.results134 rfl rfl rfl rfl fun N pl=>?_
  repeat' (first|refine zW ?_|refine aA [0] ?_ ?_|exact ai)
  ·rfl
  ·exact .on (.ren rfl) .nil
 rw [if_neg (show ¬ n=lV from h6)]
 by_cases h7:n=([115,97,109,101,115,105,116,101]:List UInt8)
 ·rw [if_pos (show n=mW from h7)]
  by_cases s1:q6=([110,111,110,101]:List UInt8)
  ·have s2:¬ q6=([108,97,120]:List UInt8):=by rw [s1];decide
   have s3:¬ q6=([115,116,114,105,99,116]:List UInt8):=by rw [s1];decide
   rw [if_pos s1]
   have s1:=s1.symm
   have s2:=fun e=>s2 (Eq.symm e)
   have s3:=fun e=>s3 (Eq.symm e)
   refine bJ af Tryz.func134 rfl Tryz.ntmps134 Tryz.results134 rfl rfl rfl rfl fun N pl=>?_
   repeat' (first|with_reducible refine aQ ?_|with_reducible refine aO 5 ?_|refine zV ?_|(refine isR ?_;refine zk c7 ?_)|refine zW ?_|refine aA [0] ?_ ?_|exact ai)
   ·rfl
   ·exact .on (.ren rfl) .nil
  rw [if_neg s1]
  by_cases s2:q6=([108,97,120]:List UInt8)
  ·have s3:¬ q6=([115,116,114,105,99,116]:List UInt8):=by rw [s2];decide
   rw [if_pos s2]
   have s1:=fun e=>s1 (Eq.symm e)
   have s2:=s2.symm
   have s3:=fun e=>s3 (Eq.symm e)
   refine bJ af Tryz.func134 rfl Tryz.ntmps134 Tryz.results134 rfl rfl rfl rfl fun N pl=>?_
   repeat' (first|with_reducible refine aQ ?_|with_reducible refine aO 5 ?_|refine zV ?_|(refine isR ?_;refine zk c7 ?_)|refine zW ?_|refine aA [0] ?_ ?_|exact ai)
   ·rfl
   ·exact .on (.ren rfl) .nil
  rw [if_neg s2]
  by_cases s3:q6=([115,116,114,105,99,116]:List UInt8)
  ·rw [if_pos s3]
   have s1:=fun e=>s1 (Eq.symm e)
   have s2:=fun e=>s2 (Eq.symm e)
   have s3:=s3.symm
   refine bJ af Tryz.func134 rfl Tryz.ntmps134 Tryz.results134 rfl rfl rfl rfl fun N pl=>?_
   repeat' (first|with_reducible refine aQ ?_|with_reducible refine aO 5 ?_|refine zV ?_|(refine isR ?_;refine zk c7 ?_)|refine zW ?_|refine aA [0] ?_ ?_|exact ai)
   ·rfl
   ·exact .on (.ren rfl) .nil
  rw [if_neg s3]
  have s1:=fun e=>s1 (Eq.symm e)
  have s2:=fun e=>s2 (Eq.symm e)
  have s3:=fun e=>s3 (Eq.symm e)
  refine bJ af Tryz.func134 rfl Tryz.ntmps134 Tryz.results134 rfl rfl rfl rfl fun N pl=>?_
  repeat' (first|with_reducible refine aQ ?_|with_reducible refine aO 5 ?_|refine zV ?_|(refine isR ?_;refine zk c7 ?_)|refine zW ?_|refine aA [0] ?_ ?_|exact ai)
  ·rfl
  ·exact .on (.ren rfl) .nil
 rw [if_neg (show ¬ n=mW from h7)]
 refine bJ af Tryz.func134 rfl Tryz.ntmps134 Tryz.results134 rfl rfl rfl rfl fun N pl=>?_
 repeat' (first|refine zW ?_|refine aA [0] ?_ ?_|exact ai)
 ·rfl
 ·exact .on (.ren rfl) .nil
end Zx
namespace TT
open Abs bP bR cZ kR
variable {r:Raw} {s:List UInt8}
theorem uD:bA r=0↔qW r.name=true∧nQ r.value=true∧(∀ a∈r.attrs,okA a=true)∧r.attrs.length≤12:=by
 unfold bA
 constructor
 ·intro h
  split at h
  ·rename_i h1
   rw [Bool.and_eq_true,Bool.and_eq_true,List.all_eq_true] at h1
   split at h
   ·cases h
   ·exact ⟨h1.1,h1.2.1,h1.2.2,by omega⟩
  ·cases h
 ·rintro ⟨h1,h2,h3,h4⟩
  have:(qW r.name&&(nQ r.value&&r.attrs.all okA))=true:=by
   rw [Bool.and_eq_true,Bool.and_eq_true,List.all_eq_true];exact ⟨h1,h2,h3⟩
  rw [if_pos this,if_neg (by omega)]
theorem Yw {p:List UInt8} {r:List (List UInt8)} (h1:s.length≤400) (h2:mJ s=true) (h3:split 59 s=p::r):vP s=if (fB p).2.2=false∨(fB p).1=[] then (Ec,1) else if 12<(r.filterMap bN).length then (Ec,2) else (⟨(fB p).1,(fB p).2.1,r.filterMap bN⟩,0):=by
 unfold vP;rw [if_neg (by omega),if_neg (by rw [h2];simp),h3]
theorem XQ (h:vP s=(r,0)):s.length≤400∧mJ s=true∧∃ p q,split 59 s=p::q∧(fB p).2.2=true∧(fB p).1≠[]∧(q.filterMap bN).length≤12∧r=⟨(fB p).1,(fB p).2.1,q.filterMap bN⟩:=by
 by_cases h0:400<s.length
 ·unfold vP at h;rw [if_pos h0] at h;cases h
 cases hle:mJ s with
 | false=>unfold vP at h;rw [if_neg h0,if_pos hle] at h;cases h
 | true =>
  cases hs:split 59 s with
  | nil=>exact absurd hs (Cj 59 s)
  | cons p q =>
   rw [Yw (by omega) hle hs] at h
   refine ⟨by omega,rfl,p,q,rfl,?_⟩
   split at h
   ·cases h
   rename_i h1
   split at h
   ·cases h
   rename_i h2
   injection h with h3 _
   exact ⟨by simpa using fun e=>h1 (.inl e),fun e=>h1 (.inr e),by omega,h3.symm⟩
theorem NR (h:vP s=(r,0)):r.name.length≤400∧r.value.length≤400∧∀ a∈r.attrs,a.name.length≤400∧a.value.length≤400:=by
 obtain ⟨h1,h2,p,q,h3,h4,h5,h6,rfl⟩:=XQ h
 have hl:∀ x∈split 59 s,x.length≤s.length:=bP.Be fun _ _=>trivial
 have hp:=KI p
 have hpl:=hl p (by rw [h3];simp)
 refine ⟨by show (fB p).1.length≤400;omega,by show (fB p).2.1.length≤400;omega,fun a ha=>?_⟩
 obtain ⟨x,hx,e⟩:=List.mem_filterMap.1 ha
 have hx2:=KI x
 have hxl:=hl x (by rw [h3];simp [hx])
 unfold bN at e
 split at e<;>cases e
 have hf:(fold (fB x).1).length=(fB x).1.length:=wu _
 exact ⟨by show (fold (fB x).1).length≤400;omega,by show (fB x).2.1.length≤400;omega⟩
end TT
namespace Ue
open Abs bP bR cZ dh eB Cz jW jI nL yR iA
variable {L:List aG} {now:Int} {f:From} {r:Raw}
theorem Hr (h:(jo L r f now).2=0):fT.bA L=0∧kR.bA r=0∧fH f now=0∧(nO L f (iX r f now)).1=0∧Qw f (nO L f (iX r f now)).2=false∧(jo L r f now).1=(nO L f (iX r f now)).2.c:=by
 unfold jo at h ⊢
 by_cases h1:fT.bA L=0
 ·rw [if_neg (fun hn=>hn h1)] at h ⊢
  by_cases h2:kR.bA r=0
  ·rw [if_neg (fun hn=>hn h2)] at h ⊢
   by_cases h3:fH f now=0
   ·rw [if_neg (fun hn=>hn h3)] at h ⊢
    unfold aaJ at h ⊢
    by_cases h4:(nO L f (iX r f now)).1=0
    ·rw [if_neg (fun hn=>hn h4)] at h ⊢
     cases h5:Qw f (nO L f (iX r f now)).2 with
     | false=>exact ⟨h1,h2,h3,h4,rfl,rfl⟩
     | true=>rw [h5,if_pos rfl] at h;exact absurd h (by decide)
    ·rw [if_pos h4] at h;exact absurd h h4
   ·rw [if_pos h3] at h;exact absurd h h3
  ·rw [if_pos h2] at h;exact absurd h h2
 ·rw [if_pos h1] at h;exact absurd (by simpa using h) h1
structure ZI (L:List aG) (f:From) (m n:Mk):Prop where
 name:n.c.name=m.c.name
 path:n.c.path=m.c.path
 sec:n.c.secure=m.c.secure
 http:n.c.httpOnly=m.c.httpOnly
 told:n.told=m.told
 deep:n.deep=m.deep
 expiry:n.c.expiry=m.c.expiry
 lasting:n.c.lasting=m.c.lasting
 owner:(n.c.hostOnly=true∧n.c.domain=f.host)∨(n.c.hostOnly=false∧fT.cu n.c.domain=true∧fT.xV L n.c.domain≠n.c.domain∧kK f.host n.c.domain=true∧m.told=true)
theorem aaE {m:Mk} (h:(nO L f m).1=0) (h0:m.c.hostOnly=false):ZI L f m (nO L f m).2:=by
 unfold nO at h ⊢
 by_cases h1:m.told=false
 ·rw [if_pos h1]
  exact ⟨rfl,rfl,rfl,rfl,rfl,rfl,rfl,rfl,.inl ⟨rfl,rfl⟩⟩
 ·rw [if_neg h1] at h ⊢
  by_cases h2:fT.cu m.c.domain=false
  ·rw [if_pos h2] at h;exact absurd h (show ¬ (1:Int)=0 by decide)
  ·rw [if_neg h2] at h ⊢
   by_cases h3:fT.xV L m.c.domain=m.c.domain
   ·rw [if_pos h3] at h ⊢
    by_cases h4:m.c.domain=f.host
    ·exact ⟨rfl,rfl,rfl,rfl,rfl,rfl,rfl,rfl,.inl ⟨rfl,h4⟩⟩
    ·dsimp only at h
     rw [if_neg h4] at h;exact absurd h (by decide)
   ·rw [if_neg h3] at h ⊢
    by_cases h4:kK f.host m.c.domain=true
    ·exact ⟨rfl,rfl,rfl,rfl,rfl,rfl,rfl,rfl,.inr ⟨h0,by simpa using h2,h3,h4,by simpa using h1⟩⟩
    ·dsimp only at h
     rw [if_neg h4] at h;exact absurd h (by decide)
theorem NJ (r:Raw) (f:From) (now:Int):(iX r f now).c.hostOnly=false∧(iX r f now).c.name=r.name:=by
 unfold iX
 rw [Nv]
 exact ⟨rfl,rfl⟩
theorem Mj (h:(jo L r f now).2=0):ZI L f (iX r f now) (nO L f (iX r f now)).2:=aaE (Hr h).2.2.2.1 (NJ r f now).1
theorem Gt (h:(jo L r f now).2=0):((jo L r f now).1.hostOnly=true∧(jo L r f now).1.domain=f.host)∨((jo L r f now).1.hostOnly=false∧kK f.host (jo L r f now).1.domain=true∧fT.cu (jo L r f now).1.domain=true∧fT.xV L (jo L r f now).1.domain≠(jo L r f now).1.domain):=by
 have ho:=(Mj h).owner
 rw [(Hr h).2.2.2.2.2]
 rcases ho with ho|⟨h1,h2,h3,h4,_⟩
 ·exact .inl ho
 ·exact .inr ⟨h1,h4,h2,h3⟩
structure Alike (m n:Mk):Prop where
 name:n.c.name=m.c.name
 domain:n.c.domain=m.c.domain
 path:n.c.path=m.c.path
 host:n.c.hostOnly=m.c.hostOnly
 sec:n.c.secure=m.c.secure
 http:n.c.httpOnly=m.c.httpOnly
 told:n.told=m.told
 deep:n.deep=m.deep
end Ue
end Go.Proofs.YtlfdjpgghiemfaaGreatDoor
