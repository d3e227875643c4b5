/- Texts of the proof, joined: DateA, ClockW. -/
import Derived.Test.YtlfdjpgghiemfaaGreatDoorH42
set_option maxHeartbeats 4000000
set_option maxRecDepth 100000
namespace Go.Proofs.YtlfdjpgghiemfaaGreatDoor
section
namespace tH
open Abs bX dn cu iR dV
def Xj (n:Int):Bool:=decide (n=9)||(decide (32≤n)&&decide (n≤47))||(decide (59≤n)&&decide (n≤64))||(decide (91≤n)&&decide (n≤96))||(decide (123≤n)&&decide (n≤126))
def Av (c:UInt8):Bool:=Xj (c.toNat:Int)
def gP (cur:List UInt8):List UInt8→List (List UInt8)
 | []=>if cur=[] then [] else [cur]
 | c::r=>if Av c then (if cur=[] then gP [] r else cur::gP [] r) else gP (cur++[c]) r
def jE (s:List UInt8):List (List UInt8):=gP [] s
def eY (c:UInt8):UInt8:=if 126<c.toNat then 122 else c
def bN (w:List UInt8) (lo hi:Nat):Int × List UInt8 × Bool:=if hi<(lead w).length then (0,[],false) else ((value (lead w):Nat),w.drop (lead w).length,decide (lo≤(lead w).length))
structure RD where
 y:Int
 m:Int
 d:Int
 h:Int
 mi:Int
 s:Int
 f0:Bool
 f1:Bool
 f2:Bool
 f3:Bool
abbrev RD.v (r:RD):V:=.agg [.int .i64 r.y,.int .i64 r.m,.int .i64 r.d,.int .i64 r.h,.int .i64 r.mi,.int .i64 r.s,.bool r.f0,.bool r.f1,.bool r.f2,.bool r.f3]
def rd0:RD:=⟨0,0,0,0,0,0,false,false,false,false⟩
def dN (w:List UInt8) (h mi s:Int):Bool × Int × Int × Int :=
 if (bN w 1 2).2.2=false then (false,h,mi,s) else
 if (dJ (bN w 1 2).2.1 [58]).2=false then (false,(bN w 1 2).1,mi,s) else
 if (bN (dJ (bN w 1 2).2.1 [58]).1 1 2).2.2=false then (false,(bN w 1 2).1,mi,s) else
 if (dJ (bN (dJ (bN w 1 2).2.1 [58]).1 1 2).2.1 [58]).2=false then (false,(bN w 1 2).1,(bN (dJ (bN w 1 2).2.1 [58]).1 1 2).1,s) else
 if (bN (dJ (bN (dJ (bN w 1 2).2.1 [58]).1 1 2).2.1 [58]).1 1 2).2.2=false then (false,(bN w 1 2).1,(bN (dJ (bN w 1 2).2.1 [58]).1 1 2).1,s) else
 (true,(bN w 1 2).1,(bN (dJ (bN w 1 2).2.1 [58]).1 1 2).1,(bN (dJ (bN (dJ (bN w 1 2).2.1 [58]).1 1 2).2.1 [58]).1 1 2).1)
def months:List (List UInt8):=[([106,97,110]:List UInt8),([102,101,98]:List UInt8),([109,97,114]:List UInt8),([97,112,114]:List UInt8),([109,97,121]:List UInt8),([106,117,110]:List UInt8),([106,117,108]:List UInt8),([97,117,103]:List UInt8),([115,101,112]:List UInt8),([111,99,116]:List UInt8),([110,111,118]:List UInt8),([100,101,99]:List UInt8)]
def iK (w:List UInt8):Nat:=if w.length<3 then 0 else match months.findIdx? (fun m=>fold (w.take 3)==m) with
 | some i=>i+1
 | none=>0
def vg (n:Int):Int:=if n<70 then n+2000 else if n<100 then n+1900 else n
def kH (r:RD) (w:List UInt8):RD :=
 if !r.f0&&(dN w r.h r.mi r.s).1 then { r with h:=(dN w r.h r.mi r.s).2.1,mi:=(dN w r.h r.mi r.s).2.2.1,s:=(dN w r.h r.mi r.s).2.2.2,f0:=true } else
 if !r.f1&&(bN w 1 2).2.2 then { r with d:=(bN w 1 2).1,f1:=true } else
 if !r.f2&&decide (0<iK w) then { r with m:=(iK w:Nat),f2:=true } else
 if !r.f3&&(bN w 2 4).2.2 then { r with y:=vg (bN w 2 4).1,f3:=true } else r
theorem SQ (w:List UInt8) (n:Nat) (h:(lead w).length≤n):value (lead w)<10^n:=by
 have h1:=xX _ (Bp w)
 have h2:10^(lead w).length≤10^n:=Nat.pow_le_pow_right (by decide) h
 omega
theorem Rt (w:List UInt8) (lo hi:Nat):0≤(bN w lo hi).1∧(bN w lo hi).1<(10:Nat)^hi:=by
 unfold bN
 split
 ·refine ⟨Int.le_refl _,?_⟩
  show (0:Int)<((10^hi:Nat):Int)
  exact Int.ofNat_lt.2 (Nat.pow_pos (by decide))
 ·refine ⟨Int.natCast_nonneg _,?_⟩
  show ((value (lead w):Nat):Int)<((10^hi:Nat):Int)
  exact Int.ofNat_lt.2 (SQ w hi (by omega))
end tH
namespace vK
open Go.RowKit Mem Abs bH bX dn cu iR jh dV tH KU
variable {k:Nat} {c:UInt8} {w:List UInt8}
theorem uq {n:Int}:aj Tryz.prog 227 [.int .i32 n] (.bool (Xj n)):=by
 refine aU af Tryz.func227 rfl Tryz.ntmps227 Tryz.results227 rfl fun N=>?_
 unfold Xj
 repeat' (first|refine zt ?_|(refine isR ?_;first|refine zo ?_|refine zc4 ?_|(refine zs ?_ ?_<;>intro hc))|refine zr ?_|exact ah)
 all_goals (show V.bool _=V.bool _;first|(simp [*];done)|(simp [*];omega))
theorem ZJ (hk:k≤w.length) (h:lK dB w k) (he:∀ c,w[k]? = some c→dB c=false):(lead w).length=k:=by
 rw [AR hk h he,List.length_take,Nat.min_eq_left hk]
theorem Q5 (h:lK dB w k) (hc:w[k]? = some c) (hd:dB c=true):k<(lead w).length:=by
 induction w generalizing k with
 | nil=>simp at hc
 | cons b r ih =>
  unfold lead
  cases k with
  | zero =>
   simp at hc;subst hc
   rw [List.takeWhile_cons,if_pos hd];simp
  | succ k =>
   rw [List.takeWhile_cons,if_pos (h 0 b (by omega) rfl)]
   have:=ih (k:=k) (fun j y hj hy=>h (j+1) y (by omega) (by simpa using hy)) (by simpa using hc)
   unfold lead at this
   simp;omega
theorem Nc (h:w[k]? = some c):value (w.take (k+1))=10*value (w.take k)+(c.toNat-48):=by
 obtain ⟨hk,rfl⟩:=List.getElem?_eq_some_iff.1 h
 rw [List.take_succ_eq_append_getElem hk,qo]
theorem LA (h:lK dB w k) (hk:k≤4):value (w.take k)<10000:=by
 have h1:=xX _ (zi h)
 have h2:10^(w.take k).length≤10^4:=Nat.pow_le_pow_right (by decide) (by simp;omega)
 omega
theorem rq {lo hi:Nat} (_hlo:lo≤4) (hhi:hi≤4):aj Tryz.prog 263 [au w,.int .i64 (lo:Int),.int .i64 (hi:Int)] (.tup [.int .i64 (bN w lo hi).1,au (bN w lo hi).2.1,.bool (bN w lo hi).2.2]):=aj.lim fun hl=>by
 obtain ⟨hl,_⟩:=bH.gK hl
 refine vS af Tryz.func263 rfl Tryz.ntmps263 Tryz.results263 rfl fun N=>?_
 repeat' (first|refine zt ?_|(refine isR ?_;first|refine zo ?_|refine zX ?_|(refine zs4 ?_ ?_<;>intro hc))|refine zr ?_|exact ah)
 refine bE (fun k=>⟨[(0,au w),(1,.int .i64 (lo:Int)),(2,.int .i64 (hi:Int)),(6,.int .i64 ((value (w.take k):Nat):Int)),(9,.int .i64 (k:Int))],[],0,47⟩) (fun k=>k≤w.length∧k≤hi∧lK dB w k) w.length 0 (by exact ah) ⟨Nat.zero_le _,Nat.zero_le _,vo⟩ ?_
 intro k ⟨hk,hk4,hq⟩
 have hv:=LA hq (by omega)
 have fin:(∀ c,w[k]? = some c→dB c=false)→bN w lo hi=(((value (w.take k):Nat):Int),w.drop k,decide (lo≤k)):=fun he=>by
  unfold bN
  rw [ZJ hk hq he,if_neg (by omega),AR hk hq he]
 by_cases hk2:k<w.length
 ·have e1:w[k]? = some w[k]:=by simp [hk2]
  have e1':w[((k:Int)+1-1).toNat]? = some w[k]:=by rw [show ((k:Int)+1-1).toNat=k by omega];exact e1
  have e2:=Nc e1
  generalize w[k]=c at e1 e1' e2
  have hc:=c.toNat_lt
  cases hd:dB c with
  | true =>
   have hn:=Ii hd
   by_cases h4:k+1≤hi
   ·have hw:IntKind.u8.wrap ((c.toNat:Int)-48)=((c.toNat-48:Nat):Int):=by
     simp only [IntKind.wrap,IntKind.bits,IntKind.signed];simp;omega
    generalize hm:value (w.take k)=m at *
    rw [e2]
    repeat' (first|refine zt ?_|(refine isR ?_;first|refine zo ?_|refine S9 ?_|refine zX ?_|(refine zs4 ?_ ?_<;>intro hc))|refine zr ?_|exact ah)
    refine ⟨⟨by omega,h4,hq.on e1 hd⟩,hk2,?_⟩
    rw [show ((10*m+(c.toNat-48):Nat):Int)=10*(m:Int)+((c.toNat-48:Nat):Int) by omega]
    exact (by exact ah)
   ·have:hi<(lead w).length:=by have:=Q5 hq e1 hd;omega
    have e:bN w lo hi=(0,[],false):=by unfold bN;rw [if_pos this]
    rw [e]
    repeat' (first|refine zt ?_|(refine isR ?_;first|refine zo ?_|refine zX ?_|(refine zs4 ?_ ?_<;>intro hc))|refine zr ?_|exact ah)
    rfl
  | false =>
   rw [fin fun x hx=>by rw [e1] at hx;cases hx;exact hd]
   unfold dB at hd
   simp only [Bool.and_eq_false_iff,decide_eq_false_iff_not] at hd
   by_cases hlk:lo≤k
   ·rw [decide_eq_true hlk]
    repeat' (first|refine zt ?_|(refine isR ?_;first|refine zo ?_|refine zX ?_|(refine zs4 ?_ ?_<;>intro hc))|refine zr ?_|exact ah)
    all_goals first|rfl|(exfalso;omega)
   ·rw [decide_eq_false hlk]
    repeat' (first|refine zt ?_|(refine isR ?_;first|refine zo ?_|refine zX ?_|(refine zs4 ?_ ?_<;>intro hc))|refine zr ?_|exact ah)
    all_goals first|rfl|(exfalso;omega)
 ·rw [fin fun x hx=>by have:=(List.getElem?_eq_some_iff.1 hx).1;omega]
  by_cases hlk:lo≤k
  ·rw [decide_eq_true hlk]
   repeat' (first|refine zt ?_|(refine isR ?_;first|refine zo ?_|refine zX ?_|(refine zs4 ?_ ?_<;>intro hc))|refine zr ?_|exact ah)
   rfl
  ·rw [decide_eq_false hlk]
   repeat' (first|refine zt ?_|(refine isR ?_;first|refine zo ?_|refine zX ?_|(refine zs4 ?_ ?_<;>intro hc))|refine zr ?_|exact ah)
   rfl
end vK
namespace ql
open Go.RowKit Mem Abs bH bX dn cu iR jh dV tH vK KU
variable {g:iI} {r:RD} {w:List UInt8}
abbrev Au (r:RD):Blk:=.els 277 10 [r.v]
def vV (g:iI):Prop:=0<g.n∧∀ h,g.P h→∃ m T fr,h 0=some (.cells #[.int .i64 m] T fr)
theorem Tq {X:Nat→Prop} {w:World} (hg:vV g) (h:kC g X w):∃ m,w.cell? ⟨0,0,none⟩=some (.int .i64 m):=by
 obtain ⟨m,T,fr,hm⟩:=hg.2 _ h.2.2
 simp only [hg.1,if_true] at hm
 exact ⟨m,by simp [World.cell?,hm]⟩
theorem lN (hg:vV g) {l m:List UInt8} (hl:l.length<4294967281):av Tryz.prog g 223 [au l,au m] (.int .i64 (Lib.index l m)):=fun N w vs hG hN hlen hv=>by
 obtain ⟨vs⟩:=vs
 match vs,hlen with
 | [x0,x1],_ =>
  obtain ⟨rfl,h0⟩:=iJ (hv 0 _ x0 rfl rfl)
  obtain ⟨rfl,h1⟩:=iJ (hv 1 _ x1 rfl rfl)
  obtain ⟨k,hk⟩:=Tq hg hG
  refine (Tryz.strings_Index (str l) (str m) k w (by rw [aM];exact hl) hk).mono fun e w' ⟨g1,g2⟩=>⟨_,g1,g2 ▸ Below.refl _ _,?_⟩
  rw [aY,aY]
  have k1:=Lib.index_ge l m
  have k2:=Lib.index_le l m
  exact .int ⟨by simp only [rng];omega,by simp only [rng];omega⟩
theorem adM:aK Tryz.prog 248 [.loc 0 0 0,au w] [Au r] (.bool (bN w 1 2).2.2) [some (Au { r with d:=(bN w 1 2).1 })]:=by
 have c1:=rq (w:=w) (lo:=1) (hi:=2) (by decide) (by decide)
 generalize bN w 1 2=q at *
 obtain ⟨r1,r2,r3,r4,r5,r6,r7,r8,r9,r10⟩:=r
 obtain ⟨q1,q2,q3⟩:=q
 dsimp only at *
 refine bP af Tryz.func248 rfl Tryz.ntmps248 Tryz.results248 rfl rfl rfl rfl fun N pl=>?_
 repeat' (first|refine zt ?_|(refine isR ?_;first|refine zo ?_|refine zk c1 ?_)|refine aA [0] ?_ ?_|exact ah)
 ·rfl
 ·exact .on (.ren rfl) .nil
theorem acg:aK Tryz.prog 250 [.loc 0 0 0,au w] [Au r] (.bool (bN w 2 4).2.2) [some (Au { r with y:=vg (bN w 2 4).1 })]:=by
 have c1:=rq (w:=w) (lo:=2) (hi:=4) (by decide) (by decide)
 have hr:=Rt w 2 4
 generalize bN w 2 4=q at *
 obtain ⟨r1,r2,r3,r4,r5,r6,r7,r8,r9,r10⟩:=r
 obtain ⟨q1,q2,q3⟩:=q
 dsimp only at *
 have hr2:q1<10000:=hr.2
 by_cases h1:q1<70
 ·rw [show vg q1=q1+2000 by unfold vg;rw [if_pos h1]]
  refine bP af Tryz.func250 rfl Tryz.ntmps250 Tryz.results250 rfl rfl rfl rfl fun N pl=>?_
  repeat' (first|refine zt ?_|(refine isR ?_;first|refine zo ?_|refine zk c1 ?_|refine zX ?_)|refine aA [0] ?_ ?_|exact ah)
  ·rfl
  ·exact .on (.ren rfl) .nil
 ·by_cases h2:q1<100
  ·rw [show vg q1=q1+1900 by unfold vg;rw [if_neg h1,if_pos h2]]
   refine bP af Tryz.func250 rfl Tryz.ntmps250 Tryz.results250 rfl rfl rfl rfl fun N pl=>?_
   repeat' (first|refine zt ?_|(refine isR ?_;first|refine zo ?_|refine zk c1 ?_|refine zX ?_)|refine aA [0] ?_ ?_|exact ah)
   ·rfl
   ·exact .on (.ren rfl) .nil
  ·rw [show vg q1=q1 by unfold vg;rw [if_neg h1,if_neg h2]]
   refine bP af Tryz.func250 rfl Tryz.ntmps250 Tryz.results250 rfl rfl rfl rfl fun N pl=>?_
   repeat' (first|refine zt ?_|(refine isR ?_;first|refine zo ?_|refine zk c1 ?_|refine zX ?_)|refine aA [0] ?_ ?_|exact ah)
   ·rfl
   ·exact .on (.ren rfl) .nil
theorem Zf:aK Tryz.prog 247 [.loc 0 0 0,au w] [Au r] (.bool (dN w r.h r.mi r.s).1) [some (Au { r with h:=(dN w r.h r.mi r.s).2.1,mi:=(dN w r.h r.mi r.s).2.2.1,s:=(dN w r.h r.mi r.s).2.2.2 })]:=by
 have c1:=rq (w:=w) (lo:=1) (hi:=2) (by decide) (by decide)
 have c2:=nQ (l:=(bN w 1 2).2.1) (m:=[58])
 have c3:=rq (w:=(dJ (bN w 1 2).2.1 [58]).1) (lo:=1) (hi:=2) (by decide) (by decide)
 have c4:=nQ (l:=(bN (dJ (bN w 1 2).2.1 [58]).1 1 2).2.1) (m:=[58])
 have c5:=rq (w:=(dJ (bN (dJ (bN w 1 2).2.1 [58]).1 1 2).2.1 [58]).1) (lo:=1) (hi:=2) (by decide) (by decide)
 unfold dN
 generalize bN (dJ (bN (dJ (bN w 1 2).2.1 [58]).1 1 2).2.1 [58]).1 1 2=q5 at *
 generalize dJ (bN (dJ (bN w 1 2).2.1 [58]).1 1 2).2.1 [58]=q4 at *
 generalize bN (dJ (bN w 1 2).2.1 [58]).1 1 2=q3 at *
 generalize dJ (bN w 1 2).2.1 [58]=q2 at *
 generalize bN w 1 2=q1 at *
 obtain ⟨r1,r2,r3,r4,r5,r6,r7,r8,r9,r10⟩:=r
 obtain ⟨q11,q12,q13⟩:=q1
 obtain ⟨q21,q22⟩:=q2
 obtain ⟨q31,q32,q33⟩:=q3
 obtain ⟨q41,q42⟩:=q4
 obtain ⟨q51,q52,q53⟩:=q5
 dsimp only at *
 cases q13
 ·rw [if_pos rfl]
  refine bP af Tryz.func247 rfl Tryz.ntmps247 Tryz.results247 rfl rfl rfl rfl fun N pl=>?_
  repeat' (first|with_reducible refine aP ?_|with_reducible refine aO 4 ?_|refine zt ?_|(refine isR ?_;first|refine zo ?_|refine zk c1 ?_|refine zX ?_)|refine aA [0] ?_ ?_|exact ah)
  ·rfl
  ·exact .on (.ren rfl) .nil
 ·rw [if_neg (by simp)]
  cases q22
  ·rw [if_pos rfl]
   refine bP af Tryz.func247 rfl Tryz.ntmps247 Tryz.results247 rfl rfl rfl rfl fun N pl=>?_
   repeat' (first|with_reducible refine aP ?_|with_reducible refine aO 4 ?_|refine zt ?_|(refine isR ?_;first|refine zo ?_|refine zk c1 ?_|refine zk c2 ?_|refine zX ?_)|refine aA [0] ?_ ?_|exact ah)
   ·rfl
   ·exact .on (.ren rfl) .nil
  ·rw [if_neg (by simp)]
   cases q33
   ·rw [if_pos rfl]
    refine bP af Tryz.func247 rfl Tryz.ntmps247 Tryz.results247 rfl rfl rfl rfl fun N pl=>?_
    repeat' (first|with_reducible refine aP ?_|with_reducible refine aO 4 ?_|refine zt ?_|(refine isR ?_;first|refine zo ?_|refine zk c1 ?_|refine zk c2 ?_|refine zk c3 ?_|refine zX ?_)|refine aA [0] ?_ ?_|exact ah)
    ·rfl
    ·exact .on (.ren rfl) .nil
   ·rw [if_neg (by simp)]
    cases q42
    ·rw [if_pos rfl]
     refine bP af Tryz.func247 rfl Tryz.ntmps247 Tryz.results247 rfl rfl rfl rfl fun N pl=>?_
     repeat' (first|with_reducible refine aP ?_|with_reducible refine aO 4 ?_|refine zt ?_|(refine isR ?_;first|refine zo ?_|refine zk c1 ?_|refine zk c2 ?_|refine zk c3 ?_|refine zk c4 ?_|refine zX ?_)|refine aA [0] ?_ ?_|exact ah)
     ·rfl
     ·exact .on (.ren rfl) .nil
    ·rw [if_neg (by simp)]
     cases q53
     ·rw [if_pos rfl]
      refine bP af Tryz.func247 rfl Tryz.ntmps247 Tryz.results247 rfl rfl rfl rfl fun N pl=>?_
      repeat' (first|with_reducible refine aP ?_|with_reducible refine aO 4 ?_|refine zt ?_|(refine isR ?_;first|refine zo ?_|refine zk c1 ?_|refine zk c2 ?_|refine zk c3 ?_|refine zk c4 ?_|refine zk c5 ?_|refine zX ?_)|refine aA [0] ?_ ?_|exact ah)
      ·rfl
      ·exact .on (.ren rfl) .nil
     ·rw [if_neg (by simp)]
      refine bP af Tryz.func247 rfl Tryz.ntmps247 Tryz.results247 rfl rfl rfl rfl fun N pl=>?_
      repeat' (first|with_reducible refine aP ?_|with_reducible refine aO 4 ?_|refine zt ?_|(refine isR ?_;first|refine zo ?_|refine zk c1 ?_|refine zk c2 ?_|refine zk c3 ?_|refine zk c4 ?_|refine zk c5 ?_|refine zX ?_)|refine aA [0] ?_ ?_|exact ah)
      ·rfl
      ·exact .on (.ren rfl) .nil
end ql
namespace DF
open Go.RowKit Mem Abs bH bX dn cu iR jh dV tH vK ql KU
def qC:List UInt8:=([106,97,110,102,101,98,109,97,114,97,112,114,109,97,121,106,117,110,106,117,108,97,117,103,115,101,112,111,99,116,110,111,118,100,101,99]:List UInt8)
theorem KO {t:List UInt8} (ht:t.length=3):(∃ i:Nat,i<12∧months.findIdx? (fun m=>t==m)=some i∧Lib.index qC t=((3*i:Nat):Int))∨(months.findIdx? (fun m=>t==m)=none∧(Lib.index qC t<0∨∃ n:Nat,Lib.index qC t=(n:Int)∧n≤36∧n % 3≠0)):=by
 by_cases hm:t∈months
 ·left
  simp only [months,List.mem_cons,List.not_mem_nil,or_false] at hm
  rcases hm with rfl|rfl|rfl|rfl|rfl|rfl|rfl|rfl|rfl|rfl|rfl|rfl
  ·exact ⟨0,by decide,by decide +kernel,by decide +kernel⟩
  ·exact ⟨1,by decide,by decide +kernel,by decide +kernel⟩
  ·exact ⟨2,by decide,by decide +kernel,by decide +kernel⟩
  ·exact ⟨3,by decide,by decide +kernel,by decide +kernel⟩
  ·exact ⟨4,by decide,by decide +kernel,by decide +kernel⟩
  ·exact ⟨5,by decide,by decide +kernel,by decide +kernel⟩
  ·exact ⟨6,by decide,by decide +kernel,by decide +kernel⟩
  ·exact ⟨7,by decide,by decide +kernel,by decide +kernel⟩
  ·exact ⟨8,by decide,by decide +kernel,by decide +kernel⟩
  ·exact ⟨9,by decide,by decide +kernel,by decide +kernel⟩
  ·exact ⟨10,by decide,by decide +kernel,by decide +kernel⟩
  ·exact ⟨11,by decide,by decide +kernel,by decide +kernel⟩
 ·right
  refine ⟨List.findIdx?_eq_none_iff.2 fun m hmm=>by simpa using fun (e:t=m)=>hm (e ▸ hmm),?_⟩
  rcases Lib.index_spec qC t with ⟨h,_⟩|⟨i,h1,h2,h3,_⟩
  ·left;omega
  ·right
   have hl:qC.length=36:=rfl
   have hroom:i+3≤36:=by
    rcases Lib.occAt_room h3 with h|h
    ·omega
    ·subst h;cases ht
   refine ⟨i,h1,by omega,fun h0=>hm ?_⟩
   rw [Lib.occAt_iff_take _ _ _ (by omega),ht,beq_iff_eq] at h3
   rw [← h3]
   rcases (show i=0∨i=3∨i=6∨i=9∨i=12∨i=15∨i=18∨i=21∨i=24∨i=27∨i=30∨i=33 by omega) with rfl|rfl|rfl|rfl|rfl|rfl|rfl|rfl|rfl|rfl|rfl|rfl<;>decide
theorem Yw {g:iI} (hg:vV g) {r:RD} {w:List UInt8}:aR Tryz.prog g 249 [.loc 0 0 0,au w] [Au r] (.bool (decide (0<iK w))) [some (Au { r with m:=if 0<iK w then (iK w:Nat) else r.m })]:=by
 obtain ⟨r1,r2,r3,r4,r5,r6,r7,r8,r9,r10⟩:=r
 dsimp only
 by_cases h3:w.length<3
 ·have e:iK w=0:=by unfold iK;rw [if_pos h3]
  rw [e]
  refine bL af Tryz.func249 rfl Tryz.ntmps249 Tryz.results249 rfl rfl rfl rfl fun N pl=>?_
  repeat' (first|refine zt ?_|(refine isR ?_;first|refine zo ?_|refine zX ?_)|refine aA [0] ?_ ?_|exact ah)
  ·rfl
  ·exact .on (.ren rfl) .nil
 ·have c1:=qh (l:=w.take 3)
  have c2:=lN hg (l:=qC) (m:=fold (w.take 3)) (by decide)
  have hlen:(fold (w.take 3)).length=3:=by rw [oM];first|(simp;done)|(simp;omega)
  have he:iK w=match months.findIdx? (fun m=>fold (w.take 3)==m) with
   | some i=>i+1
   | none=>0:=by unfold iK;rw [if_neg h3];try rfl
  rcases KO hlen with ⟨i,h1,h2,h4⟩|⟨h2,h4⟩
  ·rw [h2] at he
   rw [h4] at c2
   dsimp only at he
   rw [he,decide_eq_true (Nat.succ_pos i),if_pos (Nat.succ_pos i)]
   generalize fold (w.take 3)=t at *
   have q1:(((3*i:Nat):Int)).tmod 3=0:=by rw [Int.tmod_eq_emod_of_nonneg (by omega)];omega
   have q2:IntKind.i64.wrap ((((3*i:Nat):Int)).tdiv 3)=(i:Int):=by
    rw [show (((3*i:Nat):Int)).tdiv 3=(i:Int) by rw [Int.tdiv_eq_ediv_of_nonneg (by omega)];omega]
    exact wrap64 (by omega) (by omega)
   have q3:InR .i64 0:=oo _
   have q4:((i:Int)+1)=((i+1:Nat):Int):=by omega
   have q5:(0:Int)≤((3*i:Nat):Int):=by omega
   generalize hn:((3*i:Nat):Int)=n at *
   refine bL af Tryz.func249 rfl Tryz.ntmps249 Tryz.results249 rfl rfl rfl rfl fun N pl=>?_
   repeat' (first|refine zt ?_|(refine isR ?_;first|refine zo ?_|refine zk c1 ?_|refine zk c2 ?_|refine Vf ?_|refine aac ?_|refine zX ?_)|refine aA [0] ?_ ?_|exact ah)
   ·rfl
   ·exact .on (.ren rfl) .nil
  ·rw [h2] at he
   dsimp only at he
   rw [he]
   rcases h4 with h4|⟨n,h4,h5,h6⟩
   ·generalize Lib.index qC (fold (w.take 3))=k at *
    generalize fold (w.take 3)=t at *
    refine bL af Tryz.func249 rfl Tryz.ntmps249 Tryz.results249 rfl rfl rfl rfl fun N pl=>?_
    repeat' (first|refine zt ?_|(refine isR ?_;first|refine zo ?_|refine zk c1 ?_|refine zk c2 ?_|refine zX ?_)|refine aA [0] ?_ ?_|exact ah)
    ·rfl
    ·exact .on (.ren rfl) .nil
   ·rw [h4] at c2
    generalize fold (w.take 3)=t at *
    have q1:((n:Nat):Int).tmod 3=((n % 3:Nat):Int):=by rw [Int.tmod_eq_emod_of_nonneg (by omega)];omega
    have q3:InR .i64 ((n % 3:Nat):Int):=⟨by simp only [rng];omega,by simp only [rng];omega⟩
    have q4:¬ ((n % 3:Nat):Int)=0:=by omega
    refine bL af Tryz.func249 rfl Tryz.ntmps249 Tryz.results249 rfl rfl rfl rfl fun N pl=>?_
    repeat' (first|refine zt ?_|(refine isR ?_;first|refine zo ?_|refine zk c1 ?_|refine zk c2 ?_|refine Vf ?_|refine zX ?_)|refine aA [0] ?_ ?_|exact ah)
    ·rfl
    ·exact .on (.ren rfl) .nil
end DF
namespace GA
open Go.RowKit Mem Abs bH bX dn cu iR jh dV tH vK ql DF KU
def T3 (r:RD) (w:List UInt8):RD:=if !r.f3&&(bN w 2 4).2.2 then { r with y:=vg (bN w 2 4).1,f3:=true } else r
def T2 (r:RD) (w:List UInt8):RD:=if !r.f2&&decide (0<iK w) then { r with m:=(iK w:Nat),f2:=true } else T3 r w
def T1 (r:RD) (w:List UInt8):RD:=if !r.f1&&(bN w 1 2).2.2 then { r with d:=(bN w 1 2).1,f1:=true } else T2 r w
theorem XZ (r:RD) (w:List UInt8):kH r w=if !r.f0&&(dN w r.h r.mi r.s).1 then { r with h:=(dN w r.h r.mi r.s).2.1,mi:=(dN w r.h r.mi r.s).2.2.1,s:=(dN w r.h r.mi r.s).2.2.2,f0:=true } else T1 r w:=rfl
def Tk (r:RD) (w:List UInt8):Nat→RD
 | 0=>kH r w
 | 1=>T1 r w
 | 2=>T2 r w
 | 3=>T3 r w
 | _=>r
abbrev acS (r:RD):Abs.V:=.agg [.int .i64 r.y,.int .i64 r.m,.int .i64 r.d,.int .i64 r.h,.int .i64 r.mi,.int .i64 r.s]
abbrev bound (f:Nat):Abs.V:=.fn (.func f) [.loc 0 0 0] []
theorem aaB {g:iI} (hg:vV g) {r:RD} {w:List UInt8}:aR Tryz.prog g 228 [.loc 0 0 0,au w] [Au r] (.tup []) [some (Au (kH r w))]:=by
 have c0:=Zf (r:=r) (w:=w)
 have c1:=adM (r:=r) (w:=w)
 have c2:=Yw hg (r:=r) (w:=w)
 have c3:=acg (r:=r) (w:=w)
 have t0:Tk r w 0=kH r w:=rfl
 have t1:=XZ r w
 have t2:T1 r w=if !r.f1&&(bN w 1 2).2.2 then { r with d:=(bN w 1 2).1,f1:=true } else T2 r w:=rfl
 have t3:T2 r w=if !r.f2&&decide (0<iK w) then { r with m:=(iK w:Nat),f2:=true } else T3 r w:=rfl
 have t4:T3 r w=if !r.f3&&(bN w 2 4).2.2 then { r with y:=vg (bN w 2 4).1,f3:=true } else r:=rfl
 have u1:Tk r w 1=T1 r w:=rfl
 have u2:Tk r w 2=T2 r w:=rfl
 have u3:Tk r w 3=T3 r w:=rfl
 have u4:Tk r w 4=r:=rfl
 generalize kH r w=z at *
 generalize T1 r w=z1 at *
 generalize T2 r w=z2 at *
 generalize T3 r w=z3 at *
 generalize Tk r w=tk at *
 generalize dN w r.h r.mi r.s=p0 at *
 generalize bN w 1 2=p1 at *
 generalize iK w=p2 at *
 generalize bN w 2 4=p3 at *
 obtain ⟨r1,r2,r3,r4,r5,r6,r7,r8,r9,r10⟩:=r
 obtain ⟨p01,p02,p03,p04⟩:=p0
 obtain ⟨p11,p12,p13⟩:=p1
 obtain ⟨p31,p32,p33⟩:=p3
 dsimp only at *
 refine bL af Tryz.func228 rfl Tryz.ntmps228 Tryz.results228 rfl rfl rfl rfl fun N pl=>?_
 repeat' (first|refine zt ?_|(refine isR ?_;first|refine zo ?_|refine zX ?_)|exact ah)
 refine bE (fun k=>⟨[(0,.loc 0 0 0),(1,au w),(4,.loc 1 0 0),(19,.agg [bound 247,bound 248,bound 249,bound 250]),(20,.int .i64 (k:Int))],[(0,some (Au ⟨r1,r2,r3,r4,r5,r6,r7,r8,r9,r10⟩)),(1,some (.els 274 6 [acS ⟨r1,r2,r3,r4,r5,r6,r7,r8,r9,r10⟩]))],2,49⟩) (fun k=>k≤4∧tk k=z) 4 0 (by exact ah) ⟨by omega,t0⟩ ?_
 intro k ⟨hk,hq⟩
 rcases (show k=0∨k=1∨k=2∨k=3∨k=4 by omega) with rfl|rfl|rfl|rfl|rfl
 ·cases r7
  ·cases p01
   ·repeat' (first|refine zt ?_|(refine isR ?_;first|refine zo ?_|refine eZ [0] [] (c0 _) ?_|refine eZ [0] [] (c0) ?_|refine zX ?_)|exact ah)
    refine ⟨⟨by omega,?_⟩,by omega,?_⟩
    ·rw [u1,t1];rfl
    ·exact (by exact ah)
   ·repeat' (first|refine zt ?_|(refine isR ?_;first|refine zo ?_|refine eZ [0] [] (c0 _) ?_|refine eZ [0] [] (c0) ?_|refine zX ?_)|refine aA [0] ?_ ?_|exact ah)
    ·rfl
    ·rw [t1];exact .on (.ren rfl) .nil
  ·repeat' (first|refine zt ?_|(refine isR ?_;first|refine zo ?_|refine zX ?_)|exact ah)
   refine ⟨⟨by omega,?_⟩,by omega,?_⟩
   ·rw [u1,t1];rfl
   ·exact (by exact ah)
 ·rw [u1] at hq
  cases r8
  ·cases p13
   ·repeat' (first|refine zt ?_|(refine isR ?_;first|refine zo ?_|refine eZ [0] [] (c1 _) ?_|refine eZ [0] [] (c1) ?_|refine zX ?_)|exact ah)
    refine ⟨⟨by omega,?_⟩,by omega,?_⟩
    ·rw [u2,← hq,t2];rfl
    ·exact (by exact ah)
   ·repeat' (first|refine zt ?_|(refine isR ?_;first|refine zo ?_|refine eZ [0] [] (c1 _) ?_|refine eZ [0] [] (c1) ?_|refine zX ?_)|refine aA [0] ?_ ?_|exact ah)
    ·rfl
    ·rw [← hq,t2];exact .on (.ren rfl) .nil
  ·repeat' (first|refine zt ?_|(refine isR ?_;first|refine zo ?_|refine zX ?_)|exact ah)
   refine ⟨⟨by omega,?_⟩,by omega,?_⟩
   ·rw [u2,← hq,t2];rfl
   ·exact (by exact ah)
 ·rw [u2] at hq
  cases r9
  ·by_cases h0:0<p2
   ·rw [decide_eq_true h0,if_pos h0] at c2
    rw [decide_eq_true h0] at t3
    repeat' (first|refine zt ?_|(refine isR ?_;first|refine zo ?_|refine eZ [0] [] (c2 _) ?_|refine eZ [0] [] (c2) ?_|refine zX ?_)|refine aA [0] ?_ ?_|exact ah)
    ·rfl
    ·rw [← hq,t3];exact .on (.ren rfl) .nil
   ·rw [decide_eq_false h0,if_neg h0] at c2
    rw [decide_eq_false h0] at t3
    repeat' (first|refine zt ?_|(refine isR ?_;first|refine zo ?_|refine eZ [0] [] (c2 _) ?_|refine eZ [0] [] (c2) ?_|refine zX ?_)|exact ah)
    refine ⟨⟨by omega,?_⟩,by omega,?_⟩
    ·rw [u3,← hq,t3];rfl
    ·exact (by exact ah)
  ·repeat' (first|refine zt ?_|(refine isR ?_;first|refine zo ?_|refine zX ?_)|exact ah)
   refine ⟨⟨by omega,?_⟩,by omega,?_⟩
   ·rw [u3,← hq,t3];rfl
   ·exact (by exact ah)
 ·rw [u3] at hq
  cases r10
  ·cases p33
   ·repeat' (first|refine zt ?_|(refine isR ?_;first|refine zo ?_|refine eZ [0] [] (c3 _) ?_|refine eZ [0] [] (c3) ?_|refine zX ?_)|exact ah)
    refine ⟨⟨by omega,?_⟩,by omega,?_⟩
    ·rw [u4,← hq,t4];rfl
    ·exact (by exact ah)
   ·repeat' (first|refine zt ?_|(refine isR ?_;first|refine zo ?_|refine eZ [0] [] (c3 _) ?_|refine eZ [0] [] (c3) ?_|refine zX ?_)|refine aA [0] ?_ ?_|exact ah)
    ·rfl
    ·rw [← hq,t4];exact .on (.ren rfl) .nil
  ·repeat' (first|refine zt ?_|(refine isR ?_;first|refine zo ?_|refine zX ?_)|exact ah)
   refine ⟨⟨by omega,?_⟩,by omega,?_⟩
   ·rw [u4,← hq,t4];rfl
   ·exact (by exact ah)
 ·rw [u4] at hq
  repeat' (first|refine zt ?_|(refine isR ?_;first|refine zo ?_|refine zX ?_)|refine aA [0] ?_ ?_|exact ah)
  ·rfl
  ·rw [← hq];exact .on (.ren rfl) .nil
end GA
end
namespace ko
open Go.RowKit j3
variable {m y:Int}
theorem tmod_zero (y k:Int):(y.tmod k==0)=(y % k==0):=by
 rw [Bool.eq_iff_iff,beq_iff_eq,beq_iff_eq]
 rw [← Int.dvd_iff_tmod_eq_zero,← Int.dvd_iff_emod_eq_zero]
theorem P8 {k:IntKind} {a b:Int} (h:a=b):Ending.returned (.int k a) = .returned (.int k b):=by rw [h]
def Fu (y:Int):Bool:=(y.tmod 4==0&&y.tmod 100 != 0)||y.tmod 400==0
theorem JR (y:Int):Fu y=lp y:=by unfold Fu lp bne;rw [tmod_zero,tmod_zero,tmod_zero]
theorem Vn (y:Int) (w:World) :
  Calls Tryz.prog 264 #[.int .i64 y] w fun e w'=>e = .returned (.bool (Fu y))∧w=w':=by
 unfold Fu
 cases h4:(y.tmod 4==0)<;>cases h1:(y.tmod 100 != 0)<;>cases h0:(y.tmod 400==0)
 all_goals
  go_enter Tryz.func264,Tryz.ntmps264
  go_wp2
  go_ret
  exact ⟨rfl,rfl⟩
theorem X0 (h:(m==2)=true) (h2:Fu y=true):29=mH y m:=by
 rw [JR] at h2;obtain rfl:m=2:=by simpa using h
 simp [mH,lpn,h2]
theorem ZQ (h:(m==2)=true) (h2:Fu y=false):28=mH y m:=by
 rw [JR] at h2;obtain rfl:m=2:=by simpa using h
 simp [mH,lpn,h2]
theorem ZI (h:m=4∨m=6∨m=9∨m=11):mH y m=30:=by rw [mH,if_neg (by omega),if_pos h]
theorem ZX (h:m=1∨m=3∨m=5∨m=7∨m=8∨m=10∨m=12):mH y m=31:=by rw [mH,if_neg (by omega),if_neg (by omega),if_pos h]
theorem aaY (h:m<1∨12<m∨(m≠1∧m≠2∧m≠3∧m≠4∧m≠5∧m≠6∧m≠7∧m≠8∧m≠9∧m≠10∧m≠11∧m≠12)):mH y m=0:=FZ y m (by omega)
theorem Cm (y m:Int) (w:World) :
  Calls Tryz.prog 251 #[.int .i64 y,.int .i64 m] w fun e w'=>e = .returned (.int .i64 (mH y m))∧w=w':=by
 go_enter Tryz.func251,Tryz.ntmps251
 go_wp2_with (go_at_call 264;refine (Vn _ _).mono ?_;rintro e w' ⟨rfl,rfl⟩)
 all_goals
  go_ret
  refine ⟨P8 ?_,rfl⟩
  go_light
  first|exact X0 ‹_› ‹_› | exact ZQ ‹_› ‹_› | (simp only [beq_iff_eq,beq_eq_false_iff_ne,ne_eq] at *;exact (ZI (by omega)).symm)|(simp only [beq_iff_eq,beq_eq_false_iff_ne,ne_eq] at *;exact (ZX (by omega)).symm)|(simp only [beq_eq_false_iff_ne,ne_eq] at *;exact (aaY (by omega)).symm)
theorem Ox (y:Int) (w:World) (h:1≤y) (h2:y≤20000) :
  Calls Tryz.prog 252 #[.int .i64 y] w fun e w'=>e = .returned (.int .i64 (dby y))∧w=w':=by
 go_enter Tryz.func252,Tryz.ntmps252
 go_wp2
 go_ret
 exact ⟨rfl,rfl⟩
def isB (n:Int):Bool:=decide (-11644473600≤n)&&decide (n≤253402300799)
theorem acF (n:Int) (w:World) :
  Calls Tryz.prog 37 #[.int .i64 n] w fun e w'=>e = .returned (.bool (isB n))∧w=w':=by
 unfold isB
 by_cases h1 : -11644473600≤n<;>by_cases h2:n≤253402300799
 all_goals
  go_enter Tryz.func37,Tryz.ntmps37
  go_wp2
  go_ret
  exact ⟨by simp [h1,h2],rfl⟩
def fV (n s:Int):Int:=if s<0 then (if s < -11644473600-n then -11644473600 else n+s) else if 253402300799-n<s then 253402300799 else n+s
theorem Qg (n s:Int) (w:World) (h1 : -11644473600≤n) (h2:n≤253402300799) (s1 : -9223372036854775808≤s) (s2:s≤9223372036854775807) :
  Calls Tryz.prog 165 #[.int .i64 n,.int .i64 s] w fun e w'=>e = .returned (.int .i64 (fV n s))∧w=w':=by
 go_enter Tryz.func165,Tryz.ntmps165
 go_wp2
 all_goals
  go_ret
  refine ⟨P8 (b:=fV n s) ?_,rfl⟩
  go_light
  show _=fV n s
  unfold fV
  omega
end ko
end Go.Proofs.YtlfdjpgghiemfaaGreatDoor
