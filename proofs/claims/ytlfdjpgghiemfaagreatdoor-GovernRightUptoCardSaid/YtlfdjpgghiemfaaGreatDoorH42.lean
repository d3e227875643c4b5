/- Texts of the proof, joined: HeadS, ClockP, Lead. -/
import Derived.Test.YtlfdjpgghiemfaaGreatDoorH41
set_option maxHeartbeats 4000000
set_option maxRecDepth 100000
namespace Go.Proofs.YtlfdjpgghiemfaaGreatDoor
namespace aax
open Go.RowKit Mem Abs bH bX dn kZ Nl Bld Ki V4
theorem Mt (s:List UInt8):∃ p r,split 59 s=p::r:=by
 cases h:split 59 s with
 | nil=>exact absurd h (Ec 59 s)
 | cons p r=>exact ⟨p,r,rfl⟩
theorem zQ (r:List (List UInt8)) (k:Nat) (p:List UInt8) (h:r[k]? = some p):(r.take (k+1)).filterMap bQ=(r.take k).filterMap bQ++(bQ p).toList:=by
 obtain ⟨hk,rfl⟩:=List.getElem?_eq_some_iff.1 h
 rw [List.take_succ_eq_append_getElem hk,List.filterMap_append]
 congr 1
theorem Cx (r:List (List UInt8)) (k:Nat):((r.take k).filterMap bQ).length≤k :=
 Nat.le_trans (List.length_filterMap_le _ _) (by simp;omega)
abbrev SG:Abs.V:=.agg [au [],au [],.nils]
theorem DY {s:List UInt8}:aj Tryz.prog 106 [au s] (.tup [(vJ s).1.v,.int .i64 (vJ s).2]):=by
 by_cases h0:400<s.length
 ·have e:vJ s=(DI,2):=by unfold vJ;rw [if_pos h0]
  rw [e]
  refine aj.nfd (r:=.tup [SG,.int .i64 2]) ?_ rfl
  refine aU af Tryz.func106 rfl Tryz.ntmps106 Tryz.results106 rfl fun N=>?_
  repeat' (first|refine zt ?_|(refine isR ?_;first|refine zo ?_|refine zX ?_)|refine zr ?_|exact ah)
  rfl
 have c1:=Fy (s:=s)
 cases hle:mQ s with
 | false =>
  have e:vJ s=(DI,1):=by unfold vJ;rw [if_neg h0,if_pos hle]
  rw [hle] at c1
  rw [e]
  refine aj.nfd (r:=.tup [SG,.int .i64 1]) ?_ rfl
  refine aU af Tryz.func106 rfl Tryz.ntmps106 Tryz.results106 rfl fun N=>?_
  repeat' (first|refine zt ?_|(refine isR ?_;first|refine zo ?_|refine zk c1 ?_|refine zX ?_)|refine zr ?_|exact ah)
  rfl
 | true =>
  rw [hle] at c1
  have c2:=uq (u:=59) (l:=s) (by omega)
  obtain ⟨p,r,hs⟩:=Mt s
  have hlen:=jO 59 s
  rw [hs] at c2 hlen
  have e:vJ s=if (fH p).2.2=false∨(fH p).1=[] then (DI,1) else if 12<(r.filterMap bQ).length then (DI,2) else (⟨(fH p).1,(fH p).2.1,r.filterMap bQ⟩,0):=by
   unfold vJ;rw [if_neg h0,if_neg (by rw [hle];simp),hs]
  rw [e]
  have e1:((p::r).map au)[((0:Int)).toNat]? = some (au p):=rfl
  have c3:=KS (c:=61) (l:=p)
  have c4:=qX (l:=(iy 61 p).1)
  have c5:=qX (l:=(iy 61 p).2.1)
  rw [show fH p=(trim (iy 61 p).1,trim (iy 61 p).2.1,(iy 61 p).2.2) from rfl]
  dsimp only
  generalize iy 61 p=q at *
  obtain ⟨q1,q2,q3⟩:=q
  dsimp only at *
  generalize trim q1=n at *
  generalize trim q2=v at *
  cases q3 with
  | false =>
   rw [if_pos (.inl rfl)]
   refine aj.nfd (r:=.tup [SG,.int .i64 1]) ?_ rfl
   refine aU af Tryz.func106 rfl Tryz.ntmps106 Tryz.results106 rfl fun N=>?_
   repeat' (first|refine zt ?_|(refine isR ?_;first|refine zo ?_|refine zk c1 ?_|refine zk c2 ?_|refine zk c3 ?_|refine zk c4 ?_|refine zX ?_)|refine zr ?_|exact ah)
   rfl
  | true =>
   by_cases hn:n=[]
   ·rw [if_pos (.inr hn)]
    refine aj.nfd (r:=.tup [SG,.int .i64 1]) ?_ rfl
    refine aU af Tryz.func106 rfl Tryz.ntmps106 Tryz.results106 rfl fun N=>?_
    repeat' (first|refine zt ?_|(refine isR ?_;first|refine zo ?_|refine zk c1 ?_|refine zk c2 ?_|refine zk c3 ?_|refine zk c4 ?_|refine zX ?_)|refine zr ?_|exact ah)
    rfl
   ·rw [if_neg (fun h=>h.elim (fun h=>by cases h) hn)]
    have hrl:r.length≤400:=by simp at hlen;omega
    have hx:((r.map au).length:Int)=(r.length:Int):=by simp
    have hx2:(((p::r).map au).length:Int)=(r.length:Int)+1:=by simp
    have hx3:((p::r).length:Int)=(r.length:Int)+1:=by simp
    by_cases h12:12<(r.filterMap bQ).length
    ·rw [if_pos h12]
     refine aj.nfd (r:=.tup [SG,.int .i64 2]) ?_ rfl
     refine aU af Tryz.func106 rfl Tryz.ntmps106 Tryz.results106 rfl fun N=>?_
     repeat' (first|refine zt ?_|(refine isR ?_;first|refine zo ?_|refine zk c1 ?_|refine zk c2 ?_|refine zk c3 ?_|refine zk c4 ?_|refine zk c5 ?_|refine zX ?_)|refine zr ?_|exact ah)
     refine jS 0 2 60 2 rfl rfl (by decide) rfl ?_
     refine fq (fun k=>⟨[(2,.loc 0 0 0),(47,.fro (r.map au)),(48,.int .i64 (r.map au).length),(49,.int .i64 (k:Int))],[(0,some (.els 158 3 [.agg [au n,au v,.own 1 0 ((r.take k).filterMap bQ).length]])),(1,some (.els 60 2 (((r.take k).filterMap bQ).map Attr.v)))],2,80⟩) (fun k=>k≤r.length) r.length 0 (by exact ah) (Nat.zero_le _) ?_
     intro k hk
     by_cases hk2:k<r.length
     ·have f1:(r.map au)[k]? = some (au r[k]):=by simp [hk2]
      have f2:=zQ r k r[k] (by simp [hk2])
      have f3:=Cx r k
      simp only [f2]
      generalize r[k]=x at f1
      generalize (r.take k).filterMap bQ=L at f3
      have d1:=KS (c:=61) (l:=x)
      have d2:=qX (l:=(iy 61 x).1)
      have d3:=qh (l:=trim (iy 61 x).1)
      have d4:=qX (l:=(iy 61 x).2.1)
      have ha:bQ x=if fold (trim (iy 61 x).1)=[] then none else some ⟨fold (trim (iy 61 x).1),trim (iy 61 x).2.1⟩:=rfl
      rw [ha]
      generalize iy 61 x=y at *
      obtain ⟨y1,y2,y3⟩:=y
      dsimp only at *
      generalize trim y1=m at *
      generalize fold m=m2 at *
      generalize trim y2=u at *
      by_cases hm:m2=[]
      ·rw [if_pos hm]
       simp only [Option.toList_none,List.append_nil]
       repeat' (first|refine zt ?_|(refine isR ?_;first|refine zo ?_|refine zk d1 ?_|refine zk d2 ?_|refine zk d3 ?_|refine zX ?_)|refine zr ?_|exact ah)
       refine ⟨by omega,hk2,?_⟩
       exact (by exact x_len [0,1])
      ·rw [if_neg hm]
       simp only [Option.toList_some]
       repeat' (first|refine zt ?_|(refine isR ?_;first|refine zo ?_|refine zk d1 ?_|refine zk d2 ?_|refine zk d3 ?_|refine zk d4 ?_|refine kL Attr.v (a1:=(⟨m2,u⟩)) af ?_|refine zX ?_)|refine zr ?_|exact ah)
       refine ⟨by omega,hk2,?_⟩
       exact (by exact x_len [0,2])
     ·obtain rfl:k=r.length:=by omega
      rw [List.take_length]
      generalize r.filterMap bQ=L at *
      repeat' (first|refine zt ?_|(refine isR ?_;first|refine zo ?_|refine zX ?_)|refine zr ?_|exact ah)
      rfl
    ·rw [if_neg h12]
     refine aU af Tryz.func106 rfl Tryz.ntmps106 Tryz.results106 rfl fun N=>?_
     repeat' (first|refine zt ?_|(refine isR ?_;first|refine zo ?_|refine zk c1 ?_|refine zk c2 ?_|refine zk c3 ?_|refine zk c4 ?_|refine zk c5 ?_|refine zX ?_)|refine zr ?_|exact ah)
     refine jS 0 2 60 2 rfl rfl (by decide) rfl ?_
     refine fq (fun k=>⟨[(2,.loc 0 0 0),(47,.fro (r.map au)),(48,.int .i64 (r.map au).length),(49,.int .i64 (k:Int))],[(0,some (.els 158 3 [.agg [au n,au v,.own 1 0 ((r.take k).filterMap bQ).length]])),(1,some (.els 60 2 (((r.take k).filterMap bQ).map Attr.v)))],2,80⟩) (fun k=>k≤r.length) r.length 0 (by exact ah) (Nat.zero_le _) ?_
     intro k hk
     by_cases hk2:k<r.length
     ·have f1:(r.map au)[k]? = some (au r[k]):=by simp [hk2]
      have f2:=zQ r k r[k] (by simp [hk2])
      have f3:=Cx r k
      simp only [f2]
      generalize r[k]=x at f1
      generalize (r.take k).filterMap bQ=L at f3
      have d1:=KS (c:=61) (l:=x)
      have d2:=qX (l:=(iy 61 x).1)
      have d3:=qh (l:=trim (iy 61 x).1)
      have d4:=qX (l:=(iy 61 x).2.1)
      have ha:bQ x=if fold (trim (iy 61 x).1)=[] then none else some ⟨fold (trim (iy 61 x).1),trim (iy 61 x).2.1⟩:=rfl
      rw [ha]
      generalize iy 61 x=y at *
      obtain ⟨y1,y2,y3⟩:=y
      dsimp only at *
      generalize trim y1=m at *
      generalize fold m=m2 at *
      generalize trim y2=u at *
      by_cases hm:m2=[]
      ·rw [if_pos hm]
       simp only [Option.toList_none,List.append_nil]
       repeat' (first|refine zt ?_|(refine isR ?_;first|refine zo ?_|refine zk d1 ?_|refine zk d2 ?_|refine zk d3 ?_|refine zX ?_)|refine zr ?_|exact ah)
       refine ⟨by omega,hk2,?_⟩
       exact (by exact x_len [0,1])
      ·rw [if_neg hm]
       simp only [Option.toList_some]
       repeat' (first|refine zt ?_|(refine isR ?_;first|refine zo ?_|refine zk d1 ?_|refine zk d2 ?_|refine zk d3 ?_|refine zk d4 ?_|refine kL Attr.v (a1:=(⟨m2,u⟩)) af ?_|refine zX ?_)|refine zr ?_|exact ah)
       refine ⟨by omega,hk2,?_⟩
       exact (by exact x_len [0,2])
     ·obtain rfl:k=r.length:=by omega
      rw [List.take_length]
      generalize r.filterMap bQ=L at *
      repeat' (first|refine zt ?_|(refine isR ?_;first|refine zo ?_|refine zX ?_)|refine zr ?_|exact ah)
      have hf:List.take L.length (List.drop 0 (L.map Attr.v))=L.map Attr.v:=by rw [List.drop_zero,List.take_of_length_le (by simp)]
      show V.tup [.agg [au n,au v,.fro (List.take L.length (List.drop 0 (L.map Attr.v)))],.int .i64 0]=_
      rw [hf]
end aax
namespace j3
variable {d m y:Int}
def lp (y:Int):Bool:=(y % 4==0&&y % 100 != 0)||y % 400==0
def lpn (y:Int):Int:=if lp y then 1 else 0
def mH (y m:Int):Int :=
 if m=2 then 28+lpn y else if m=4∨m=6∨m=9∨m=11 then 30 else if m=1∨m=3∨m=5∨m=7∨m=8∨m=10∨m=12 then 31 else 0
def dby (y:Int):Int:=365*(y-1)+(y-1)/4-(y-1)/100+(y-1)/400-719162
def cum (y m:Int):Int :=
 if m≤1 then 0 else if m=2 then 31 else (if m=3 then 59 else if m=4 then 90 else if m=5 then 120 else if m=6 then 151 else if m=7 then 181 else if m=8 then 212 else if m=9 then 243 else if m=10 then 273 else if m=11 then 304 else if m=12 then 334 else 365)+lpn y
theorem Vs (y:Int):0≤lpn y∧lpn y≤1:=by unfold lpn;split<;>omega
theorem ab1 (y:Int):lpn y=y/4-(y-1)/4-(y/100-(y-1)/100)+(y/400-(y-1)/400):=by
 unfold lpn lp
 by_cases a:y % 4=0<;>by_cases b:y % 100=0<;>by_cases c:y % 400=0<;>simp [a,b,c]<;>omega
theorem SC (y:Int):dby (y+1)=dby y+365+lpn y:=by
 rw [ab1];unfold dby;omega
theorem IY (y m:Int):0≤mH y m∧mH y m≤31:=by
 have:=Vs y;unfold mH;repeat' split
 all_goals omega
theorem FZ (y m:Int) (h:m<1∨12<m):mH y m=0:=by
 unfold mH;repeat' split
 all_goals omega
theorem Cn (y m:Int) (h:1≤m) (h2:m≤12):cum y (m+1)=cum y m+mH y m:=by
 have:m=1∨m=2∨m=3∨m=4∨m=5∨m=6∨m=7∨m=8∨m=9∨m=10∨m=11∨m=12:=by omega
 rcases this with h|h|h|h|h|h|h|h|h|h|h|h<;>subst h<;>simp [cum,mH]<;>omega
theorem DZ (y m k:Int) (h:1≤m) (hk:k≤13) (hmk:m≤k):cum y m≤cum y k:=by
 obtain ⟨n,rfl⟩:∃ n:Nat,k=m+n:=⟨(k-m).toNat,by omega⟩
 clear hmk
 induction n with
 | zero=>simp
 | succ n ih =>
  have h1:=ih (by omega)
  have h2:=Cn y (m+n) (by omega) (by omega)
  have h3:=IY y (m+n)
  rw [show m+((n+1:Nat):Int)=m+n+1 from by omega]
  omega
theorem acf (y:Int):cum y 13=365+lpn y:=by simp [cum]
theorem Td (y m:Int) (h:m≤1):cum y m=0:=if_pos h
theorem SV (y m:Int) (h2:m≤13):0≤cum y m∧cum y m≤366:=by
 have h:=Vs y
 by_cases h1:m≤1
 ·rw [Td y m h1];omega
 ·have a:=DZ y 1 m (by omega) h2 (by omega)
  have b:=DZ y m 13 (by omega) (by omega) h2
  rw [Td y 1 (by omega)] at a
  rw [acf] at b
  omega
def num (y m d:Int):Int:=dby y+cum y m+d-1
def vld (y m d:Int):Prop:=1601≤y∧y≤9999∧1≤d∧d≤mH y m
instance (y m d:Int):Decidable (vld y m d):=by unfold vld;infer_instance
theorem aav (h:vld y m d):1≤m∧m≤12:=by
 obtain ⟨_,_,h3,h4⟩:=h
 refine ⟨Int.not_lt.1 fun hh=>?_,Int.not_lt.1 fun hh=>?_⟩<;>rw [FZ _ _ (by omega)] at h4<;>omega
theorem xH (a b:Int) (h:a≤b):dby a≤dby b:=by unfold dby;omega
theorem qE (h:vld y m d):dby y≤num y m d∧num y m d<dby (y+1):=by
 have hm:=aav h
 obtain ⟨_,_,h3,h4⟩:=h
 have c0:=SV y m (by omega)
 have c1:=Cn y m hm.1 hm.2
 have c2:=DZ y (m+1) 13 (by omega) (by omega) (by omega)
 have c3:cum y 13=365+lpn y:=by simp [cum]
 rw [SC];unfold num;omega
def mom (y m d h mi s:Int):Int:=num y m d*86400+h*3600+mi*60+s
def right (y m d h mi s:Int):Prop:=vld y m d∧0≤h∧h≤23∧0≤mi∧mi≤59∧0≤s∧s≤59
theorem Fv:dby 1601 = -134774:=by decide
theorem JF:dby 10000=2932897:=by decide
theorem abR {h mi s:Int} (a:right y m d h mi s): -11644473600≤mom y m d h mi s∧mom y m d h mi s≤253402300799:=by
 obtain ⟨v,a1,a2,a3,a4,a5,a6⟩:=a
 have n:=qE v
 have m1:=xH 1601 y v.1
 have m2:=xH (y+1) 10000 (by have:=v.2.1;omega)
 rw [Fv] at m1
 rw [JF] at m2
 unfold mom
 omega
end j3
namespace KU
open Go.RowKit Mem Abs cu iR jh bH bX dn
variable {l:List UInt8} {k:Nat}
theorem AR (hk:k≤l.length) (h:lK dB l k) (he:∀ c,l[k]? = some c→dB c=false):lead l=l.take k:=by
 induction l generalizing k with
 | nil=>simp [lead]
 | cons c r ih =>
  unfold lead
  cases k with
  | zero =>
   rw [List.takeWhile_cons,if_neg (by rw [he c rfl];simp)]
   rfl
  | succ k =>
   rw [List.takeWhile_cons,if_pos (h 0 c (by omega) rfl),List.take_succ_cons]
   congr 1
   exact ih (by simpa using hk) (fun j y hj hy=>h (j+1) y (by omega) (by simpa using hy)) (fun x hx=>he x (by simpa using hx))
theorem zi (h:lK dB l k):(l.take k).all dB=true:=List.all_eq_true.2 fun x hx=>by
 obtain ⟨i,hi⟩:=List.mem_iff_getElem?.1 hx
 rw [List.getElem?_take] at hi
 split at hi
 ·exact h i x (by assumption) hi
 ·cases hi
theorem Ii {c:UInt8} (h:dB c=true):48≤c.toNat∧c.toNat≤57:=by
 unfold dB at h
 simpa using h
end KU
end Go.Proofs.YtlfdjpgghiemfaaGreatDoor
