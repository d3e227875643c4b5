/- Texts of the proof, joined: DateB, CookP. -/
import Derived.Test.YtlfdjpgghiemfaaGreatDoorH44
set_option maxHeartbeats 4000000
set_option maxRecDepth 100000
namespace Go.Proofs.YtlfdjpgghiemfaaGreatDoor
section
namespace Oo
open Go.RowKit Mem Abs bH bX dn cu iR jh dV tH vK ql DF GA KU Nl
variable {s:List UInt8} {k:Nat}
def byF (s:List UInt8) (k:Nat):List UInt8:=(s.take k).map eY++List.replicate (s.length-k) 0
theorem by0 (s:List UInt8):byF s 0=List.replicate s.length 0:=by simp [byF]
theorem aaS (s:List UInt8) (k:Nat) (hk:k≤s.length):(byF s k).length=s.length:=by simp [byF];omega
theorem ac5 (hk:k<s.length):(byF s k)[k]? = some 0:=by
 unfold byF
 rw [List.getElem?_append_right (by simp;omega)]
 have:(List.map eY (s.take k)).length=k:=by simp;omega
 rw [this,Nat.sub_self,List.getElem?_replicate,if_pos (by omega)]
theorem adk {c:UInt8} (h:s[k]? = some c):byF s (k+1)=(byF s k).set k (eY c):=by
 obtain ⟨hk,rfl⟩:=List.getElem?_eq_some_iff.1 h
 unfold byF
 have hl:(List.map eY (s.take k)).length=k:=by simp;omega
 rw [List.take_succ_eq_append_getElem hk,List.map_append,List.set_append_right _ _ (by omega),hl,Nat.sub_self]
 have:s.length-k=(s.length-(k+1))+1:=by omega
 rw [this,List.replicate_succ,List.set_cons_zero]
 simp
theorem abw (s:List UInt8):byF s s.length=s.map eY:=by simp [byF]
theorem U9 (c:UInt8):(eY c).toNat<128:=by
 unfold eY
 split
 ·decide
 ·omega
theorem YU (hs:s.length≤400):aj Tryz.prog 226 [au s] (au (s.map eY)):=by
 have hx:((s.map bB).length:Int)=(s.length:Int):=by simp
 have h0:=by0 s
 have hon:=fun k c=>adk (s:=s) (k:=k) (c:=c)
 have hat:=fun k=>ac5 (s:=s) (k:=k)
 have hlen:=aaS s
 have hend:=abw s
 have hlow:∀ b∈s.map eY,b.toNat<128:=fun b hb=>by
  obtain ⟨c,_,rfl⟩:=List.mem_map.1 hb
  exact U9 c
 generalize hL:byF s=L at *
 refine aU af Tryz.func226 rfl Tryz.ntmps226 Tryz.results226 rfl fun N=>?_
 repeat' (first|refine zt ?_|(refine isR ?_;first|refine zo ?_|refine VQ uU 0 s.length af ?_|refine zX ?_)|refine zr ?_|exact ah)
 refine bE (fun k=>⟨[(3,.own 0 0 (L k).length),(10,.fro (s.map bB)),(11,.int .i64 (s.map bB).length),(12,.int .i64 (k:Int))],[(0,some (.els 21 1 ((L k).map uU)))],1,30⟩) (fun k=>k≤s.length) s.length 0 (by simp only [h0,List.length_replicate];exact (by exact ah)) (Nat.zero_le _) ?_
 intro k hk
 have hlk:=hlen k hk
 by_cases hk2:k<s.length
 ·have e1:(s.map bB)[k]? = some (bB s[k]):=by simp [hk2]
  have e2:=hon k s[k] (by simp [hk2])
  have e3:=hat k hk2
  simp only [e2,List.length_set]
  generalize s[k]=c at *
  generalize L k=p at *
  have hc:=c.toNat_lt
  have hcv:IntKind.i32.wrap (c.toNat:Int)=(c.toNat:Int):=by simp only [IntKind.wrap,IntKind.bits,IntKind.signed];simp;omega
  have e4:(p.set k c)[k]? = some c:=List.getElem?_set_self (by omega)
  by_cases h126:126<c.toNat
  ·have e5:(p.set k c).set k 122=p.set k 122:=List.set_set ..
   rw [show eY c=122 by unfold eY;rw [if_pos h126]]
   repeat' (first|refine zt ?_|(refine isR ?_;first|refine zo ?_|refine ny .i32 af ?_|refine kD uU (a1:=122) k af ?_|refine kD uU (a1:=c) k af ?_|refine zX ?_)|refine zr ?_|exact ah)
   refine ⟨by omega,hk2,?_⟩
   rw [← e5]
   exact (by exact ah)
  ·rw [show eY c=c by unfold eY;rw [if_neg h126]]
   repeat' (first|refine zt ?_|(refine isR ?_;first|refine zo ?_|refine ny .i32 af ?_|refine kD uU (a1:=c) k af ?_|refine zX ?_)|refine zr ?_|exact ah)
   refine ⟨by omega,hk2,?_⟩
   exact (by exact ah)
 ·obtain rfl:k=s.length:=by omega
  rw [hend]
  have hml:(s.map eY).length=s.length:=by simp
  repeat' (first|refine zt ?_|(refine isR ?_;first|refine zo ?_|refine YH af ?_|refine zX ?_)|refine zr ?_|exact ah)
  rfl
end Oo
namespace WX
open Go.RowKit Mem Abs bH bX dn cu iR jh dV tH vK ql DF GA Oo KU Nl
variable {st:Int} {j:Nat} {A:List (Nat × Nat)} {a:Nat} {l:List UInt8} {k:Nat} {c:UInt8}
def piece (l:List UInt8) (p:Nat × Nat):List UInt8:=(l.take p.2).drop p.1
abbrev qL (p:Nat × Nat):Abs.V:=.agg [.int .i64 (p.1:Int),.int .i64 (p.2:Int)]
def jl (l:List UInt8) (A:List (Nat × Nat)) (j:Nat):List (List UInt8):=(A.take j).map (piece l)++List.replicate (A.length-j) []
theorem acT (l:List UInt8) (A:List (Nat × Nat)):jl l A 0=List.replicate A.length []:=by simp [jl]
theorem OJ (hj:j≤A.length):(jl l A j).length=A.length:=by simp [jl];omega
theorem WB (hj:j<A.length):(jl l A j)[j]? = some []:=by
 unfold jl
 have hl:(List.map (piece l) (A.take j)).length=j:=by simp;omega
 rw [List.getElem?_append_right (by omega),hl,Nat.sub_self,List.getElem?_replicate,if_pos (by omega)]
theorem Va {q:Nat × Nat} (h:A[j]? = some q):jl l A (j+1)=(jl l A j).set j (piece l q):=by
 obtain ⟨hj,rfl⟩:=List.getElem?_eq_some_iff.1 h
 unfold jl
 have hl:(List.map (piece l) (A.take j)).length=j:=by simp;omega
 rw [List.take_succ_eq_append_getElem hj,List.map_append,List.set_append_right _ _ (by omega),hl,Nat.sub_self]
 have:A.length-j=(A.length-(j+1))+1:=by omega
 rw [this,List.replicate_succ,List.set_cons_zero]
 simp
theorem O1 (l:List UInt8) (A:List (Nat × Nat)):jl l A A.length=A.map (piece l):=by simp [jl]
theorem Cg (h:l[k]? = some c) (ha:a≤k):piece l (a,k)++[c]=piece l (a,k+1):=by
 obtain ⟨hk,rfl⟩:=List.getElem?_eq_some_iff.1 h
 unfold piece
 dsimp only
 rw [List.take_succ_eq_append_getElem hk,List.drop_append_of_le_length (by simp;omega)]
theorem piece_nil (l:List UInt8) (k:Nat):piece l (k,k)=[]:=by
 unfold piece
 exact List.drop_eq_nil_of_le (by simp;omega)
structure Walk (l:List UInt8) (k:Nat) (A:List (Nat × Nat)) (st:Int):Prop where
 le:k≤l.length
 ok:∀ q∈A,q.1≤q.2∧q.2≤l.length
 rest:(st<0 ∧ -9223372036854775808≤st∧jE l=A.map (piece l)++gP [] (l.drop k))∨(∃ a:Nat,st=a∧a<k∧jE l=A.map (piece l)++gP (piece l (a,k)) (l.drop k))
theorem piece_ne (h:a<k) (hk:k≤l.length):piece l (a,k)≠[]:=by
 intro e
 have:=congrArg List.length e
 unfold piece at this
 simp at this;omega
theorem drop_cons (h:l[k]? = some c):l.drop k=c::l.drop (k+1):=by
 obtain ⟨hk,rfl⟩:=List.getElem?_eq_some_iff.1 h
 exact List.drop_eq_getElem_cons hk
theorem Walk.abu (hl:l.length≤400) (h:Walk l k A (a:Int)) (hc:l[k]? = some c) (hs:Av c=true):Walk l (k+1) (A++[(a,k)]) (-1-(a:Int)):=by
 have hk:=(List.getElem?_eq_some_iff.1 hc).1
 have hle:=h.le
 rcases h.rest with ⟨h1,_⟩|⟨b,h1,h2,h3⟩
 ·omega
 obtain rfl:a=b:=by omega
 refine ⟨by omega,fun q hq=>?_,.inl ⟨by omega,by omega,?_⟩⟩
 ·rcases List.mem_append.1 hq with hq|hq
  ·exact h.ok q hq
  ·rw [List.mem_singleton] at hq;subst hq;exact ⟨by show a≤k;omega,by show k≤l.length;omega⟩
 ·rw [h3,drop_cons hc,gP,if_pos hs,if_neg (piece_ne h2 h.le),List.map_append,List.append_assoc];rfl
theorem Walk.XQ (h:Walk l k A st) (h0:st<0) (hc:l[k]? = some c) (hs:Av c=true):Walk l (k+1) A st:=by
 have hk:=(List.getElem?_eq_some_iff.1 hc).1
 rcases h.rest with ⟨h1,h2,h3⟩|⟨b,h1,_⟩
 ·refine ⟨by omega,h.ok,.inl ⟨h1,h2,?_⟩⟩
  rw [h3,drop_cons hc,gP,if_pos hs,if_pos rfl]
 ·omega
theorem Walk.adi (h:Walk l k A (a:Int)) (hc:l[k]? = some c) (hs:Av c=false):Walk l (k+1) A (a:Int):=by
 have hk:=(List.getElem?_eq_some_iff.1 hc).1
 rcases h.rest with ⟨h1,_⟩|⟨b,h1,h2,h3⟩
 ·omega
 obtain rfl:a=b:=by omega
 refine ⟨by omega,h.ok,.inr ⟨a,rfl,by omega,?_⟩⟩
 rw [h3,drop_cons hc,gP,if_neg (by simp [hs]),Cg hc (by omega)]
theorem Walk.ab6 (h:Walk l k A st) (h0:st<0) (hc:l[k]? = some c) (hs:Av c=false):Walk l (k+1) A (k:Int):=by
 have hk:=(List.getElem?_eq_some_iff.1 hc).1
 rcases h.rest with ⟨h1,h2,h3⟩|⟨b,h1,_⟩
 ·refine ⟨by omega,h.ok,.inr ⟨k,rfl,by omega,?_⟩⟩
  rw [h3,drop_cons hc,gP,if_neg (by simp [hs]),← Cg hc (Nat.le_refl k),piece_nil]
 ·omega
theorem acM (l:List UInt8):Walk l 0 [] (-1):=⟨Nat.zero_le _,fun q hq=>(by cases hq),.inl ⟨by omega,by omega,rfl⟩⟩
theorem TY (hl:l.length≤400) (hlow:∀ b∈l,b.toNat<128):aj Tryz.prog 225 [au l,.fn (.func 227) [] []] (qM (jE l)):=by
 have hsz:(str l).size=l.length:=aM l
 refine aW af Tryz.func225 rfl Tryz.ntmps225 Tryz.results225 rfl fun N=>?_
 repeat' (first|refine zt ?_|(refine isR ?_;first|refine zo ?_|refine adh qL 32 af ?_|refine Ij af ?_|refine zX ?_)|refine zr ?_|exact ah)
 refine pO (α:=Nat × List (Nat × Nat) × Int) (fun x=>⟨[(0,au l),(1,.fn (.func 227) [] []),(5,.own 0 0 x.2.1.length),(6,.int .i64 x.2.2),(14,.loc 1 0 0)],[(0,some (.els 298 2 (x.2.1.map qL))),(1,some (.sit (str l) x.1))],2,65⟩) (fun x=>Walk l x.1 x.2.1 x.2.2∧x.2.1.length≤x.1) (fun x=>l.length-x.1) (0,[],-1) ?h0 ⟨acM l,Nat.le_refl _⟩ ?_
 case h0=>exact (by exact ah)
 rintro ⟨k,A,st⟩ ⟨hW,hAk⟩
 dsimp only at hW hAk ⊢
 have hle:=hW.le
 by_cases hk2:k<l.length
 ·have e1:l[k]? = some l[k]:=by simp [hk2]
  obtain ⟨c,wd,hdec,d1,d2,d3,hcase⟩:=IE l k hk2
  have hps:k<(str l).size:=by rw [hsz];exact hk2
  rcases hcase with ⟨b,g1,g2,g3,g4⟩|⟨_,g2⟩
  ·subst g4
   have hw:k+1≤dY:=by simp only [dY];omega
   have c1:=uq (n:=(c:Int))
   have hsep:Xj (c:Int)=Av b:=by unfold Av;rw [g3]
   rw [hsep] at c1
   have hfr : -9223372036854775808≤st∧st≤9223372036854775807:=by
    rcases hW.rest with ⟨h1,h2,_⟩|⟨a,h1,h2,_⟩<;>omega
   cases hs:Av b with
   | true =>
    rw [hs] at c1
    by_cases h0:0≤st
    ·obtain ⟨a,rfl⟩:=Int.eq_ofNat_of_zero_le h0
     have hW2:=hW.abu hl g1 hs
     repeat' (first|refine zt ?_|(refine isR ?_;first|refine zo ?_|refine nY _ _ ?_|refine ak (c1 _) ?_|refine ak (c1) ?_|refine kL qL (a1:=((a,k))) af ?_|refine adJ ?_|refine zX ?_)|refine zr ?_|exact ah)
     refine ⟨(k+1,A++[(a,k)],-1-(a:Int)),⟨hW2,by simp;omega⟩,by show l.length-(k+1)<l.length-k;omega,?_⟩
     exact (by exact x_len [2,1])
    ·have hW2:=hW.XQ (by omega) g1 hs
     repeat' (first|refine zt ?_|(refine isR ?_;first|refine zo ?_|refine nY _ _ ?_|refine ak (c1 _) ?_|refine ak (c1) ?_|refine zX ?_)|refine zr ?_|exact ah)
     refine ⟨(k+1,A,st),⟨hW2,by show A.length≤k+1;omega⟩,by show l.length-(k+1)<l.length-k;omega,?_⟩
     exact (by exact x_len [0,1])
   | false =>
    rw [hs] at c1
    by_cases h0:st<0
    ·have hW2:=hW.ab6 h0 g1 hs
     repeat' (first|refine zt ?_|(refine isR ?_;first|refine zo ?_|refine nY _ _ ?_|refine ak (c1 _) ?_|refine ak (c1) ?_|refine zX ?_)|refine zr ?_|exact ah)
     refine ⟨(k+1,A,(k:Int)),⟨hW2,by show A.length≤k+1;omega⟩,by show l.length-(k+1)<l.length-k;omega,?_⟩
     exact (by exact x_len [0,1])
    ·obtain ⟨a,rfl⟩:=Int.eq_ofNat_of_zero_le (show 0≤st by omega)
     have hW2:=hW.adi g1 hs
     repeat' (first|refine zt ?_|(refine isR ?_;first|refine zo ?_|refine nY _ _ ?_|refine ak (c1 _) ?_|refine ak (c1) ?_|refine zX ?_)|refine zr ?_|exact ah)
     refine ⟨(k+1,A,(a:Int)),⟨hW2,by show A.length≤k+1;omega⟩,by show l.length-(k+1)<l.length-k;omega,?_⟩
     exact (by exact x_len [0,1])
  ·exfalso
   obtain ⟨b,f1,f2⟩:=g2 k (Nat.le_refl _) (by omega)
   have:=hlow b (List.mem_of_getElem? f1)
   omega
 ·have hps:¬ k<(str l).size:=by rw [hsz];exact hk2
  obtain rfl:k=l.length:=by omega
  rcases hW.rest with ⟨h1,_,h3⟩|⟨a,rfl,h2,h3⟩
  ·have hw:A.map (piece l)=jE l:=by rw [h3,List.drop_length,gP,if_pos rfl,List.append_nil]
   have hok:=hW.ok
   repeat' (first|refine zt ?_|(refine isR ?_;first|refine zo ?_|refine Bo ?_|refine VQ au [] A.length af ?_|refine zX ?_)|refine zr ?_|exact ah)
   refine bE (fun j=>⟨[(0,au l),(5,.own 0 0 A.length),(9,.own 2 0 (jl l A j).length),(47,.own 0 0 A.length),(48,.int .i64 A.length),(49,.int .i64 (j:Int))],[(0,some (.els 298 2 (A.map qL))),(2,some (.els 9 1 ((jl l A j).map au)))],3,65⟩) (fun j=>j≤A.length) A.length 0 (by simp only [acT,List.length_replicate];exact (by exact ah)) (Nat.zero_le _) ?_
   intro j hj
   by_cases hj2:j<A.length
   ·have f1:A[j]? = some A[j]:=by simp [hj2]
    have f2:=Va (l:=l) f1
    have f3:=WB (l:=l) hj2
    have f4:=hok A[j] (List.getElem_mem hj2)
    have f5:=OJ (l:=l) (A:=A) (j:=j) hj
    simp only [f2,List.length_set]
    generalize A[j]=q at *
    obtain ⟨qa,qb⟩:=q
    dsimp only at f4
    have f6:(A.map qL)[j]? = some (qL (qa,qb)):=by rw [List.getElem?_map,f1];rfl
    generalize jl l A j=O at *
    repeat' (first|refine zt ?_|(refine isR ?_;first|refine zo ?_|refine cZ qL j af ?_|refine kD au (a1:=piece l (qa,qb)) j af ?_|refine zX ?_)|refine zr ?_|exact ah)
    refine ⟨by omega,hj2,?_⟩
    exact (by exact ah)
   ·obtain rfl:j=A.length:=by omega
    rw [O1]
    rw [hw]
    repeat' (first|refine zt ?_|(refine isR ?_;first|refine zo ?_|refine zX ?_)|refine zr ?_|exact ah)
    show V.fro (List.take (jE l).length (List.drop 0 ((jE l).map au)))=_
    rw [List.drop_zero,List.take_of_length_le (by simp)]
  ·have hw:(A++[(a,l.length)]).map (piece l)=jE l:=by
    rw [h3,List.drop_length,gP,if_neg (piece_ne h2 (Nat.le_refl _)),List.map_append];rfl
   have hok:∀ q∈A++[(a,l.length)],q.1≤q.2∧q.2≤l.length:=fun q hq=>by
    rcases List.mem_append.1 hq with hq|hq
    ·exact hW.ok q hq
    ·rw [List.mem_singleton] at hq;subst hq;exact ⟨by show a≤l.length;omega,Nat.le_refl _⟩
   have hal:(A++[(a,l.length)]).length≤401:=by simp;omega
   generalize hA:A++[(a,l.length)]=A2 at *
   repeat' (first|refine zt ?_|(refine isR ?_;first|refine zo ?_|refine Bo ?_|refine kL qL (a1:=((a,l.length))) af ?_|refine zX ?_)|refine zr ?_|exact ah)
   rw [hA]
   repeat' (first|refine zt ?_|(refine isR ?_;first|refine zo ?_|refine VQ au [] A2.length af ?_|refine zX ?_)|refine zr ?_|exact ah)
   refine bE (fun j=>⟨[(0,au l),(5,.own 2 0 A2.length),(9,.own 3 0 (jl l A2 j).length),(47,.own 2 0 A2.length),(48,.int .i64 A2.length),(49,.int .i64 (j:Int))],[(2,some (.els 298 2 (A2.map qL))),(3,some (.els 9 1 ((jl l A2 j).map au)))],4,65⟩) (fun j=>j≤A2.length) A2.length 0 (by simp only [acT,List.length_replicate];exact (by exact ah)) (Nat.zero_le _) ?_
   intro j hj
   by_cases hj2:j<A2.length
   ·have f1:A2[j]? = some A2[j]:=by simp [hj2]
    have f2:=Va (l:=l) f1
    have f3:=WB (l:=l) hj2
    have f4:=hok A2[j] (List.getElem_mem hj2)
    have f5:=OJ (l:=l) (A:=A2) (j:=j) hj
    simp only [f2,List.length_set]
    generalize A2[j]=q at *
    obtain ⟨qa,qb⟩:=q
    dsimp only at f4
    have f6:(A2.map qL)[j]? = some (qL (qa,qb)):=by rw [List.getElem?_map,f1];rfl
    generalize jl l A2 j=O at *
    repeat' (first|refine zt ?_|(refine isR ?_;first|refine zo ?_|refine cZ qL j af ?_|refine kD au (a1:=piece l (qa,qb)) j af ?_|refine zX ?_)|refine zr ?_|exact ah)
    refine ⟨by omega,hj2,?_⟩
    exact (by exact ah)
   ·obtain rfl:j=A2.length:=by omega
    rw [O1]
    rw [hw]
    repeat' (first|refine zt ?_|(refine isR ?_;first|refine zo ?_|refine zX ?_)|refine zr ?_|exact ah)
    show V.fro (List.take (jE l).length (List.drop 0 ((jE l).map au)))=_
    rw [List.drop_zero,List.take_of_length_le (by simp)]
end WX
namespace Dj
open Go.RowKit Mem Abs bH bX dn cu iR jh dV tH vK ql DF GA Oo WX KU j3 zl
variable {c:UInt8}
theorem Ch (h:c.toNat≤126):eY c=c:=by unfold eY;rw [if_neg (by omega)]
theorem H7 (h:¬ c.toNat≤126):eY c=122:=by unfold eY;rw [if_pos (by omega)]
theorem Y3 (c:UInt8):Av (eY c)=Av c:=by
 by_cases h:c.toNat≤126
 ·rw [Ch h]
 ·rw [H7 h]
  unfold Av Xj
  have e:((122:UInt8).toNat:Int)=122:=rfl
  rw [e]
  have h2:(126:Int)<(c.toNat:Int):=by omega
  rw [Bool.eq_iff_iff]
  simp only [Bool.or_eq_true,Bool.and_eq_true,decide_eq_true_eq]
  omega
theorem Xm (c:UInt8):dB (eY c)=dB c:=by
 by_cases h:c.toNat≤126
 ·rw [Ch h]
 ·rw [H7 h,Bool.eq_iff_iff]
  unfold dB
  simp only [Bool.and_eq_true,decide_eq_true_eq]
  have e:(122:UInt8).toNat=122:=rfl
  rw [e];omega
theorem UO {d:UInt8} (hd:d.toNat≤121):eY c=d↔c=d:=by
 by_cases h:c.toNat≤126
 ·rw [Ch h]
 ·rw [H7 h]
  constructor
  ·intro e
   rw [← e] at hd;exact absurd hd (by decide)
  ·intro e
   rw [e] at h;omega
theorem uI:∀ (l cur:List UInt8),gP (cur.map eY) (l.map eY)=(gP cur l).map (List.map eY)
 | [],cur=>by
  simp only [List.map_nil,gP]
  by_cases h:cur=[]
  ·subst h;rfl
  ·rw [if_neg (by simpa using h),if_neg h];rfl
 | c::r,cur=>by
  simp only [List.map_cons,gP,Y3]
  by_cases hs:Av c=true
  ·rw [if_pos hs,if_pos hs]
   by_cases h:cur=[]
   ·subst h
    rw [List.map_nil,if_pos rfl,if_pos rfl]
    exact uI r []
   ·rw [if_neg (by simpa using h),if_neg h,List.map_cons]
    rw [← uI r []];rfl
  ·rw [if_neg hs,if_neg hs]
   have:=uI r (cur++[c])
   rw [List.map_append] at this
   exact this
theorem Xk (w:List UInt8):lead (w.map eY)=lead w:=by
 unfold lead
 induction w with
 | nil=>rfl
 | cons c r ih =>
  rw [List.map_cons,List.takeWhile_cons,List.takeWhile_cons,Xm]
  split
  ·rename_i h
   have hc:c.toNat≤126:=by unfold dB at h;simp at h;omega
   rw [ih,Ch hc]
  ·rfl
theorem OM (w:List UInt8) (lo hi:Nat):bN (w.map eY) lo hi=((bN w lo hi).1,(bN w lo hi).2.1.map eY,(bN w lo hi).2.2):=by
 unfold bN
 rw [Xk]
 split
 ·rfl
 ·simp
theorem Ze (w:List UInt8):dJ (w.map eY) [58]=((dJ w [58]).1.map eY,(dJ w [58]).2):=by
 have hp:pre (w.map eY) [58]=pre w [58]:=by
  unfold pre
  cases w with
  | nil=>rfl
  | cons c r =>
   rw [Bool.eq_iff_iff,decide_eq_true_eq,decide_eq_true_eq]
   show [eY c]=[58]↔[c]=[58]
   rw [List.cons.injEq,List.cons.injEq,UO (by decide)]
 unfold dJ
 rw [hp]
 split
 ·simp
 ·rfl
theorem Y2 (w:List UInt8) (h mi s:Int):dN (w.map eY) h mi s=dN w h mi s:=by
 unfold dN
 simp only [OM,Ze]
theorem Ru {x:UInt8} (hx:x.toNat≤121):jK (eY c)=x↔jK c=x:=by
 by_cases h:c.toNat≤126
 ·rw [Ch h]
 ·rw [H7 h]
  have h2:=zb c
  rw [if_neg (by omega)] at h2
  constructor
  ·intro e
   have:jK 122=122:=by decide
   rw [this] at e
   rw [← e] at hx;exact absurd hx (by decide)
  ·intro e
   rw [e] at h2;omega
theorem Kr:∀ (w m:List UInt8),(∀ x∈m,x.toNat≤121)→(fold (w.map eY)=m↔fold w=m)
 | [],m,_=>Iff.rfl
 | c::r,[],_=>by simp [fold]
 | c::r,x::m,h=>by
  have ih:=Kr r m fun y hy=>h y (by simp [hy])
  unfold fold at *
  rw [List.map_cons,List.map_cons,List.map_cons,List.cons.injEq,List.cons.injEq,Ru (h x (by simp)),ih]
theorem Ql (w:List UInt8):iK (w.map eY)=iK w:=by
 unfold iK
 rw [List.length_map,← List.map_take]
 have:∀ m∈months,(fold ((w.take 3).map eY)==m)=(fold (w.take 3)==m):=fun m hm=>by
  rw [Bool.eq_iff_iff,beq_iff_eq,beq_iff_eq]
  refine Kr _ _ fun x hx=>?_
  have:(months.all fun m=>m.all fun x=>decide (x.toNat≤121))=true:=by decide +kernel
  exact of_decide_eq_true (List.all_eq_true.1 (List.all_eq_true.1 this m hm) x hx)
 have e:months.findIdx? (fun m=>fold ((w.take 3).map eY)==m)=months.findIdx? (fun m=>fold (w.take 3)==m):=by
  have gen:∀ L:List (List UInt8),(∀ m∈L,(fold ((w.take 3).map eY)==m)=(fold (w.take 3)==m))→L.findIdx? (fun m=>fold ((w.take 3).map eY)==m)=L.findIdx? (fun m=>fold (w.take 3)==m):=fun L=>by
   induction L with
   | nil=>intro _;rfl
   | cons m L ih =>
    intro h
    rw [List.findIdx?_cons,List.findIdx?_cons,h m (by simp),ih fun x hx=>h x (by simp [hx])]
  exact gen months this
 rw [e]
theorem Vv (r:RD) (w:List UInt8):kH r (w.map eY)=kH r w:=by
 unfold kH
 simp only [Y2,OM,Ql]
def eU (s:List UInt8):RD:=(jE s).foldl kH rd0
theorem Rn (s:List UInt8):(jE (s.map eY)).foldl kH rd0=eU s:=by
 unfold eU jE
 have:=uI s []
 rw [List.map_nil] at this
 rw [this,List.foldl_map]
 congr 1
 funext r w
 exact Vv r w
noncomputable def bC (s:List UInt8):Int × Int :=
 if 400<s.length then (0,2) else
 if (eU s).f0&&((eU s).f1&&((eU s).f2&&(eU s).f3)) then ofF (eU s).y (eU s).m (eU s).d (eU s).h (eU s).mi (eU s).s else (0,1)
theorem y7:∀ (l cur:List UInt8),(gP cur l).length≤l.length+1
 | [],cur=>by unfold gP;split<;>simp
 | c::r,cur=>by
  unfold gP
  have h1:=y7 r []
  have h2:=y7 r (cur++[c])
  split
  ·split
   ·simp;omega
   ·simp;omega
  ·simp;omega
theorem DY {g:iI} (hg:vV g) {s:List UInt8}:av Tryz.prog g 175 [au s] (.tup [.int .i64 (bC s).1,.int .i64 (bC s).2]):=by
 by_cases hl:400<s.length
 ·have e:bC s=(0,2):=by unfold bC;rw [if_pos hl]
  rw [e]
  refine lZ af Tryz.func175 rfl Tryz.ntmps175 Tryz.results175 rfl fun N=>?_
  repeat' (first|refine zt ?_|(refine isR ?_;first|refine zo ?_|refine zX ?_)|refine zr ?_|exact ah)
  rfl
 ·have e:bC s=if (eU s).f0&&((eU s).f1&&((eU s).f2&&(eU s).f3)) then ofF (eU s).y (eU s).m (eU s).d (eU s).h (eU s).mi (eU s).s else (0,1):=by unfold bC;rw [if_neg hl]
  have c1:=YU (s:=s) (by omega)
  have c2:=TY (l:=s.map eY) (by simp;omega) (fun b hb=>by obtain ⟨c,_,rfl⟩:=List.mem_map.1 hb;exact U9 c)
  have hf:=Rn s
  have hwl:=y7 (s.map eY) []
  rw [List.length_map] at hwl
  have hwl:(jE (s.map eY)).length≤s.length+1:=hwl
  generalize jE (s.map eY)=ws at *
  generalize s.map eY=t at *
  have hx:((ws.map au).length:Int)=(ws.length:Int):=by simp
  have h00:(ws.take 0).foldl kH rd0=rd0:=rfl
  refine lZ af Tryz.func175 rfl Tryz.ntmps175 Tryz.results175 rfl fun N=>?_
  repeat' (first|refine zt ?_|(refine isR ?_;first|refine zo ?_|refine zk c1 ?_|refine zk c2 ?_|refine zX ?_)|refine zr ?_|exact ah)
  refine bE (fun k=>⟨[(4,.loc 0 0 0),(12,qM ws),(13,.int .i64 (ws.map au).length),(14,.int .i64 (k:Int))],[(0,some (Au ((ws.take k).foldl kH rd0)))],1,30⟩) (fun k=>k≤ws.length) ws.length 0 (by exact ah) (Nat.zero_le _) ?_
  intro k hk
  by_cases hk2:k<ws.length
  ·have e1:(ws.map au)[k]? = some (au ws[k]):=by simp [hk2]
   have e2:(ws.take (k+1)).foldl kH rd0=kH ((ws.take k).foldl kH rd0) ws[k]:=by rw [List.take_succ_eq_append_getElem hk2,List.foldl_append];rfl
   simp only [e2]
   generalize ws[k]=w at *
   generalize (ws.take k).foldl kH rd0=r at *
   have c3:=aaB hg (r:=r) (w:=w)
   generalize kH r w=r2 at *
   repeat' (first|refine zt ?_|(refine isR ?_;first|refine zo ?_|refine x_m [0] [] (c3 _) ?_|refine x_m [0] [] (c3) ?_|refine zX ?_)|refine zr ?_|exact ah)
   refine ⟨by omega,hk2,?_⟩
   exact (by exact ah)
  ·obtain rfl:k=ws.length:=by omega
   rw [List.take_length,hf]
   rw [e]
   clear e hf
   generalize eU s=r at *
   obtain ⟨r1,r2,r3,r4,r5,r6,r7,r8,r9,r10⟩:=r
   dsimp only
   have c4:=adX (y:=r1) (m:=r2) (d:=r3) (h:=r4) (mi:=r5) (s:=r6)
   generalize ofF r1 r2 r3 r4 r5 r6=o at *
   cases r7
   ·repeat' (first|refine zt ?_|(refine isR ?_;first|refine zo ?_|refine zK af ?_|refine zk c4 ?_|refine zX ?_)|refine zr ?_|exact ah)
    rfl
   ·cases r8
    ·repeat' (first|refine zt ?_|(refine isR ?_;first|refine zo ?_|refine zK af ?_|refine zk c4 ?_|refine zX ?_)|refine zr ?_|exact ah)
     rfl
    ·cases r9
     ·repeat' (first|refine zt ?_|(refine isR ?_;first|refine zo ?_|refine zK af ?_|refine zk c4 ?_|refine zX ?_)|refine zr ?_|exact ah)
      rfl
     ·cases r10
      ·repeat' (first|refine zt ?_|(refine isR ?_;first|refine zo ?_|refine zK af ?_|refine zk c4 ?_|refine zX ?_)|refine zr ?_|exact ah)
       rfl
      ·repeat' (first|refine zt ?_|(refine isR ?_;first|refine zo ?_|refine zK af ?_|refine zk c4 ?_|refine zX ?_)|refine zr ?_|exact ah)
       rfl
end Dj
end
namespace iE
open Abs bH bX dn cu dV Dj j3 ko nS zl
def LG:Nat:=1000000000000
def xu (l:List UInt8):Nat:=min LG (value l)
theorem Qf:xu []=0:=by decide
theorem Vq (l:List UInt8) (c:UInt8):xu (l++[c])=min LG (10*xu l+(c.toNat-48)):=by
 unfold xu
 rw [iR.qo]
 have:LG=1000000000000:=rfl
 omega
theorem ab4 (l:List UInt8):xu l≤1000000000000:=Nat.min_le_left _ _
def yV (s:List UInt8):Int × Bool:=if (dJ s [45]).1.all dB=true∧(dJ s [45]).1≠[] then (if (dJ s [45]).2 then -(xu (dJ s [45]).1:Int) else (xu (dJ s [45]).1:Int),true) else (0,false)
def gq (f:From) (now:Int):Int:=if fQ.bR f.host=true∧pre f.path [47]=true∧kZ.mQ f.path=true∧f.path.contains 59=false∧f.path.length≤400 then (if isB now then 0 else 3) else 1
theorem KR {f:From} {now:Int} (h:gq f now=0):fQ.bR f.host=true∧pre f.path [47]=true∧kZ.mQ f.path=true∧f.path.contains 59=false∧f.path.length≤400∧isB now=true:=by
 unfold gq at h
 split at h
 ·rename_i h1
  split at h
  ·rename_i h2
   exact ⟨h1.1,h1.2.1,h1.2.2.1,h1.2.2.2.1,h1.2.2.2.2,h2⟩
  ·exact absurd h (by decide)
 ·exact absurd h (by decide)
def sI:List UInt8:=([101,120,112,105,114,101,115]:List UInt8)
def pV:List UInt8:=([109,97,120,45,97,103,101]:List UInt8)
def rE:List UInt8:=([100,111,109,97,105,110]:List UInt8)
def lq:List UInt8:=([112,97,116,104]:List UInt8)
def vH:List UInt8:=([115,101,99,117,114,101]:List UInt8)
def mR:List UInt8:=([104,116,116,112,111,110,108,121]:List UInt8)
def mO:List UInt8:=([115,97,109,101,115,105,116,101]:List UInt8)
def SE (v:List UInt8):Int:=if fold v=([110,111,110,101]:List UInt8) then 1 else if fold v=([108,97,120]:List UInt8) then 2 else if fold v=([115,116,114,105,99,116]:List UInt8) then 3 else 0
def M5 (v:List UInt8):List UInt8:=(dJ v [46]).1
structure Mk where
 c:ai
 aged:Bool
 told:Bool
 deep:Bool
noncomputable def bQ (f:From) (now:Int) (m:Mk) (a:Attr):Mk :=
 if a.name=sI then (if (bC a.value).2=0 then { m with c:={ m.c with lasting:=true,expiry:=if m.aged then m.c.expiry else (bC a.value).1 } } else m)
 else if a.name=pV then (if (yV a.value).2=true then { m with aged:=true,c:={ m.c with lasting:=true,expiry:=if 0<(yV a.value).1 then fV now (yV a.value).1 else -11644473600 } } else m)
 else if a.name=rE then (if M5 a.value=[] then m else { m with told:=true,c:={ m.c with domain:=fold (M5 a.value) } })
 else if a.name=lq then { m with deep:=true,c:={ m.c with path:=if pre a.value [47] then a.value else tC.dflt f.path } }
 else if a.name=vH then { m with c:={ m.c with secure:=true } }
 else if a.name=mR then { m with c:={ m.c with httpOnly:=true } }
 else if a.name=mO then { m with c:={ m.c with site:=SE a.value } }
 else m
def mk0 (r:Raw) (f:From) (now:Int):Mk:=⟨⟨r.name,r.value,[],tC.dflt f.path,false,false,false,false,0,253402300799,now,now,0⟩,false,false,false⟩
def BZ:ai:=⟨[],[],[],[],false,false,false,false,0,0,0,0,0⟩
def nU (L:List aG) (f:From) (m:Mk):Int × Mk :=
 if m.told=false then (0,{ m with c:={ m.c with domain:=f.host,hostOnly:=true } })
 else if fQ.bR m.c.domain=false then (1,m)
 else if fQ.xG L m.c.domain=m.c.domain then (if m.c.domain=f.host then 0 else 8,{ m with c:={ m.c with hostOnly:=true } })
 else (if iq f.host m.c.domain=true then 0 else 8,m)
def aaV:List UInt8:=([95,95,115,101,99,117,114,101,45]:List UInt8)
def Ut:List UInt8:=([95,95,104,111,115,116,45]:List UInt8)
def Qu (f:From) (m:Mk):Bool :=
 if (m.c.httpOnly&&f.script||m.c.secure && !f.secure)=true then true
 else if pre (fold m.c.name) aaV=true then !m.c.secure
 else if pre (fold m.c.name) Ut=true then !m.c.secure||(!m.c.hostOnly||(m.told||(!decide (m.c.path=[47]) || !m.deep)))
 else false
noncomputable def jc (r:Raw) (f:From) (now:Int):Mk:=r.attrs.foldl (bQ f now) (mk0 r f now)
noncomputable def abr (L:List aG) (f:From) (m:Mk):ai × Int :=
 if (nU L f m).1≠0 then (BZ,(nU L f m).1) else if Qu f (nU L f m).2=true then (BZ,8) else ((nU L f m).2.c,0)
noncomputable def jG (L:List aG) (r:Raw) (f:From) (now:Int):ai × Int :=
 if fQ.bA L≠0 then (BZ,(fQ.bA L:Int)) else if kZ.bA r≠0 then (BZ,kZ.bA r) else if gq f now≠0 then (BZ,gq f now) else abr L f (jc r f now)
noncomputable def pu (a:Attr):Bool :=
 if a.name=sI then decide ((bC a.value).2=0) else if a.name=pV then (yV a.value).2 else if a.name=rE then decide (a.value≠[]∧a.value≠[46]) else true
noncomputable def Cf (l:List Attr) (n:List UInt8):Option (List UInt8):=(l.reverse.find? fun a=>decide (a.name=n)&&pu a).map (·.value)
theorem QL (l:List Attr) (a:Attr) (n:List UInt8):Cf (l++[a]) n=if a.name=n∧pu a=true then some a.value else Cf l n:=by
 unfold Cf
 rw [List.reverse_append,List.reverse_singleton,List.singleton_append,List.find?_cons]
 by_cases h:a.name=n∧pu a=true
 ·rw [if_pos h]
  simp [h.1,h.2]
 ·rw [if_neg h]
  have:(decide (a.name=n)&&pu a)=false:=by
   rw [Bool.and_eq_false_iff]
   by_cases hn:a.name=n
   ·right
    cases hs:pu a with
    | false=>rfl
    | true=>exact absurd ⟨hn,hs⟩ h
   ·left;exact decide_eq_false hn
  rw [this]
theorem Ym (v:List UInt8):M5 v=[]↔(v=[]∨v=[46]):=by
 unfold M5 dJ
 cases hp:pre v [46] with
 | true =>
  obtain ⟨x,rfl⟩:=(O5 v [46]).1 hp
  simp
 | false =>
  refine ⟨fun h=>.inl h,fun h=>?_⟩
  rcases h with rfl|rfl
  ·rfl
  ·exact absurd hp (by decide)
noncomputable def BX (r:Raw) (f:From) (now:Int) (lf:List UInt8→Option (List UInt8)):Mk :=
 ⟨⟨r.name,r.value,(match lf rE with|some v=>fold (M5 v)|none=>[]),(match lf lq with|some v=>if pre v [47] then v else tC.dflt f.path|none=>tC.dflt f.path),false,(lf vH).isSome,(lf mR).isSome,(lf pV).isSome||(lf sI).isSome,(match lf mO with|some v=>SE v|none=>0),
  (match lf pV with|some v=>if 0<(yV v).1 then fV now (yV v).1 else -11644473600|none=>match lf sI with|some v=>(bC v).1|none=>253402300799),now,now,0⟩,(lf pV).isSome,(lf rE).isSome,(lf lq).isSome⟩
theorem Qi (r:Raw) (f:From) (now:Int) (l:List Attr) (a:Attr):bQ f now (BX r f now (Cf l)) a=BX r f now (Cf (l++[a])):=by
 have hl:=QL l a
 have e1:sI≠pV:=by decide
 have e2:sI≠rE:=by decide
 have e3:sI≠lq:=by decide
 have e4:sI≠vH:=by decide
 have e5:sI≠mR:=by decide
 have e6:sI≠mO:=by decide
 have f2:pV≠rE:=by decide
 have f3:pV≠lq:=by decide
 have f4:pV≠vH:=by decide
 have f5:pV≠mR:=by decide
 have f6:pV≠mO:=by decide
 have g3:rE≠lq:=by decide
 have g4:rE≠vH:=by decide
 have g5:rE≠mR:=by decide
 have g6:rE≠mO:=by decide
 have i4:lq≠vH:=by decide
 have i5:lq≠mR:=by decide
 have i6:lq≠mO:=by decide
 have j5:vH≠mR:=by decide
 have j6:vH≠mO:=by decide
 have k6:mR≠mO:=by decide
 by_cases h1:a.name=sI
 ·have hs:pu a=decide ((bC a.value).2=0):=by unfold pu;rw [if_pos h1]
  have q1:=hl sI;have q2:=hl pV;have q3:=hl rE;have q4:=hl lq;have q5:=hl vH;have q6:=hl mR;have q7:=hl mO
  simp only [h1,hs,e1,e2,e3,e4,e5,e6,true_and,false_and,if_false,decide_eq_true_eq] at q1 q2 q3 q4 q5 q6 q7
  unfold bQ BX
  rw [if_pos h1,q1,q2,q3,q4,q5,q6,q7]
  by_cases h:(bC a.value).2=0
  ·rw [if_pos h,if_pos h]
   cases Cf l pV<;>simp
  ·rw [if_neg h,if_neg h]
 by_cases h2:a.name=pV
 ·have hs:pu a=(yV a.value).2:=by unfold pu;rw [if_neg h1,if_pos h2]
  have q1:=hl sI;have q2:=hl pV;have q3:=hl rE;have q4:=hl lq;have q5:=hl vH;have q6:=hl mR;have q7:=hl mO
  simp only [h2,hs,Ne.symm e1,f2,f3,f4,f5,f6,true_and,false_and,if_false] at q1 q2 q3 q4 q5 q6 q7
  unfold bQ BX
  rw [if_neg h1,if_pos h2,q1,q2,q3,q4,q5,q6,q7]
  cases h:(yV a.value).2
  ·simp
  ·simp
 by_cases h3:a.name=rE
 ·have hs:pu a=decide (a.value≠[]∧a.value≠[46]):=by unfold pu;rw [if_neg h1,if_neg h2,if_pos h3]
  have hd:=Ym a.value
  have q1:=hl sI;have q2:=hl pV;have q3:=hl rE;have q4:=hl lq;have q5:=hl vH;have q6:=hl mR;have q7:=hl mO
  simp only [h3,hs,Ne.symm e2,Ne.symm f2,g3,g4,g5,g6,true_and,false_and,if_false,decide_eq_true_eq] at q1 q2 q3 q4 q5 q6 q7
  unfold bQ BX
  rw [if_neg h1,if_neg h2,if_pos h3,q1,q2,q3,q4,q5,q6,q7]
  by_cases h:M5 a.value=[]
  ·have h':=hd.1 h
   rw [if_pos h,if_neg (fun hh=>by rcases h' with h'|h';exact hh.1 h';exact hh.2 h')]
  ·rw [if_neg h,if_pos ⟨fun e=>h (hd.2 (.inl e)),fun e=>h (hd.2 (.inr e))⟩]
   rfl
 have hs:pu a=true:=by unfold pu;rw [if_neg h1,if_neg h2,if_neg h3]
 have q1:=hl sI;have q2:=hl pV;have q3:=hl rE;have q4:=hl lq;have q5:=hl vH;have q6:=hl mR;have q7:=hl mO
 simp only [h1,h2,h3,hs,and_true,if_false] at q1 q2 q3 q4 q5 q6 q7
 unfold bQ BX
 rw [if_neg h1,if_neg h2,if_neg h3,q1,q2,q3]
 by_cases h4:a.name=lq
 ·simp only [h4,i4,i5,i6,if_true,if_false] at q4 q5 q6 q7
  rw [if_pos h4,q4,q5,q6,q7]
  rfl
 by_cases h5:a.name=vH
 ·simp only [h5,Ne.symm i4,j5,j6,if_true,if_false] at q4 q5 q6 q7
  rw [if_neg h4,if_pos h5,q4,q5,q6,q7]
  rfl
 by_cases h6:a.name=mR
 ·simp only [h6,Ne.symm i5,Ne.symm j5,k6,if_true,if_false] at q4 q5 q6 q7
  rw [if_neg h4,if_neg h5,if_pos h6,q4,q5,q6,q7]
  rfl
 by_cases h7:a.name=mO
 ·simp only [h7,Ne.symm i6,Ne.symm j6,Ne.symm k6,if_true,if_false] at q4 q5 q6 q7
  rw [if_neg h4,if_neg h5,if_neg h6,if_pos h7,q4,q5,q6,q7]
 simp only [h4,h5,h6,h7,if_false] at q4 q5 q6 q7
 rw [if_neg h4,if_neg h5,if_neg h6,if_neg h7,q4,q5,q6,q7]
theorem Ow (r:Raw) (f:From) (now:Int):∀ l:List Attr,l.foldl (bQ f now) (mk0 r f now)=BX r f now (Cf l) :=
 iR.lX rfl fun l a ih=>by
  rw [List.foldl_append,ih]
  exact Qi r f now l a
end iE
end Go.Proofs.YtlfdjpgghiemfaaGreatDoor
