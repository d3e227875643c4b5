/- Texts of the proof, joined: HostC, HostD. -/
import Derived.Test.YtlfdjpgghiemfaaGreatDoorH17
set_option maxHeartbeats 4000000
set_option maxRecDepth 100000
namespace Go.Proofs.YtlfdjpgghiemfaaGreatDoor
namespace gV
open Go.RowKit Mem Abs cu iR jh rA bH bX dn eO
variable {x l:List UInt8} {k:Nat} {m:List UInt8} {c:UInt8}
theorem AR (hk:k≤l.length) (h:lK dB l k) (he:∀ c,l[k]? = some c→dB c=false):lead l=l.take k:=by
 induction l generalizing k with
 | nil=>simp [lead]
 | cons c r ih =>
  unfold lead
  cases k with
  | zero =>
   rw [List.takeWhile_cons,if_neg (by rw [he c rfl];simp)]
   rfl
  | succ k =>
   rw [List.takeWhile_cons,if_pos (h 0 c (by omega) rfl),List.take_succ_cons]
   congr 1
   exact ih (by simpa using hk) (fun j y hj hy=>h (j+1) y (by omega) (by simpa using hy)) (fun x hx=>he x (by simpa using hx))
theorem abj (h:l[k]? = some c) (hk:k<5):value ((l.take (k+1)).take 5)=10*value ((l.take k).take 5)+(c.toNat-48):=by
 have hl:=(List.getElem?_eq_some_iff.1 h)
 rw [List.take_take,List.take_take,Nat.min_eq_right (by omega),Nat.min_eq_right (by omega),List.take_succ_eq_append_getElem hl.1,qo,hl.2]
theorem Ra (hk:¬ k<5):value ((l.take (k+1)).take 5)=value ((l.take k).take 5):=by
 rw [List.take_take,List.take_take,Nat.min_eq_left (by omega),Nat.min_eq_left (by omega)]
theorem zi (h:lK dB l k):(l.take k).all dB=true:=List.all_eq_true.2 fun x hx=>by
 obtain ⟨i,hi⟩:=List.mem_iff_getElem?.1 hx
 rw [List.getElem?_take] at hi
 split at hi
 ·exact h i x (by assumption) hi
 ·cases hi
theorem Rh (h:lK dB l k):value ((l.take k).take 5)<100000:=by
 have h1:=zi h
 have h2:((l.take k).take 5).all dB=true:=List.all_eq_true.2 fun x hx=>List.all_eq_true.1 h1 x (List.mem_of_mem_take hx)
 have h3:=xX _ h2
 have h4:((l.take k).take 5).length≤5:=by simp;omega
 have h5:10^((l.take k).take 5).length≤10^5:=Nat.pow_le_pow_right (by decide) h4
 omega
theorem Ii (h:dB c=true):48≤c.toNat∧c.toNat≤57:=by
 unfold dB at h
 simpa using h
abbrev VA (a b:Nat):Abs.V:=.tup [.int .i64 (a:Int),.int .i64 (b:Int)]
theorem Ik:aj Tryz.prog 156 [au l] (VA (lead l).length (Am l)):=aj.lim fun hl=>by
 obtain ⟨hl,_⟩:=bH.gK hl
 refine aU af Tryz.func156 rfl Tryz.ntmps156 Tryz.results156 rfl fun N=>?_
 repeat' (first|refine zt ?_|(refine isR ?_;first|refine zo ?_|refine zX ?_)|refine zr ?_|exact ah)
 refine bE (fun k=>⟨[(0,au l),(4,.int .i64 (k:Int)),(5,.int .i64 ((value ((l.take k).take 5):Nat):Int))],[],0,30⟩) (fun k=>k≤l.length∧lK dB l k) l.length 0 ?_ ⟨Nat.zero_le _,vo⟩ ?_
 ·have e:value ((l.take 0).take 5)=0:=rfl
  rw [e]
  exact (by exact ah)
 ·intro k ⟨hk,hq⟩
  have hv:=Rh hq
  have fin:(∀ c,l[k]? = some c→dB c=false)→VA k (value ((l.take k).take 5))=VA (lead l).length (Am l):=fun he=>by
   unfold Am
   rw [AR hk hq he,List.length_take,Nat.min_eq_left hk]
  by_cases hk2:k<l.length
  ·have e1:l[k]? = some l[k]:=by simp [hk2]
   generalize l[k]=c at e1
   have hd:=Gp (c:=c)
   have hc:=c.toNat_lt
   by_cases hdc:dB c=true
   ·rw [hdc] at hd
    have hn:=Ii hdc
    have e5:=abj e1
    have e6:=Ra (l:=l) (k:=k)
    generalize hm:value ((l.take k).take 5)=m at *
    by_cases h5:k<5
    ·have e5:=e5 h5
     repeat' (first|refine zt ?_|(refine isR ?_;first|refine zo ?_|refine zk hd ?_|refine zX ?_)|refine zr ?_|exact ah)
     refine ⟨⟨by omega,hq.on e1 hdc⟩,hk2,?_⟩
     rw [e5,show ((10*m+(c.toNat-48):Nat):Int)=(m:Int)*10+(c.toNat:Int)-48 by omega]
     exact (by exact ah)
    ·have e6:=e6 h5
     repeat' (first|refine zt ?_|(refine isR ?_;first|refine zo ?_|refine zk hd ?_|refine zX ?_)|refine zr ?_|exact ah)
     refine ⟨⟨by omega,hq.on e1 hdc⟩,hk2,?_⟩
     rw [e6]
     exact (by exact ah)
   ·simp only [Bool.not_eq_true] at hdc
    rw [hdc] at hd
    repeat' (first|refine zt ?_|(refine isR ?_;first|refine zo ?_|refine zk hd ?_|refine zX ?_)|refine zr ?_|exact ah)
    exact fin fun x hx=>by rw [e1] at hx;cases hx;exact hdc
  ·repeat' (first|refine zt ?_|(refine isR ?_;first|refine zo ?_|refine zX ?_)|refine zr ?_|exact ah)
   exact fin fun x hx=>by have:=(List.getElem?_eq_some_iff.1 hx).1;omega
theorem Jz {n:Int} (h:Lib.atoiAll x = .ok n):Ef x=(n,true):=by unfold Ef;rw [h]
theorem Xl (h:∀ n,Lib.atoiAll x ≠ .ok n):(Ef x).2=false:=by
 unfold Ef
 rcases he:Lib.atoiAll x with n|_|_
 ·exact absurd he (h n)
 ·rfl
 ·rfl
theorem tZ (hl:l.length≤4398046511104):av Tryz.prog bI 60 [au l] (.bool (address l)):=by
 have c1:aj _ _ [au l,.int .u8 46] _:=uq (l:=l) (u:=46) hl
 have hs:=jO 46 l
 have hin:=xR (u:=46) (l:=l) (fun _ _=>trivial)
 have ea:address l=(decide ((split 46 l).length=4)&&(split 46 l).all octet):=rfl
 rw [ea]
 generalize split 46 l=xs at *
 clear ea
 have hx:((xs.map au).length:Int)=(xs.length:Int):=by simp
 refine lZ af Tryz.func60 rfl Tryz.ntmps60 Tryz.results60 rfl fun N=>?_
 by_cases h4:xs.length=4
 ·simp only [h4,decide_true,Bool.true_and]
  repeat' (first|refine zt ?_|(refine isR ?_;first|refine zo ?_|refine zk c1 ?_|refine zX ?_)|refine zr ?_|exact ah)
  refine bE (fun k=>⟨[(0,au l),(13,qM xs),(14,.int .i64 (xs.map au).length),(15,.int .i64 (k:Int))],[],0,41⟩) (fun k=>k≤xs.length∧lK octet xs k) xs.length 0 (by exact ah) ⟨Nat.zero_le _,vo⟩ ?_
  intro k ⟨hk,hq⟩
  by_cases hk2:k<xs.length
  ·have e1:(xs.map au)[k]? = some (au xs[k]):=by simp [hk2]
   have e2:xs[k]? = some xs[k]:=by simp [hk2]
   generalize xs[k]=x at e1 e2
   have hxl:=hin x (List.mem_of_getElem? e2)
   have a1:=acD (l:=x) (by omega)
   by_cases ho:octet x=true
   ·obtain ⟨n,n1,n2,n3,n4⟩:=(E9 x).1 ho
    rw [Jz n1] at a1
    dsimp only [TN] at a1
    have a2:=MX (n:=n)
    unfold digits at a2
    rw [n3] at a2
    repeat' (first|refine zt ?_|(refine isR ?_;first|refine zo ?_|refine zk a1 ?_|refine zk a2 ?_|refine zX ?_)|refine zr ?_|exact ah)
    exact ⟨⟨by omega,hq.on e2 ho⟩,hk2,(by exact ah)⟩
   ·have hall:=zh e2 (p:=octet) (by simpa using ho)
    rw [hall]
    by_cases hn:∃ n,Lib.atoiAll x = .ok n
    ·obtain ⟨n,n1⟩:=hn
     rw [Jz n1] at a1
     dsimp only [TN] at a1
     have a2:=MX (n:=n)
     unfold digits at a2
     by_cases n2:n≤255
     ·by_cases n3:Lib.itoa n=x
      ·rw [n3] at a2
       have n4:n<0:=by
        rcases Int.lt_or_le n 0 with h|h
        ·exact h
        ·exact absurd ((E9 x).2 ⟨n,n1,n2,n3,h⟩) ho
       repeat' (first|refine zt ?_|(refine isR ?_;first|refine zo ?_|refine zk a1 ?_|refine zk a2 ?_|refine zX ?_)|refine zr ?_|exact ah)
       rfl
      ·repeat' (first|refine zt ?_|(refine isR ?_;first|refine zo ?_|refine zk a1 ?_|refine zk a2 ?_|refine zX ?_)|refine zr ?_|exact ah)
       rfl
     ·repeat' (first|refine zt ?_|(refine isR ?_;first|refine zo ?_|refine zk a1 ?_|refine zk a2 ?_|refine zX ?_)|refine zr ?_|exact ah)
      rfl
    ·have a0:=Xl fun n h=>hn ⟨n,h⟩
     rw [a0] at a1
     dsimp only [TN] at a1
     repeat' (first|refine zt ?_|(refine isR ?_;first|refine zo ?_|refine zk a1 ?_|refine zX ?_)|refine zr ?_|exact ah)
     rfl
  ·repeat' (first|refine zt ?_|(refine isR ?_;first|refine zo ?_|refine zX ?_)|refine zr ?_|exact ah)
   rw [hq.all hk2];rfl
 ·simp only [h4,decide_false,Bool.false_and]
  repeat' (first|refine zt ?_|(refine isR ?_;first|refine zo ?_|refine zk c1 ?_|refine zX ?_)|refine zr ?_|exact ah)
  rfl
theorem JE (hl:l.length≤4398046511104):aj Tryz.prog 118 [au l] (.bool (address l)):=by
 have c1:aj _ _ [au l,.int .u8 46] _:=F5 (l:=l) (u:=46) hl
 have hs:=jO 46 l
 have hin:=xR (u:=46) (l:=l) (fun _ _=>trivial)
 have ea:address l=(decide ((split 46 l).length=4)&&(split 46 l).all octet):=rfl
 rw [ea]
 generalize split 46 l=xs at *
 clear ea
 have hx:((xs.map au).length:Int)=(xs.length:Int):=by simp
 refine aU af Tryz.func118 rfl Tryz.ntmps118 Tryz.results118 rfl fun N=>?_
 by_cases h4:xs.length=4
 ·simp only [h4,decide_true,Bool.true_and]
  repeat' (first|refine zt ?_|(refine isR ?_;first|refine zo ?_|refine zk c1 ?_|refine zX ?_|(refine zs ?_ ?_<;>intro hc))|refine zr ?_|exact ah)
  refine bE (fun k=>⟨[(0,au l),(3,qM xs),(4,.int .i64 (k:Int))],[],0,55⟩) (fun k=>k≤xs.length∧lK octet xs k) xs.length 0 (by exact ah) ⟨Nat.zero_le _,vo⟩ ?_
  intro k ⟨hk,hq⟩
  by_cases hk2:k<xs.length
  ·have e1:(xs.map au)[k]? = some (au xs[k]):=by simp [hk2]
   have e2:xs[k]? = some xs[k]:=by simp [hk2]
   generalize xs[k]=x at e1 e2
   have hxl:=hin x (List.mem_of_getElem? e2)
   have a1:=Ik (l:=x)
   have eo:=OD x
   have hle:(lead x).length≤x.length:=(List.takeWhile_prefix dB (l:=x)).length_le
   have hvl:Am x<100000:=by
    have h1:((lead x).take 5).all dB=true:=List.all_eq_true.2 fun y hy=>List.all_eq_true.1 (Bp x) y (List.mem_of_mem_take hy)
    have h2:=xX _ h1
    have h3:((lead x).take 5).length≤5:=by simp;omega
    have h4:10^((lead x).take 5).length≤10^5:=Nat.pow_le_pow_right (by decide) h3
    unfold Am;omega
   generalize (lead x).length=a at a1 eo hle
   generalize Am x=b at a1 eo hvl
   cases x with
   | nil =>
    have hz:a=0:=by simp at hle;exact hle
    subst hz
    rw [zh e2 (p:=octet) (by rfl)]
    repeat' (first|refine zt ?_|(refine isR ?_;first|refine zo ?_|refine zk a1 ?_|refine zX ?_|(refine zs ?_ ?_<;>intro hc))|refine zr ?_|exact ah)
    rfl
   | cons c r =>
    have e3:(c::r)[(0:Int).toNat]? = some c:=rfl
    have hc:=c.toNat_lt
    have eg:(c::r).getD 0 0=c:=rfl
    rw [eg] at eo
    have e48:(c==48)=decide ((c.toNat:Int)=48):=by
     by_cases h:c=48
     ·subst h;rfl
     ·have:¬ ((c.toNat:Int)=48):=fun e=>h (UInt8.toNat.inj (by simpa using Int.ofNat.inj e))
      simp [h,this]
    rw [e48] at eo
    have hcr:(c::r).length=r.length+1:=List.length_cons
    rw [hcr] at eo
    repeat' (first|refine zt ?_|(refine isR ?_;first|refine zo ?_|refine zk a1 ?_|refine zX ?_|(refine zs ?_ ?_<;>intro hc))|refine zr ?_|exact ah)
    all_goals first
     | (rw [zh e2 (p := octet) (by rw [eo]; simp; try omega)]
        rfl)
     | exact ⟨⟨by omega,hq.on e2 (by rw [eo];simp;try omega)⟩,hk2,(by exact ah)⟩
  ·repeat' (first|refine zt ?_|(refine isR ?_;first|refine zo ?_|refine zX ?_|(refine zs ?_ ?_<;>intro hc))|refine zr ?_|exact ah)
   rw [hq.all hk2];rfl
 ·simp only [h4,decide_false,Bool.false_and]
  repeat' (first|refine zt ?_|(refine isR ?_;first|refine zo ?_|refine zk c1 ?_|refine zX ?_|(refine zs ?_ ?_<;>intro hc))|refine zr ?_|exact ah)
  rfl
theorem tK:aj Tryz.prog 93 [au l,au m] (.bool (qI l m)):=fun g N w vs hG hN hlen hv=>by
 obtain ⟨vs⟩:=vs
 match vs,hlen with
 | [x0,x1],_ =>
  obtain ⟨rfl,h0⟩:=iJ (hv 0 _ x0 rfl rfl)
  obtain ⟨rfl,h1⟩:=iJ (hv 1 _ x1 rfl rfl)
  simp only [dY] at h0
  refine (Tryz.strings_HasSuffix (str l) (str m) w (by omega)).mono fun e w' ⟨h2,h3⟩=>⟨_,h2,by rw [h3];exact Below.refl _ _,?_⟩
  have:Lib.hasSuffix (str l).data.toList (str m).data.toList=qI l m:=by
   rw [aY,aY,Bool.eq_iff_iff,FJ]
   unfold Lib.hasSuffix
   rw [List.isSuffixOf_iff_suffix]
   exact ⟨fun ⟨x,hx⟩=>⟨x,hx.symm⟩,fun ⟨x,hx⟩=>⟨x,hx.symm⟩⟩
  rw [this];exact .bool
theorem A9 (hl:l.length≤4398046511104) (hm:m.length≤140737488355327):av Tryz.prog bI 179 [au l,au m] (.bool (iq l m)):=by
 have c1:=tZ hl
 have c2:=tK (l:=l) (m:=[46]++m)
 have em:iq l m=(l==m||(!address l&&qI l ([46]++m))):=rfl
 rw [em]
 refine gQ af Tryz.func179 rfl Tryz.ntmps179 Tryz.results179 rfl fun N=>?_
 repeat' (first|refine zt ?_|(refine isR ?_;first|refine zo ?_|refine iY (c1 _) (fun hb=>?_) (fun hb=>?_)|refine iY (c1) (fun hb=>?_) (fun hb=>?_)|refine iY (c2 _) (fun hb=>?_) (fun hb=>?_)|refine iY (c2) (fun hb=>?_) (fun hb=>?_)|refine zA ?_|(refine zs5 ?_ ?_<;>intro hc))|refine zr ?_|exact ah)
 all_goals (show V.bool _=V.bool _;simp_all)
theorem KM (h:l.length<m.length):iq l m=false:=by
 unfold iq qI
 have h1:(l==m)=false:=by
  simp only [beq_eq_false_iff_ne]
  intro e;rw [e] at h;omega
 have h2:decide ((46::m).length≤l.length)=false:=by simp;omega
 rw [h1,h2];simp
theorem NJ {d:Nat} (h:m.length+d=l.length):iq l m=(decide (l.drop d=m)&&(decide (d=0)||(!address l&&decide (l[d-1]? = some 46)))):=by
 rcases Nat.eq_zero_or_pos d with rfl|hd
 ·have hl:m.length=l.length:=by omega
  unfold iq qI
  have h2:decide ((46::m).length≤l.length)=false:=by simp;omega
  rw [h2]
  simp only [List.drop_zero,decide_true,Bool.true_or,Bool.and_true,Bool.false_and,Bool.and_false,Bool.or_false]
  by_cases e:l=m<;>simp [e]
 ·have e1:(l==m)=false:=by
   simp only [beq_eq_false_iff_ne]
   intro e;rw [e] at h;omega
  have h2:decide ((46::m).length≤l.length)=true:=by simp;omega
  have hlt:d-1<l.length:=by omega
  have h3:l.length-(46::m).length=d-1:=by simp;omega
  have h4:l.drop (d-1)=l[d-1]::l.drop d:=by
   have:=List.drop_eq_getElem_cons hlt
   rw [this,show d-1+1=d by omega]
  unfold iq qI
  rw [e1,h2,h3,h4,List.getElem?_eq_getElem hlt]
  have hd0:decide (d=0)=false:=by simp;omega
  rw [hd0]
  by_cases k1:l.drop d=m<;>by_cases k2:l[d-1]=46<;>simp [k1,k2]
theorem RJ (hl:l.length≤4398046511104) (hm:m.length≤140737488355327):aj Tryz.prog 90 [au l,au m] (.bool (iq l m)):=by
 have c1:=JE hl
 refine aW af Tryz.func90 rfl Tryz.ntmps90 Tryz.results90 rfl fun N=>?_
 by_cases hlt:l.length<m.length
 ·rw [KM hlt]
  repeat' (first|refine zt ?_|(refine isR ?_;first|refine zo ?_|refine zX ?_|(refine zs5 ?_ ?_<;>intro hc))|refine zr ?_|exact ah)
  rfl
 ·obtain ⟨d,hd⟩:∃ d,m.length+d=l.length:=⟨l.length-m.length,by omega⟩
  rw [NJ hd]
  have ed:(l.length:Int)-(m.length:Int)=(d:Int):=by omega
  have hdr:List.drop ((d:Int)).toNat l=l.drop d:=rfl
  by_cases h1:l.drop d=m
  ·have h1':List.drop ((d:Int)).toNat l=m:=h1
   rcases Nat.eq_zero_or_pos d with rfl|hp
   ·repeat' (first|refine zt ?_|(refine isR ?_;first|refine zo ?_|refine zX ?_|(refine zs5 ?_ ?_<;>intro hc))|refine zr ?_|exact ah)
    simp [h1];rfl
   ·have e1:l[d-1]? = some (l[d-1]'(by omega)):=by simp
    generalize l[d-1]'(by omega)=c at e1
    have e2:l[((d:Int)-1).toNat]? = some c:=by rw [show ((d:Int)-1).toNat=d-1 by omega];exact e1
    have e46:decide (l[d-1]? = some 46)=decide ((c.toNat:Int)=46):=by
     rw [e1]
     by_cases h:c=46
     ·subst h;rfl
     ·have:¬ ((c.toNat:Int)=46):=fun e=>h (UInt8.toNat.inj (by simpa using Int.ofNat.inj e))
      simp [h,this]
    rw [e46]
    have hd0:decide (d=0)=false:=by simp;omega
    rw [hd0]
    repeat' (first|refine zt ?_|(refine isR ?_;first|refine zo ?_|refine iY (c1 _) (fun hb=>?_) (fun hb=>?_)|refine iY (c1) (fun hb=>?_) (fun hb=>?_)|refine zX ?_|(refine zs5 ?_ ?_<;>intro hc))|refine zr ?_|exact ah)
    all_goals (show V.bool _=V.bool _;simp [*])
  ·have h1':¬ List.drop ((d:Int)).toNat l=m:=h1
   repeat' (first|refine zt ?_|(refine isR ?_;first|refine zo ?_|refine zX ?_|(refine zs5 ?_ ?_<;>intro hc))|refine zr ?_|exact ah)
   simp [h1];rfl
end gV
namespace xh
open Go.RowKit Mem Abs cu iR jh rA gV bH bX dn eO
end xh
end Go.Proofs.YtlfdjpgghiemfaaGreatDoor
