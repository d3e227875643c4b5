/- Texts of the proof, joined: HostA, HostB, HostC, HostD. -/
import Derived.Test.YtlfdjpgghiemfaaGreatDoorG16
set_option maxHeartbeats 4000000
set_option maxRecDepth 100000
namespace Go.Proofs.YtlfdjpgghiemfaaGreatDoor
namespace iZ
open Go.RowKit Mem Abs dh
variable {l:List UInt8} {c:UInt8}
theorem Ip:aj Tryz.prog 157 [bB c] (.bool (Ba c)):=by
 refine aW af Tryz.func157 rfl Tryz.ntmps157 Tryz.results157 rfl fun N=>?_
 repeat' (first|refine zW ?_|(refine zs ?_ ?_<;>intro hc)|exact ai)
 all_goals (show V.bool _=V.bool _;congr 1;unfold Ba gU;simp;omega)
abbrev TY:Abs.V:=.fn (.func 157) [] []
theorem X6:aj Tryz.prog 159 [bB c,.fp [TY] 0] (.bool (!Oc c)):=by
 refine aX af Tryz.func159 rfl Tryz.ntmps159 Tryz.results159 rfl fun N=>?_
 have h1:=Ip (c:=c)
 repeat' (first|refine zV ?_|(refine isR ?_;first|refine eT (h1 _) (fun hb=>?_) (fun hb=>?_)|refine eT (h1) (fun hb=>?_) (fun hb=>?_))|refine zW ?_|(refine zs ?_ ?_<;>intro hc)|exact ai)
 all_goals (show V.bool _=V.bool _;congr 1;unfold Oc;simp [*])
 all_goals omega
theorem kZ {r:List Abs.V} (h:V.qH (au l::r)):l.length≤4611686018427387904∧V.qH r:=by
 have:=h.1
 rw [V.Lim,aM] at this
 exact ⟨this,h.2⟩
theorem XR:aj Tryz.prog 121 [au l] (.bool (label l)):=aj.lim fun hl=>by
 obtain ⟨hl,_⟩:=kZ hl
 refine aW af Tryz.func121 rfl Tryz.ntmps121 Tryz.results121 rfl fun N=>?_
 by_cases h0:l=[]
 ·subst h0
  repeat' (first|refine zW ?_|exact ai)
  rfl
 ·have hp:0<l.length:=List.length_pos_iff.2 h0
  have h1:l[(0:Int).toNat]? = some (l[0]):=by simp
  have h2:l[((l.length:Int)-1).toNat]? = some (l[l.length-1]):=by
   rw [show ((l.length:Int)-1).toNat=l.length-1 by omega];simp
  have e1:l.getD 0 0=l[0]:=by rw [List.getD_eq_getElem?_getD,List.getElem?_eq_getElem hp];rfl
  have e2:l.getD (l.length-1) 0=l[l.length-1]:=by rw [List.getD_eq_getElem?_getD,List.getElem?_eq_getElem (by omega)];rfl
  generalize l[0]=a at h1 e1
  generalize l[l.length-1]=b at h2 e2
  have c1:=Ip (c:=a)
  have c2:=Ip (c:=b)
  by_cases hm:63<l.length
  ·repeat' (first|refine zW ?_|exact ai)
   show V.bool _=V.bool _
   congr 1;unfold label;simp;intros;omega
  ·have c3:=fun gl=>FnB.Mw (gl:=gl) (g:=159) (caps:=[.fp [TY] 0]) (p:=fun c => !Oc c) (l:=l) (by kernel_rfl) rfl (by simp only [LIM];omega) (fun c _=>X6 gl)
   repeat' (first|refine zV ?_|(refine isR ?_;first|refine eT (c1 _) (fun hb=>?_) (fun hb=>?_)|refine eT (c1) (fun hb=>?_) (fun hb=>?_)|refine eT (c2 _) (fun hb=>?_) (fun hb=>?_)|refine eT (c2) (fun hb=>?_) (fun hb=>?_)|refine Kw [0] (c3 _) (fun hb=>?_) (fun hb=>?_)|refine Kw [0] (c3) (fun hb=>?_) (fun hb=>?_))|refine zW ?_|exact ai)
   all_goals
    show V.bool _=V.bool _
    congr 1;unfold label;rw [e1,e2]
    have hq:l.length≤63:=by omega
    simp_all
end iZ
namespace qV
open Go.RowKit Mem Abs dh iZ bP bR cZ
abbrev pairT (p:List UInt8 × Nat):Abs.V:=.tup [au p.1,.int .i64 ((p.2:Nat):Int)]
theorem Ou {l:List UInt8}:aj Tryz.prog 95 [au l] (pairT (fM l)):=aj.lim fun hl=>by
 obtain ⟨hl,_⟩:=bP.kZ hl
 have c1:=qm (l:=l)
 refine aW af Tryz.func95 rfl Tryz.ntmps95 Tryz.results95 rfl fun N=>?_
 by_cases h0:253<l.length
 ·repeat' (first|refine zW ?_|exact ai)
  unfold fM;rw [if_pos h0];rfl
 ·obtain ⟨m,hm⟩:∃ m,fold l=m:=⟨_,rfl⟩
  have hml:m.length=l.length:=by rw [← hm,wu]
  have c2:aj _ _ [au m,.int .u8 46] _:=tO (l:=m) (u:=46) (by omega)
  have hs:=uq 46 m
  have es:fM l=if (split 46 m).all label then (m,0) else ([],1):=by unfold fM;rw [if_neg h0,hm]
  rw [es]
  rw [hm] at c1
  clear es hm
  generalize split 46 m=xs at *
  have hx:((xs.map au).length:Int)=(xs.length:Int):=by simp
  repeat' (first|refine zV ?_|(refine isR ?_;first|refine zk c1 ?_|refine zk c2 ?_)|refine zW ?_|exact ai)
  refine bM (fun k=>⟨[(0,au m),(12,yh xs),(13,.int .i64 (xs.map au).length),(14,.int .i64 (k:Int))],[],0,23⟩) (fun k=>k≤xs.length∧rf label xs k) xs.length 0 (by exact ai) ⟨Nat.zero_le _,F7⟩ ?_
  intro k ⟨hk,hq⟩
  by_cases hk2:k<xs.length
  ·have e1:(xs.map au)[k]? = some (au xs[k]):=by simp [hk2]
   have e2:xs[k]? = some xs[k]:=by simp [hk2]
   generalize xs[k]=x at e1 e2
   have c3:=XR (l:=x)
   repeat' (first|refine zV ?_|(refine isR ?_;first|refine nC (c3 _) (fun hb=>?_) (fun hb=>?_)|refine nC (c3) (fun hb=>?_) (fun hb=>?_))|refine zW ?_|exact ai)
   ·exact ⟨⟨by omega,hq.on e2 (by assumption)⟩,by omega,(by exact ai)⟩
   ·rw [Wl e2 (by assumption)];rfl
  ·repeat' (first|refine zW ?_|exact ai)
   rw [hq.all hk2];rfl
end qV
namespace iw
open Go.RowKit Mem Abs dh iM iZ qV bP bR cZ fw
variable {l x m:List UInt8}
theorem Jy {n:Int} (h:Lib.atoiAll x = .ok n):DW x=(n,true):=by unfold DW;rw [h]
theorem Wn (h:∀ n,Lib.atoiAll x ≠ .ok n):(DW x).2=false:=by
 unfold DW
 rcases he:Lib.atoiAll x with n|_|_
 ·exact absurd he (h n)
 ·rfl
 ·rfl
theorem uj (hl:l.length≤4398046511104):av Tryz.prog bG 60 [au l] (.bool (address l)):=by
 have c1:aj _ _ [au l,.int .u8 46] _:=tO (l:=l) (u:=46) hl
 have hs:=uq 46 l
 have hin:=Be (u:=46) (l:=l) (fun _ _=>trivial)
 have ea:address l=(decide ((split 46 l).length=4)&&(split 46 l).all octet):=rfl
 rw [ea]
 generalize split 46 l=xs at *
 clear ea
 have hx:((xs.map au).length:Int)=(xs.length:Int):=by simp
 refine mV af Tryz.func60 rfl Tryz.ntmps60 Tryz.results60 rfl fun N=>?_
 by_cases h4:xs.length=4
 ·simp only [h4,decide_true,Bool.true_and]
  repeat' (first|refine zV ?_|(refine isR ?_;refine zk c1 ?_)|refine zW ?_|exact ai)
  refine bM (fun k=>⟨[(0,au l),(13,yh xs),(14,.int .i64 (xs.map au).length),(15,.int .i64 (k:Int))],[],0,41⟩) (fun k=>k≤xs.length∧rf octet xs k) xs.length 0 (by exact ai) ⟨Nat.zero_le _,F7⟩ ?_
  intro k ⟨hk,hq⟩
  by_cases hk2:k<xs.length
  ·have e1:(xs.map au)[k]? = some (au xs[k]):=by simp [hk2]
   have e2:xs[k]? = some xs[k]:=by simp [hk2]
   generalize xs[k]=x at e1 e2
   have hxl:=hin x (List.mem_of_getElem? e2)
   have a1:=aai (l:=x) (by omega)
   by_cases ho:octet x=true
   ·obtain ⟨n,n1,n2,n3,n4⟩:=(Fb x).1 ho
    rw [Jy n1] at a1
    dsimp only [UF] at a1
    have a2:=Nb (n:=n)
    unfold digits at a2
    rw [n3] at a2
    repeat' (first|refine zV ?_|(refine isR ?_;first|refine zk a1 ?_|refine zk a2 ?_)|refine zW ?_|exact ai)
    exact ⟨⟨by omega,hq.on e2 ho⟩,hk2,(by exact ai)⟩
   ·have hall:=Wl e2 (p:=octet) (by simpa using ho)
    rw [hall]
    by_cases hn:∃ n,Lib.atoiAll x = .ok n
    ·obtain ⟨n,n1⟩:=hn
     rw [Jy n1] at a1
     dsimp only [UF] at a1
     have a2:=Nb (n:=n)
     unfold digits at a2
     by_cases n2:n≤255
     ·by_cases n3:Lib.itoa n=x
      ·rw [n3] at a2
       have n4:n<0:=by
        rcases Int.lt_or_le n 0 with h|h
        ·exact h
        ·exact absurd ((Fb x).2 ⟨n,n1,n2,n3,h⟩) ho
       repeat' (first|refine zV ?_|(refine isR ?_;first|refine zk a1 ?_|refine zk a2 ?_)|refine zW ?_|exact ai)
       rfl
      ·repeat' (first|refine zV ?_|(refine isR ?_;first|refine zk a1 ?_|refine zk a2 ?_)|refine zW ?_|exact ai)
       rfl
     ·repeat' (first|refine zV ?_|(refine isR ?_;first|refine zk a1 ?_|refine zk a2 ?_)|refine zW ?_|exact ai)
      rfl
    ·have a0:=Wn fun n h=>hn ⟨n,h⟩
     rw [a0] at a1
     dsimp only [UF] at a1
     repeat' (first|refine zV ?_|(refine isR ?_;refine zk a1 ?_)|refine zW ?_|exact ai)
     rfl
  ·repeat' (first|refine zW ?_|exact ai)
   rw [hq.all hk2];rfl
 ·simp only [h4,decide_false,Bool.false_and]
  repeat' (first|refine zV ?_|(refine isR ?_;refine zk c1 ?_)|refine zW ?_|exact ai)
  rfl
theorem qU:aj Tryz.prog 93 [au l,au m] (.bool (zX l m)):=fun g N w vs hG hN hlen hv=>by
 obtain ⟨vs⟩:=vs
 match vs,hlen with
 | [x0,x1],_ =>
  obtain ⟨rfl,h0⟩:=iG (hv 0 _ x0 rfl rfl)
  obtain ⟨rfl,h1⟩:=iG (hv 1 _ x1 rfl rfl)
  simp only [dS] at h0
  refine (Tryz.strings_HasSuffix (str l) (str m) w (by omega)).mono fun e w' ⟨h2,h3⟩=>⟨_,h2,by rw [h3];exact Below.refl _ _,?_⟩
  have:Lib.hasSuffix (str l).data.toList (str m).data.toList=zX l m:=by
   rw [bf,bf,Bool.eq_iff_iff,Gl]
   unfold Lib.hasSuffix
   rw [List.isSuffixOf_iff_suffix]
   exact ⟨fun ⟨x,hx⟩=>⟨x,hx.symm⟩,fun ⟨x,hx⟩=>⟨x,hx.symm⟩⟩
  rw [this];exact .bool
theorem Ao (hl:l.length≤4398046511104) (hm:m.length≤140737488355327):av Tryz.prog bG 179 [au l,au m] (.bool (kK l m)):=by
 have c1:=uj hl
 have c2:=qU (l:=l) (m:=[46]++m)
 have em:kK l m=(l==m||(!address l&&zX l ([46]++m))):=rfl
 rw [em]
 refine iL af Tryz.func179 rfl Tryz.ntmps179 Tryz.results179 rfl fun N=>?_
 repeat' (first|refine zV ?_|(refine isR ?_;first|refine nC (c1 _) (fun hb=>?_) (fun hb=>?_)|refine nC (c1) (fun hb=>?_) (fun hb=>?_)|refine nC (c2 _) (fun hb=>?_) (fun hb=>?_)|refine nC (c2) (fun hb=>?_) (fun hb=>?_))|refine zW ?_|(refine zs ?_ ?_<;>intro hc)|exact ai)
 all_goals (show V.bool _=V.bool _;simp_all)
end iw
namespace wH
open Go.RowKit Mem Abs dh iM iZ qV iw bP bR cZ fw
end wH
end Go.Proofs.YtlfdjpgghiemfaaGreatDoor
