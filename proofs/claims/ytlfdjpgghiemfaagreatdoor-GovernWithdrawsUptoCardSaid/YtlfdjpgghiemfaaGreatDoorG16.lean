/- Texts of the proof, joined: HostA, HostB, HostC, HostD. -/
import Derived.Test.YtlfdjpgghiemfaaGreatDoorG14
import Derived.Test.YtlfdjpgghiemfaaGreatDoorG15
set_option maxHeartbeats 4000000
set_option maxRecDepth 100000
section
namespace Go.Proofs.YtlfdjpgghiemfaaGreatDoor.HostA
open Go.RowKit Mem Abs HostP
theorem outer_v {c:UInt8}:ACalls Tryz.prog 157 [byteT c] (.bool (outerB c)):=by
 refine fun1 tb_ok Tryz.func157 rfl Tryz.ntmps157 Tryz.results157 rfl fun N=>?_
 repeat' (first|refine zt ?_|(refine isR ?_;first|refine zo ?_|refine zc2 ?_|refine zc4 ?_|(refine zs2 ?_ ?_<;>intro hc)|(refine zs4 ?_ ?_<;>intro hc))|refine zr ?_|exact x_le)
 all_goals (show V.bool _=V.bool _;congr 1;unfold outerB digB;simp;omega)
abbrev outerT:Abs.V:=.fn (.func 157) [] []
theorem inner_v {c:UInt8}:ACalls Tryz.prog 159 [byteT c,.fp [outerT] 0] (.bool (!hostB c)):=by
 refine fun2 tb_ok Tryz.func159 rfl Tryz.ntmps159 Tryz.results159 rfl fun N=>?_
 have h1:=outer_v (c:=c)
 repeat' (first|refine zt ?_|(refine isR ?_;first|refine zo ?_|refine x_callvS (h1 _) (fun hb=>?_) (fun hb=>?_)|refine x_callvS (h1) (fun hb=>?_) (fun hb=>?_)|(refine zs6 ?_ ?_<;>intro hc))|refine zr ?_|exact x_le)
 all_goals (show V.bool _=V.bool _;congr 1;unfold hostB;simp [*])
 all_goals omega
theorem str_lim {l:List UInt8} {r:List Abs.V} (h:V.LimL (strT l::r)):l.length≤4611686018427387904∧V.LimL r:=by
 have:=h.1
 rw [V.Lim,str_size] at this
 exact ⟨this,h.2⟩
theorem label_v {l:List UInt8}:ACalls Tryz.prog 121 [strT l] (.bool (label l)):=ACalls.lim fun hl=>by
 obtain ⟨hl,_⟩:=str_lim hl
 refine fun1 tb_ok Tryz.func121 rfl Tryz.ntmps121 Tryz.results121 rfl fun N=>?_
 by_cases h0:l=[]
 ·subst h0
  repeat' (first|refine zt ?_|(refine isR ?_;first|refine zo ?_|refine zA ?_|refine zL ?_|refine zc3 ?_|refine zc5 ?_|refine zI ?_|refine zB ?_)|refine zr ?_|exact x_le)
  rfl
 ·have hp:0<l.length:=List.length_pos_iff.2 h0
  have h1:l[(0:Int).toNat]? = some (l[0]):=by simp
  have h2:l[((l.length:Int)-1).toNat]? = some (l[l.length-1]):=by
   rw [show ((l.length:Int)-1).toNat=l.length-1 by omega];simp
  have e1:l.getD 0 0=l[0]:=by rw [List.getD_eq_getElem?_getD,List.getElem?_eq_getElem hp];rfl
  have e2:l.getD (l.length-1) 0=l[l.length-1]:=by rw [List.getD_eq_getElem?_getD,List.getElem?_eq_getElem (by omega)];rfl
  generalize l[0]=a at h1 e1
  generalize l[l.length-1]=b at h2 e2
  have c1:=outer_v (c:=a)
  have c2:=outer_v (c:=b)
  by_cases hm:63<l.length
  ·skip
   repeat' (first|refine zt ?_|(refine isR ?_;first|refine zo ?_|refine zA ?_|refine zL ?_|refine zc3 ?_|refine zc5 ?_|refine zI ?_|refine zB ?_)|refine zr ?_|exact x_le)
   show V.bool _=V.bool _
   congr 1;unfold label;simp;intros;omega
  ·have c3:=fun gl=>FnB.contains_b (gl:=gl) (g:=159) (caps:=[.fp [outerT] 0]) (p:=fun c => !hostB c) (l:=l) (by kernel_rfl) rfl (by simp only [LIM];omega) (fun c _=>inner_v gl)
   repeat' (first|refine zt ?_|(refine isR ?_;first|refine zo ?_|refine x_callvS (c1 _) (fun hb=>?_) (fun hb=>?_)|refine x_callvS (c1) (fun hb=>?_) (fun hb=>?_)|refine x_callvS (c2 _) (fun hb=>?_) (fun hb=>?_)|refine x_callvS (c2) (fun hb=>?_) (fun hb=>?_)|refine x_callzS [0] (c3 _) (fun hb=>?_) (fun hb=>?_)|refine x_callzS [0] (c3) (fun hb=>?_) (fun hb=>?_)|refine zA ?_|refine zL ?_|refine zc3 ?_|refine zc5 ?_|refine zI ?_|refine zB ?_)|refine zr ?_|exact x_le)
   all_goals
    show V.bool _=V.bool _
    congr 1;unfold label;rw [e1,e2]
    have hq:l.length≤63:=by omega
    simp_all
end Go.Proofs.YtlfdjpgghiemfaaGreatDoor.HostA
end
section
namespace Go.Proofs.YtlfdjpgghiemfaaGreatDoor.HostB
open Go.RowKit Mem Abs HostP HostA TreeW WordP WordS
abbrev pairT (p:List UInt8 × Nat):Abs.V:=.tup [strT p.1,.int .i64 ((p.2:Nat):Int)]
theorem canon_v {l:List UInt8}:ACalls Tryz.prog 95 [strT l] (pairT (canonF l)):=ACalls.lim fun hl=>by
 obtain ⟨hl,_⟩:=TreeW.str_lim hl
 have c1:=fold_v (l:=l)
 refine fun1 tb_ok Tryz.func95 rfl Tryz.ntmps95 Tryz.results95 rfl fun N=>?_
 by_cases h0:253<l.length
 ·skip
  repeat' (first|refine zt ?_|(refine isR ?_;first|refine zo ?_|refine zA ?_|refine zL ?_|refine zc1 ?_|refine zc3 ?_|refine zI ?_)|refine zr ?_|exact x_le)
  unfold canonF;rw [if_pos h0];rfl
 ·obtain ⟨m,hm⟩:∃ m,fold l=m:=⟨_,rfl⟩
  have hml:m.length=l.length:=by rw [← hm,fold_len]
  have c2:ACalls _ _ [strT m,.int .u8 46] _:=parts_v (l:=m) (u:=46) (by omega)
  have hs:=split_len 46 m
  have es:canonF l=if (split 46 m).all label then (m,0) else ([],1):=by unfold canonF;rw [if_neg h0,hm]
  rw [es]
  rw [hm] at c1
  clear es hm
  generalize split 46 m=xs at *
  have hx:((xs.map strT).length:Int)=(xs.length:Int):=by simp
  repeat' (first|refine zt ?_|(refine isR ?_;first|refine zo ?_|refine zk c1 ?_|refine zk c2 ?_|refine zA ?_|refine zL ?_|refine zc1 ?_|refine zc3 ?_|refine zI ?_)|refine zr ?_|exact x_le)
  refine awp_for (fun k=>⟨[(0,strT m),(12,strsT xs),(13,.int .i64 (xs.map strT).length),(14,.int .i64 (k:Int))],[],0,23⟩) (fun k=>k≤xs.length∧Upto label xs k) xs.length 0 (by exact x_le) ⟨Nat.zero_le _,upto0⟩ ?_
  intro k ⟨hk,hq⟩
  by_cases hk2:k<xs.length
  ·have e1:(xs.map strT)[k]? = some (strT xs[k]):=by simp [hk2]
   have e2:xs[k]? = some xs[k]:=by simp [hk2]
   generalize xs[k]=x at e1 e2
   have c3:=label_v (l:=x)
   repeat' (first|refine zt ?_|(refine isR ?_;first|refine zo ?_|refine x_callS (c3 _) (fun hb=>?_) (fun hb=>?_)|refine x_callS (c3) (fun hb=>?_) (fun hb=>?_)|refine zA ?_|refine zL ?_|refine zc1 ?_|refine zc3 ?_|refine zI ?_)|refine zr ?_|exact x_le)
   ·exact ⟨⟨by omega,hq.on e2 (by assumption)⟩,by omega,(by exact x_le)⟩
   ·rw [all_no e2 (by assumption)];rfl
  ·skip
   repeat' (first|refine zt ?_|(refine isR ?_;first|refine zo ?_|refine zA ?_|refine zL ?_|refine zc1 ?_|refine zc3 ?_|refine zI ?_)|refine zr ?_|exact x_le)
   rw [hq.all hk2];rfl
end Go.Proofs.YtlfdjpgghiemfaaGreatDoor.HostB
end
section
namespace Go.Proofs.YtlfdjpgghiemfaaGreatDoor.HostC
open Go.RowKit Mem Abs HostP HostO HostA HostB TreeW WordP WordS Globs
abbrev pairN (a b:Nat):Abs.V:=.tup [.int .i64 (a:Int),.int .i64 (b:Int)]
theorem atoiF_ok {x:List UInt8} {n:Int} (h:Lib.atoiAll x = .ok n):atoiF x=(n,true):=by unfold atoiF;rw [h]
theorem atoiF_no {x:List UInt8} (h:∀ n,Lib.atoiAll x ≠ .ok n):(atoiF x).2=false:=by
 unfold atoiF
 rcases he:Lib.atoiAll x with n|_|_
 ·exact absurd he (h n)
 ·rfl
 ·rfl
theorem address_v {l:List UInt8} (hl:l.length≤4398046511104):ACallsG Tryz.prog gStr 60 [strT l] (.bool (address l)):=by
 have c1:ACalls _ _ [strT l,.int .u8 46] _:=parts_v (l:=l) (u:=46) hl
 have hs:=split_len 46 l
 have hin:=split_in (u:=46) (l:=l) (fun _ _=>trivial)
 have ea:address l=(decide ((split 46 l).length=4)&&(split 46 l).all octet):=rfl
 rw [ea]
 generalize split 46 l=xs at *
 clear ea
 have hx:((xs.map strT).length:Int)=(xs.length:Int):=by simp
 refine funG1 tb_ok Tryz.func60 rfl Tryz.ntmps60 Tryz.results60 rfl fun N=>?_
 by_cases h4:xs.length=4
 ·simp only [h4,decide_true,Bool.true_and]
  repeat' (first|refine zt ?_|(refine isR ?_;first|refine zo ?_|refine zk c1 ?_|refine zA ?_|refine zL ?_|refine zc1 ?_|refine zc3 ?_|refine zc6 ?_|refine zI ?_)|refine zr ?_|exact x_le)
  refine awp_for (fun k=>⟨[(0,strT l),(13,strsT xs),(14,.int .i64 (xs.map strT).length),(15,.int .i64 (k:Int))],[],0,41⟩) (fun k=>k≤xs.length∧Upto octet xs k) xs.length 0 (by exact x_le) ⟨Nat.zero_le _,upto0⟩ ?_
  intro k ⟨hk,hq⟩
  by_cases hk2:k<xs.length
  ·have e1:(xs.map strT)[k]? = some (strT xs[k]):=by simp [hk2]
   have e2:xs[k]? = some xs[k]:=by simp [hk2]
   generalize xs[k]=x at e1 e2
   have hxl:=hin x (List.mem_of_getElem? e2)
   have a1:=atoi_v (l:=x) (by omega)
   by_cases ho:octet x=true
   ·obtain ⟨n,n1,n2,n3,n4⟩:=(octet_iff x).1 ho
    rw [atoiF_ok n1] at a1
    dsimp only [errT] at a1
    have a2:=itoa_v (n:=n)
    unfold digits at a2
    rw [n3] at a2
    repeat' (first|refine zt ?_|(refine isR ?_;first|refine zo ?_|refine zk a1 ?_|refine zk a2 ?_|refine zA ?_|refine zL ?_|refine zc1 ?_|refine zc3 ?_|refine zc6 ?_|refine zI ?_)|refine zr ?_|exact x_le)
    exact ⟨⟨by omega,hq.on e2 ho⟩,hk2,(by exact x_le)⟩
   ·have hall:=all_no e2 (p:=octet) (by simpa using ho)
    rw [hall]
    by_cases hn:∃ n,Lib.atoiAll x = .ok n
    ·obtain ⟨n,n1⟩:=hn
     rw [atoiF_ok n1] at a1
     dsimp only [errT] at a1
     have a2:=itoa_v (n:=n)
     unfold digits at a2
     by_cases n2:n≤255
     ·by_cases n3:Lib.itoa n=x
      ·rw [n3] at a2
       have n4:n<0:=by
        rcases Int.lt_or_le n 0 with h|h
        ·exact h
        ·exact absurd ((octet_iff x).2 ⟨n,n1,n2,n3,h⟩) ho
       repeat' (first|refine zt ?_|(refine isR ?_;first|refine zo ?_|refine zk a1 ?_|refine zk a2 ?_|refine zA ?_|refine zL ?_|refine zc1 ?_|refine zc3 ?_|refine zc6 ?_|refine zI ?_)|refine zr ?_|exact x_le)
       rfl
      ·skip
       repeat' (first|refine zt ?_|(refine isR ?_;first|refine zo ?_|refine zk a1 ?_|refine zk a2 ?_|refine zA ?_|refine zL ?_|refine zc1 ?_|refine zc3 ?_|refine zc6 ?_|refine zI ?_)|refine zr ?_|exact x_le)
       rfl
     ·skip
      repeat' (first|refine zt ?_|(refine isR ?_;first|refine zo ?_|refine zk a1 ?_|refine zk a2 ?_|refine zA ?_|refine zL ?_|refine zc1 ?_|refine zc3 ?_|refine zc6 ?_|refine zI ?_)|refine zr ?_|exact x_le)
      rfl
    ·have a0:=atoiF_no fun n h=>hn ⟨n,h⟩
     rw [a0] at a1
     dsimp only [errT] at a1
     repeat' (first|refine zt ?_|(refine isR ?_;first|refine zo ?_|refine zk a1 ?_|refine zA ?_|refine zL ?_|refine zc1 ?_|refine zc3 ?_|refine zc6 ?_|refine zI ?_)|refine zr ?_|exact x_le)
     rfl
  ·skip
   repeat' (first|refine zt ?_|(refine isR ?_;first|refine zo ?_|refine zA ?_|refine zL ?_|refine zc1 ?_|refine zc3 ?_|refine zc6 ?_|refine zI ?_)|refine zr ?_|exact x_le)
   rw [hq.all hk2];rfl
 ·simp only [h4,decide_false,Bool.false_and]
  repeat' (first|refine zt ?_|(refine isR ?_;first|refine zo ?_|refine zk c1 ?_|refine zA ?_|refine zL ?_|refine zc1 ?_|refine zc3 ?_|refine zc6 ?_|refine zI ?_)|refine zr ?_|exact x_le)
  rfl
theorem hasSuffix_v {l m:List UInt8}:ACalls Tryz.prog 93 [strT l,strT m] (.bool (endsB l m)):=fun g N w vs hG hN hlen hv=>by
 obtain ⟨vs⟩:=vs
 match vs,hlen with
 | [x0,x1],_ =>
  obtain ⟨rfl,h0⟩:=fz_str (hv 0 _ x0 rfl rfl)
  obtain ⟨rfl,h1⟩:=fz_str (hv 1 _ x1 rfl rfl)
  simp only [SLIM] at h0
  refine (Tryz.strings_HasSuffix (str l) (str m) w (by omega)).mono fun e w' ⟨h2,h3⟩=>⟨_,h2,by rw [h3];exact Below.refl _ _,?_⟩
  have:Lib.hasSuffix (str l).data.toList (str m).data.toList=endsB l m:=by
   rw [str_toList,str_toList,Bool.eq_iff_iff,endsB_iff]
   unfold Lib.hasSuffix
   rw [List.isSuffixOf_iff_suffix]
   exact ⟨fun ⟨x,hx⟩=>⟨x,hx.symm⟩,fun ⟨x,hx⟩=>⟨x,hx.symm⟩⟩
  rw [this];exact .bool
theorem match_v {l m:List UInt8} (hl:l.length≤4398046511104) (hm:m.length≤140737488355327):ACallsG Tryz.prog gStr 179 [strT l,strT m] (.bool (matchF l m)):=by
 have c1:=address_v hl
 have c2:=hasSuffix_v (l:=l) (m:=[46]++m)
 have em:matchF l m=(l==m||(!address l&&endsB l ([46]++m))):=rfl
 rw [em]
 refine funG2 tb_ok Tryz.func179 rfl Tryz.ntmps179 Tryz.results179 rfl fun N=>?_
 repeat' (first|refine zt ?_|(refine isR ?_;first|refine zo ?_|refine x_callS (c1 _) (fun hb=>?_) (fun hb=>?_)|refine x_callS (c1) (fun hb=>?_) (fun hb=>?_)|refine x_callS (c2 _) (fun hb=>?_) (fun hb=>?_)|refine x_callS (c2) (fun hb=>?_) (fun hb=>?_)|refine zA ?_|(refine zs5 ?_ ?_<;>intro hc))|refine zr ?_|exact x_le)
 all_goals (show V.bool _=V.bool _;simp_all)
end Go.Proofs.YtlfdjpgghiemfaaGreatDoor.HostC
end
section
namespace Go.Proofs.YtlfdjpgghiemfaaGreatDoor.HostD
open Go.RowKit Mem Abs HostP HostO HostA HostB HostC TreeW WordP WordS Globs
def behind (l:List UInt8) (k:Nat):List (List UInt8):=((List.range k).filter fun i=>l[i]? == some 46).map fun i=>l.drop (i+1)
end Go.Proofs.YtlfdjpgghiemfaaGreatDoor.HostD
end
