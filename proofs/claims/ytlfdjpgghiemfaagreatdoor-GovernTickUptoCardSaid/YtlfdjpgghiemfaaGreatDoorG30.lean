/- Texts of the proof, joined: JarO, JarD, JarE, JarF, JarG, JarH, JarK, JarS, JarI, JarT, JarJ. -/
import Derived.Test.YtlfdjpgghiemfaaGreatDoorG29
import Derived.Test.YtlfdjpgghiemfaaGreatDoorG22
import Derived.Test.YtlfdjpgghiemfaaGreatDoorG25
set_option maxHeartbeats 4000000
set_option maxRecDepth 100000
namespace Go.Proofs.YtlfdjpgghiemfaaGreatDoor
namespace YZ
open Go.RowKit Mem Abs Scan gy gY iW iY iV pG su oL
variable {x:ah} {most:Nat} {M:List ah} {l:List Nat} {now:Int} {i:Nat} {nx:Int} {L E:List ah} {n:Nat} {c:ah}
abbrev rOn (k n:Nat) (nx now:Int):Blk:=.els TO 3 [.agg [.own k 0 n,.int .i64 nx,.int .i64 now]]
abbrev TI:Nat:=3
abbrev rI (l:List Nat):Blk:=.els TI 1 (l.map nV)
def orU (a b:Int):Int:=if a≠0 then a else b
theorem ac4 {a b:Int}:aj Tryz.prog 186 [.fro [.int .i64 a,.int .i64 b]] (.int .i64 (orU a b)):=by
 have hz:[V.int .i64 a,V.int .i64 b].length=2:=rfl
 unfold orU
 by_cases h:a=0
 ·rw [if_neg (by simp [h])]
  by_cases h2:b=0
  ·refine aW af Tryz.func186 rfl Tryz.ntmps186 Tryz.results186 rfl fun N=>?_
   repeat' (first|with_reducible refine aQ ?_|with_reducible refine aO 3 ?_|refine zW ?_|exact ai)
   all_goals first|(subst h2;rfl)|(exfalso;omega)
  ·refine aW af Tryz.func186 rfl Tryz.ntmps186 Tryz.results186 rfl fun N=>?_
   repeat' (first|with_reducible refine aQ ?_|with_reducible refine aO 3 ?_|refine zW ?_|exact ai)
   all_goals first|rfl|(exfalso;omega)
 ·rw [if_pos h]
  refine aW af Tryz.func186 rfl Tryz.ntmps186 Tryz.results186 rfl fun N=>?_
  repeat' (first|with_reducible refine aQ ?_|with_reducible refine aO 3 ?_|refine zW ?_|exact ai)
  all_goals first|rfl|(exfalso;omega)
def Ub (a b:ah):Int:=orU (xZ a.used b.used) (xZ a.no b.no)
theorem Y9 (a b:ah):Ub a b<0↔l7 a b=true:=by
 unfold Ub orU xZ l7
 by_cases h1:a.used<b.used
 ·simp [h1]
 ·by_cases h2:b.used<a.used
  ·have:¬ a.used=b.used:=by omega
   simp [h1,h2,this]
  ·have:a.used=b.used:=by omega
   by_cases h3:a.no<b.no
   ·simp [this,h3]
   ·by_cases h4:b.no<a.no<;>simp [this,h3,h4]
abbrev rBn (k:Nat):Blk:=.els TP 1 [.loc k 0 0]
abbrev fnE (k:Nat):Abs.V:=.fn (.func 185) [] [.loc k 0 0]
theorem aad {k:Nat} {a b:ah} (hi:M[i]? = some a) (hk:M[k]? = some b) (hn:n=M.length):aK Tryz.prog 185 [nV i,nV k,.loc 1 0 0] [rC M,rB,rO n nx now] (.int .i64 (Ub a b)) [some (rC M),some rB,some (rO n nx now)]:=by
 have c1:=oP (a:=a.used) (b:=b.used)
 have c2:=oP (a:=a.no) (b:=b.no)
 have c3:=ac4 (a:=xZ a.used b.used) (b:=xZ a.no b.no)
 have hi2:=(List.getElem?_eq_some_iff.1 hi).1
 have hk2:=(List.getElem?_eq_some_iff.1 hk).1
 have hma:=di (f:=ah.v) hi
 have hmb:=di (f:=ah.v) hk
 unfold Ub
 refine bL af Tryz.func185 rfl Tryz.ntmps185 Tryz.results185 rfl rfl rfl rfl fun N pl=>?_
 repeat' (first|refine zV ?_|(refine isR ?_;first|refine cO ah.v i af ?_|refine cO ah.v k af ?_|refine zk c1 ?_|refine zk c2 ?_|refine zk c3 ?_)|refine zW ?_|refine aA [0,1,2] ?_ ?_|exact ai)
 ·rfl
 ·exact .on (.same (aT fun _=>rfl)) (.on (.ren rfl) (.on (.ren rfl) .nil))
def jB (M:List ah) (l:List Nat) (m:Nat):Nat:=l.foldl (fun m i=>match M[i]?,M[m]? with
 | some a,some b=>if l7 a b=true then i else m
 | _,_=>m) m
theorem wR {M:List ah}:∀ {l:List Nat} {m:Nat},m<M.length→(∀ i∈l,i<M.length)→jB M l m<M.length
 | [],_,h,_=>h
 | i::l,m,h,hl=>by
  unfold jB
  rw [List.foldl_cons]
  refine wR (l:=l) ?_ fun j hj=>hl j (by simp [hj])
  have hi:=hl i (by simp)
  split
  ·split<;>assumption
  ·exact h
theorem FN {m:Nat}:jB M (l++[i]) m=match M[i]?,M[jB M l m]? with
 | some a,some b=>if l7 a b=true then i else jB M l m
 | _,_=>jB M l m:=by
 unfold jB
 rw [List.foldl_append]
 rfl
theorem Fv {i0:Nat} (hl:l.length≤1000) (hin:∀ i∈l,i<M.length) (h0:l[0]? = some i0) (hn:n=M.length):
  aK Tryz.prog 184 [.own 0 0 l.length,fnE 2] [rI l,rC M,rBn 3,rOn 1 n nx now] (nV (jB M (l.drop 1) i0)) [some (rI l),some (rC M),some (rBn 3),some (rOn 1 n nx now)]:=by
 have hml:(M.map ah.v).length=M.length:=List.length_map _
 have hil:(l.map nV).length=l.length:=List.length_map _
 have hl0:=(List.getElem?_eq_some_iff.1 h0).1
 have hm0:=di (f:=nV) h0
 generalize hR:jB M (l.drop 1) i0=R
 refine bL af Tryz.func184 rfl Tryz.ntmps184 Tryz.results184 rfl rfl rfl rfl fun N pl=>?_
 repeat' (first|refine zV ?_|(refine isR ?_;refine cO nV 0 af ?_)|refine zW ?_|exact ai)
 refine fI (fun k=>⟨[(0,.own 0 0 l.length),(1,fnE 2),(5,nV (jB M ((l.take (k+1)).drop 1) i0)),(6,nV (k+1))],[(0,some (rI l)),(1,some (rC M)),(2,some (rBn 3)),(3,some (rOn 1 n nx now))],4,33⟩) (fun k=>k+1≤l.length) l.length 0 ?_ (by omega) ?_
 ·rw [show (l.take (0+1)).drop 1=[] by simp]
  exact (by exact ai)
 intro k hk
 by_cases hk2:k+1<l.length
 ·have hx:l[k+1]? = some l[k+1]:=by simp [hk2]
  have hi1:=hin l[k+1] (List.getElem_mem _)
  have hs:(l.take (k+1+1)).drop 1=(l.take (k+1)).drop 1++[l[k+1]]:=by
   rw [List.take_add_one,hx,List.drop_append_of_le_length (by rw [List.length_take];omega)];rfl
  have hm1:jB M ((l.take (k+1)).drop 1) i0<M.length:=wR (hin i0 (List.mem_of_getElem? h0)) fun i hi=>hin i (List.mem_of_mem_take (List.mem_of_mem_drop hi))
  have hsn:=FN (M:=M) (l:=(l.take (k+1)).drop 1) (m:=i0) (i:=l[k+1])
  rw [← hs] at hsn
  generalize l[k+1]=i at *
  have ha:M[i]? = some M[i]:=by simp [hi1]
  generalize jB M ((l.take (k+1)).drop 1) i0=m at *
  generalize hm2:jB M ((l.take (k+1+1)).drop 1) i0=m2 at *
  have hb:M[m]? = some M[m]:=by simp [hm1]
  have c1:=aad (n:=n) (nx:=nx) (now:=now) ha hb hn
  have hlt:=Y9 M[i] M[m]
  rw [ha,hb] at hsn
  dsimp only at hsn
  generalize Ub M[i] M[m]=q at *
  have hmi:=di (f:=nV) hx
  by_cases g:q<0
  ·rw [if_pos (hlt.1 g)] at hsn
   subst hsn
   repeat' (first|refine zV ?_|(refine isR ?_;first|refine cO nV (k+1) af ?_|refine eG [1,2,3] [] (c1 _) ?_|refine eG [1,2,3] [] (c1) ?_)|refine zW ?_|exact ai)
   refine ⟨by omega,by omega,?_⟩
   exact (by exact x_len [0,1,2,3])
  ·rw [if_neg fun h=>g (hlt.2 h)] at hsn
   subst hsn
   repeat' (first|refine zV ?_|(refine isR ?_;first|refine cO nV (k+1) af ?_|refine eG [1,2,3] [] (c1 _) ?_|refine eG [1,2,3] [] (c1) ?_)|refine zW ?_|exact ai)
   refine ⟨by omega,by omega,?_⟩
   exact (by exact x_len [0,1,2,3])
 ·obtain rfl:R=jB M ((l.take (k+1)).drop 1) i0:=by rw [List.take_of_length_le (by omega),hR]
  generalize jB M ((l.take (k+1)).drop 1) i0=m at *
  repeat' (first|refine zW ?_|refine aA [0,1,2,3] ?_ ?_|exact ai)
  ·rfl
  ·exact .on (.same (aT fun _=>rfl)) (.on (.same (aT fun _=>rfl)) (.on (.ren rfl) (.on (.ren rfl) .nil)))
theorem Kj {a:Nat} (hM:M.length≤1000) (ha:a<M.length):aK Tryz.prog 188 [.own 0 0 M.length,nV a,nV (a+1)] [rC M] (.own 0 0 (M.eraseIdx a).length) [some (rC (M.eraseIdx a))]:=by
 have hml:(M.map ah.v).length=M.length:=List.length_map _
 have he:M.eraseIdx a=M.take a++M.drop (a+1):=List.eraseIdx_eq_take_drop_succ M a
 have hel:(M.eraseIdx a).length=M.length-1:=List.length_eraseIdx_of_lt ha
 by_cases h:a+1<M.length
 ·have hq:a+(M.length-(a+1))=(M.eraseIdx a).length:=by rw [hel];omega
  have hz:M.take a++((M.drop (0+(a+1))).take (M.length-(a+1))++M.drop (a+(M.length-(a+1))))=M.eraseIdx a++M.drop (M.length-1):=by
   have h5:(M.drop (a+1)).take (M.length-(a+1))=M.drop (a+1):=List.take_of_length_le (by rw [List.length_drop];omega)
   rw [he,Nat.zero_add,h5,show a+(M.length-(a+1))=M.length-1 by omega,List.append_assoc]
  have hzl:(M.eraseIdx a++M.drop (M.length-1)).length=M.length:=by rw [List.length_append,hel,List.length_drop];omega
  have hcut:(M.eraseIdx a++M.drop (M.length-1)).take (0+(a+(M.length-(a+1))))=M.eraseIdx a:=by rw [Nat.zero_add,hq];exact List.take_left' rfl
  rw [← hq]
  generalize M.eraseIdx a=E at *
  generalize hZ:E++M.drop (M.length-1)=Z at *
  refine bL af Tryz.func188 rfl Tryz.ntmps188 Tryz.results188 rfl rfl rfl rfl fun N pl=>?_
  repeat' (first|refine zV ?_|(refine isR ?_;first|refine ZG af ?_|refine LW af ?_|refine Ux af ?_|refine Zn ah.v Z af ?_|refine VK af ?_|refine GH ah.v E af ?_)|refine zW ?_|refine aA [0] ?_ ?_|exact ai)
  all_goals first|rfl|exact .on (.same (aT fun _=>rfl)) .nil
 ·have ha1:a+1=M.length:=by omega
  have hcut:M.take (0+a)=M.eraseIdx a:=by rw [he,Nat.zero_add,List.drop_of_length_le (by omega),List.append_nil]
  have hq:a=(M.eraseIdx a).length:=by rw [hel];omega
  rw [← hq]
  generalize M.eraseIdx a=E at *
  refine bL af Tryz.func188 rfl Tryz.ntmps188 Tryz.results188 rfl rfl rfl rfl fun N pl=>?_
  repeat' (first|refine zV ?_|(refine isR ?_;first|refine ZG af ?_|refine LW af ?_|refine abY af ?_|refine WR af ?_|refine VK af ?_|refine GH ah.v E af ?_)|refine zW ?_|refine aA [0] ?_ ?_|exact ai)
  all_goals first|rfl|exact .on (.same (aT fun _=>rfl)) .nil
def idxs (p:ah→Bool) (M:List ah):Nat→List Nat
 | 0=>[]
 | k+1=>match M[k]? with
  | none=>idxs p M k
  | some c=>if p c=true then idxs p M k++[k] else idxs p M k
theorem l8 {p:ah→Bool} {M:List ah}:∀ {k:Nat},(idxs p M k).length=(M.take k).countP p
 | 0=>rfl
 | k+1=>by
  rw [idxs,List.take_add_one]
  cases hc:M[k]? with
  | none=>simpa using l8 (k:=k)
  | some c =>
   dsimp only
   rw [List.countP_append]
   by_cases h:p c=true
   ·rw [if_pos h,List.length_append,l8];simp [h]
   ·rw [if_neg h,l8];simp [h]
theorem tF {p:ah→Bool} {M:List ah}:∀ {k:Nat},∀ i∈idxs p M k,i<M.length
 | 0,i,h=>by simp [idxs] at h
 | k+1,i,h=>by
  rw [idxs] at h
  cases hc:M[k]? with
  | none=>rw [hc] at h;exact tF i h
  | some c =>
   rw [hc] at h
   dsimp only at h
   have hk:=(List.getElem?_eq_some_iff.1 hc).1
   split at h
   ·rcases List.mem_append.1 h with h|h
    ·exact tF i h
    ·rw [List.mem_singleton] at h;omega
   ·exact tF i h
theorem l9 {p:ah→Bool} {M:List ah}:∀ {k:Nat},mE p M k=match idxs p M k with
  | []=>none
  | i::r=>some (jB M r i)
 | 0=>rfl
 | k+1=>by
  rw [mE,idxs]
  cases hc:M[k]? with
  | none=>exact l9
  | some c =>
   dsimp only
   by_cases h:p c=true
   ·rw [if_pos h,if_pos h,l9 (k:=k)]
    have hlt:=tF (p:=p) (M:=M) (k:=k)
    generalize idxs p M k=l at *
    cases l with
    | nil=>rfl
    | cons i r =>
     show _=some (jB M (r++[k]) i)
     have hm:jB M r i<M.length:=wR (hlt i (by simp)) fun j hj=>hlt j (by simp [hj])
     have hg:M[jB M r i]? = some M[jB M r i]:=by simp [hm]
     rw [FN,hc,hg]
     dsimp only
     rw [List.getD_eq_getElem?_getD,hg,Option.getD_some]
     split<;>rfl
   ·rw [if_neg h,if_neg h]
    exact l9
abbrev fnP (c:ah):Abs.V:=.fn (.func 142) [] [.fp c.v.cells 0]
abbrev fnA:Abs.V:=.fn (.func 143) [] []
theorem aaX:aj Tryz.prog 142 [x.v,.fp c.v.cells 0] (.bool (ofP c.domain false x)):=by
 unfold ofP
 by_cases h:x.domain=c.domain
 ·rw [decide_eq_true h]
  refine aX af Tryz.func142 rfl Tryz.ntmps142 Tryz.results142 rfl fun N=>?_
  repeat' (first|refine zW ?_|exact ai)
  all_goals rfl
 ·rw [decide_eq_false h]
  refine aX af Tryz.func142 rfl Tryz.ntmps142 Tryz.results142 rfl fun N=>?_
  repeat' (first|refine zW ?_|exact ai)
  all_goals rfl
theorem ZT:aj Tryz.prog 143 [x.v] (.bool (ofP [] true x)):=by
 refine aW af Tryz.func143 rfl Tryz.ntmps143 Tryz.results143 rfl fun N=>?_
 repeat' (first|refine zW ?_|exact ai)
 all_goals rfl
theorem KE (hb:L.length≤1000) (hE:evF most (ofP c.domain false) (L.length+1) L=E):aK Tryz.prog 141 [.loc 1 0 0,nV most,fnP c] [rC L,rO L.length nx now] (.tup []) [some (rC E),some (rO E.length nx now)]:=by
 refine bL af Tryz.func141 rfl Tryz.ntmps141 Tryz.results141 rfl rfl rfl rfl fun N pl=>?_
 repeat' (first|refine zt ?_|(refine isR ?_;first|refine dP [3] af rfl ?_|refine zn ?_|refine QX af ?_|refine zA ?_|refine zL ?_|refine zc1 ?_|refine zc2 ?_|refine zI ?_)|exact ai)
 refine p8 (α:=List ah) (fun M=>⟨[(0,.loc 1 0 0),(1,nV most),(2,fnP c),(3,.loc 2 0 0)],[(0,some (rC M)),(1,some (rO M.length nx now)),(2,some (rBn 1))],3,49⟩) (fun M=>M.length≤1000∧∃ f,M.length<f∧evF most (ofP c.domain false) f M=E) (fun M=>M.length) L (by exact ai) ⟨hb,L.length+1,Nat.lt_succ_self _,hE⟩ ?_
 rintro M ⟨hM,f,hf,he⟩
 have hml:(M.map ah.v).length=M.length:=List.length_map _
 obtain ⟨f,rfl⟩:∃ q,f=q+1:=⟨f-1,by omega⟩
 rw [evF] at he
 repeat' (first|refine zW ?_|exact ai)
 refine j3 (t:=6) TI 1 (by decide) rfl rfl ?_
 refine fI (fun k=>⟨[(0,.loc 1 0 0),(1,nV most),(2,fnP c),(3,.loc 2 0 0),(6,.own 3 0 (idxs (ofP c.domain false) M k).length),(14,.own 0 0 M.length),(15,nV M.length),(16,nV k)],[(0,some (rC M)),(1,some (rO M.length nx now)),(2,some (rBn 1)),(3,some (rI (idxs (ofP c.domain false) M k)))],4,49⟩) (fun k=>k≤M.length) M.length 0 (by exact ai) (Nat.zero_le _) ?_
 intro k hk
 by_cases hk2:k<M.length
 ·have hx:M[k]? = some M[k]:=by simp [hk2]
  have hi:idxs (ofP c.domain false) M (k+1)=if ofP c.domain false M[k]=true then idxs (ofP c.domain false) M k++[k] else idxs (ofP c.domain false) M k:=by rw [idxs,hx]
  have hil:(idxs (ofP c.domain false) M k).length≤1000:=by rw [l8];exact Nat.le_trans List.countP_le_length (by rw [List.length_take];omega)
  have c1:=aaX (c:=c) (x:=M[k])
  generalize M[k]=x at *
  have hmx:=di (f:=ah.v) hx
  generalize idxs (ofP c.domain false) M (k+1)=J at *
  generalize idxs (ofP c.domain false) M k=I at *
  by_cases h:ofP c.domain false x=true
  ·rw [if_pos h] at hi
   subst hi
   rw [h] at c1
   repeat' (first|refine zV ?_|(refine isR ?_;first|refine cO ah.v k af ?_|refine ak (c1 _) ?_|refine ak (c1) ?_|refine kr nV (a1:=(k)) af ?_)|refine zW ?_|exact ai)
   refine ⟨by omega,by omega,?_⟩
   exact (by exact x_len [0,1,2,5])
  ·rw [if_neg h] at hi
   subst hi
   have h:ofP c.domain false x=false:=by simpa using h
   rw [h] at c1
   repeat' (first|refine zV ?_|(refine isR ?_;first|refine cO ah.v k af ?_|refine ak (c1 _) ?_|refine ak (c1) ?_)|refine zW ?_|exact ai)
   refine ⟨by omega,by omega,?_⟩
   exact (by exact x_len [0,1,2,3])
 ·obtain rfl:k=M.length:=by omega
  have hlen:(idxs (ofP c.domain false) M M.length).length=M.countP (ofP c.domain false):=by rw [l8,List.take_length]
  have hil:(idxs (ofP c.domain false) M M.length).length≤1000:=by rw [hlen];exact Nat.le_trans List.countP_le_length hM
  have hlt:=tF (p:=ofP c.domain false) (M:=M) (k:=M.length)
  rw [l9,← hlen] at he
  generalize idxs (ofP c.domain false) M M.length=I at *
  by_cases g:I.length≤most
  ·rw [if_pos g] at he
   subst he
   repeat' (first|refine zW ?_|refine aA [0,1] ?_ ?_|exact ai)
   ·rfl
   ·exact .on (.same (aT fun _=>rfl)) (.on (.ren rfl) .nil)
  ·rw [if_neg g] at he
   cases I with
   | nil=>simp at g
   | cons i0 r =>
    dsimp only at he
    have c2:=Fv (n:=M.length) (nx:=nx) (now:=now) hil hlt (i0:=i0) rfl rfl
    rw [show (i0::r).drop 1=r from rfl] at c2
    have ha:jB M r i0<M.length:=wR (hlt i0 (by simp)) fun j hj=>hlt j (by simp [hj])
    have c3:=Kj hM ha
    have hel:(M.eraseIdx (jB M r i0)).length=M.length-1:=List.length_eraseIdx_of_lt ha
    generalize hK:M.eraseIdx (jB M r i0)=K at *
    generalize jB M r i0=a at *
    generalize i0::r=I at *
    repeat' (first|refine zV ?_|(refine isR ?_;first|refine x_m [3,0,2,1] [] (c2 _) ?_|refine x_m [3,0,2,1] [] (c2) ?_|refine x_m [0] [] (c3 _) ?_|refine x_m [0] [] (c3) ?_)|refine zW ?_|exact ai)
    refine ⟨K,⟨by omega,f,by omega,he⟩,by omega,?_⟩
    exact (by exact x_len [0,1,2])
theorem JR (hb:L.length≤1000) (hE:evF most (ofP [] true) (L.length+1) L=E):aK Tryz.prog 141 [.loc 1 0 0,nV most,fnA] [rC L,rO L.length nx now] (.tup []) [some (rC E),some (rO E.length nx now)]:=by
 refine bL af Tryz.func141 rfl Tryz.ntmps141 Tryz.results141 rfl rfl rfl rfl fun N pl=>?_
 repeat' (first|refine zt ?_|(refine isR ?_;first|refine dP [3] af rfl ?_|refine zn ?_|refine QX af ?_|refine zA ?_|refine zL ?_|refine zc1 ?_|refine zc2 ?_|refine zI ?_)|exact ai)
 refine p8 (α:=List ah) (fun M=>⟨[(0,.loc 1 0 0),(1,nV most),(2,fnA),(3,.loc 2 0 0)],[(0,some (rC M)),(1,some (rO M.length nx now)),(2,some (rBn 1))],3,49⟩) (fun M=>M.length≤1000∧∃ f,M.length<f∧evF most (ofP [] true) f M=E) (fun M=>M.length) L (by exact ai) ⟨hb,L.length+1,Nat.lt_succ_self _,hE⟩ ?_
 rintro M ⟨hM,f,hf,he⟩
 have hml:(M.map ah.v).length=M.length:=List.length_map _
 obtain ⟨f,rfl⟩:∃ q,f=q+1:=⟨f-1,by omega⟩
 rw [evF] at he
 repeat' (first|refine zW ?_|exact ai)
 refine j3 (t:=6) TI 1 (by decide) rfl rfl ?_
 refine fI (fun k=>⟨[(0,.loc 1 0 0),(1,nV most),(2,fnA),(3,.loc 2 0 0),(6,.own 3 0 (idxs (ofP [] true) M k).length),(14,.own 0 0 M.length),(15,nV M.length),(16,nV k)],[(0,some (rC M)),(1,some (rO M.length nx now)),(2,some (rBn 1)),(3,some (rI (idxs (ofP [] true) M k)))],4,49⟩) (fun k=>k≤M.length) M.length 0 (by exact ai) (Nat.zero_le _) ?_
 intro k hk
 by_cases hk2:k<M.length
 ·have hx:M[k]? = some M[k]:=by simp [hk2]
  have hi:idxs (ofP [] true) M (k+1)=if ofP [] true M[k]=true then idxs (ofP [] true) M k++[k] else idxs (ofP [] true) M k:=by rw [idxs,hx]
  have hil:(idxs (ofP [] true) M k).length≤1000:=by rw [l8];exact Nat.le_trans List.countP_le_length (by rw [List.length_take];omega)
  have c1:=ZT (x:=M[k])
  generalize M[k]=x at *
  have hmx:=di (f:=ah.v) hx
  generalize idxs (ofP [] true) M (k+1)=J at *
  generalize idxs (ofP [] true) M k=I at *
  by_cases h:ofP [] true x=true
  ·rw [if_pos h] at hi
   subst hi
   rw [h] at c1
   repeat' (first|refine zV ?_|(refine isR ?_;first|refine cO ah.v k af ?_|refine ak (c1 _) ?_|refine ak (c1) ?_|refine kr nV (a1:=(k)) af ?_)|refine zW ?_|exact ai)
   refine ⟨by omega,by omega,?_⟩
   exact (by exact x_len [0,1,2,5])
  ·rw [if_neg h] at hi
   subst hi
   have h:ofP [] true x=false:=by simpa using h
   rw [h] at c1
   repeat' (first|refine zV ?_|(refine isR ?_;first|refine cO ah.v k af ?_|refine ak (c1 _) ?_|refine ak (c1) ?_)|refine zW ?_|exact ai)
   refine ⟨by omega,by omega,?_⟩
   exact (by exact x_len [0,1,2,3])
 ·obtain rfl:k=M.length:=by omega
  have hlen:(idxs (ofP [] true) M M.length).length=M.countP (ofP [] true):=by rw [l8,List.take_length]
  have hil:(idxs (ofP [] true) M M.length).length≤1000:=by rw [hlen];exact Nat.le_trans List.countP_le_length hM
  have hlt:=tF (p:=ofP [] true) (M:=M) (k:=M.length)
  rw [l9,← hlen] at he
  generalize idxs (ofP [] true) M M.length=I at *
  by_cases g:I.length≤most
  ·rw [if_pos g] at he
   subst he
   repeat' (first|refine zW ?_|refine aA [0,1] ?_ ?_|exact ai)
   ·rfl
   ·exact .on (.same (aT fun _=>rfl)) (.on (.ren rfl) .nil)
  ·rw [if_neg g] at he
   cases I with
   | nil=>simp at g
   | cons i0 r =>
    dsimp only at he
    have c2:=Fv (n:=M.length) (nx:=nx) (now:=now) hil hlt (i0:=i0) rfl rfl
    rw [show (i0::r).drop 1=r from rfl] at c2
    have ha:jB M r i0<M.length:=wR (hlt i0 (by simp)) fun j hj=>hlt j (by simp [hj])
    have c3:=Kj hM ha
    have hel:(M.eraseIdx (jB M r i0)).length=M.length-1:=List.length_eraseIdx_of_lt ha
    generalize hK:M.eraseIdx (jB M r i0)=K at *
    generalize jB M r i0=a at *
    generalize i0::r=I at *
    repeat' (first|refine zV ?_|(refine isR ?_;first|refine x_m [3,0,2,1] [] (c2 _) ?_|refine x_m [3,0,2,1] [] (c2) ?_|refine x_m [0] [] (c3 _) ?_|refine x_m [0] [] (c3) ?_)|refine zW ?_|exact ai)
    refine ⟨K,⟨by omega,f,by omega,he⟩,by omega,?_⟩
    exact (by exact x_len [0,1,2])
end YZ
namespace IC
open Go.RowKit Mem Abs Scan gy gY iW iY iV
end IC
namespace mX
open Go.RowKit Mem Abs Scan gy gY iW iY iV IC wS
abbrev noJ:Abs.V:=.agg [.nils,.int .i64 0]
end mX
namespace J3
open Go.RowKit Mem Abs Scan gy gY iW iY iV IC mX wS
abbrev TJ:Nat:=25
end J3
namespace adg
open Go.RowKit Mem Abs Scan gy gY iW iY iV IC mX wS J3
end adg
namespace QK
open Go.RowKit Mem Abs Scan gy gY iW iY iV IC mX wS J3 adg
theorem wM {L:List ah} {nx:Int} {c:ah} {now:Int} (h:gW L nx c now=0):dz L nx=0∧isJ now=true∧kI c=false∧nx≠1099511627776:=by
 unfold gW at h
 by_cases h1:dz L nx=0
 ·rw [if_neg (by rw [h1];simp)] at h
  by_cases h2:isJ now=false∨kI c=true
  ·rw [if_pos h2] at h;cases h
  ·rw [if_neg h2] at h
   by_cases h3:nx=1099511627776
   ·rw [if_pos h3] at h;cases h
   ·rw [not_or] at h2
    exact ⟨h1,by simpa using h2.1,by simpa using h2.2,h3⟩
 ·rw [if_pos h1] at h;exact absurd h h1
end QK
namespace Na
open Go.RowKit Mem Abs Scan gy gY iW iY iV IC mX wS
variable {e now:Int} {L:List ah} {nx:Int} {c:ah}
theorem NK (c1:aj Tryz.prog 32 [dI L nx] (.int .i64 e)) (he:e≠0):aj Tryz.prog 109 [dI L nx,c.v,.int .i64 now] (.tup [noJ,.int .i64 e]):=by
 refine u6 af Tryz.func109 rfl Tryz.ntmps109 Tryz.results109 rfl fun N=>?_
 repeat' (first|refine zV ?_|(refine isR ?_;refine zk c1 ?_)|refine zW ?_|exact ai)
 all_goals first|rfl|(exfalso;omega)
theorem LJ {f:From} (c1:aj Tryz.prog 32 [dI L nx] (.int .i64 0)) (c2:aj Tryz.prog 132 [f.v,.int .i64 now] (.int .i64 e)) (he:e≠0):aj Tryz.prog 110 [dI L nx,f.v,.int .i64 now] (.tup [noJ,.nils,.int .i64 e]):=by
 refine u6 af Tryz.func110 rfl Tryz.ntmps110 Tryz.results110 rfl fun N=>?_
 repeat' (first|refine zV ?_|(refine isR ?_;first|refine zk c1 ?_|refine zk c2 ?_)|refine zW ?_|exact ai)
 all_goals first|rfl|(exfalso;omega)
theorem NC (c1:aj Tryz.prog 32 [dI L nx] (.int .i64 0)) (h:gW L nx c now≠0) (h0:dz L nx=0):aj Tryz.prog 109 [dI L nx,c.v,.int .i64 now] (.tup [noJ,.int .i64 ((gW L nx c now:Nat):Int)]):=by
 have c2:=qI (n:=now)
 have c3:=tL (c:=c)
 unfold gW at h ⊢
 rw [if_neg (by rw [h0];simp)] at h ⊢
 by_cases h2:isJ now=false
 ·rw [if_pos (.inl h2)]
  rw [h2] at c2
  refine u6 af Tryz.func109 rfl Tryz.ntmps109 Tryz.results109 rfl fun N=>?_
  repeat' (first|refine zV ?_|(refine isR ?_;first|refine zk c1 ?_|refine zk c2 ?_)|refine zW ?_|exact ai)
  all_goals first|rfl|(exfalso;omega)
 ·have h2:isJ now=true:=by simpa using h2
  rw [h2] at c2
  by_cases h3:kI c=true
  ·rw [if_pos (.inr h3)]
   rw [h3] at c3
   change aj _ _ _ (.bool false) at c3
   refine u6 af Tryz.func109 rfl Tryz.ntmps109 Tryz.results109 rfl fun N=>?_
   repeat' (first|refine zV ?_|(refine isR ?_;first|refine zk c1 ?_|refine zk c2 ?_|refine zk c3 ?_)|refine zW ?_|exact ai)
   all_goals first|rfl|(exfalso;omega)
  ·rw [if_neg (fun q=>q.elim (fun q=>by rw [h2] at q;cases q) h3)] at h ⊢
   have h3:kI c=false:=by simpa using h3
   rw [h3] at c3
   change aj _ _ _ (.bool true) at c3
   by_cases h5:nx=1099511627776
   ·rw [if_pos h5]
    refine u6 af Tryz.func109 rfl Tryz.ntmps109 Tryz.results109 rfl fun N=>?_
    repeat' (first|refine zV ?_|(refine isR ?_;first|refine zk c1 ?_|refine zk c2 ?_|refine zk c3 ?_)|refine zW ?_|exact ai)
    all_goals first|rfl|(exfalso;omega)
   ·rw [if_neg h5] at h
    exact absurd rfl h
end Na
namespace NZ
open Go.RowKit Mem Abs Scan gy gY iW iY iV mX pG su YZ
variable {M:List ah} {now:Int} {L E1:List ah} {nx:Int} {c:ah} {E2:List ah}
theorem KC (hb:L.length≤1000):aK Tryz.prog 138 [dI L nx,.int .i64 now] [] (.loc 1 0 0) [some (rC L),some (rO L.length nx now)]:=by
 have c1:=zP.Gs (L:=L) (by omega)
 refine bL af Tryz.func138 rfl Tryz.ntmps138 Tryz.results138 rfl rfl rfl rfl fun N pl=>?_
 repeat' (first|refine zt ?_|(refine isR ?_;first|refine dP [13] af rfl ?_|refine zn ?_|refine x_m [] [0] (c1 _) ?_|refine x_m [] [0] (c1) ?_)|refine aA [0,1] ?_ ?_|exact ai)
 ·rfl
 ·exact .on (.same (aT fun _=>rfl)) (.on (.ren rfl) .nil)
theorem O6 {n:Nat} {e:Int} (h:n=L.length):V.tup [.agg [.fro (List.take n (List.drop 0 (L.map ah.v))),.int .i64 nx],.int .i64 e] = .tup [dI L nx,.int .i64 e]:=by
 rw [List.drop_zero,List.take_of_length_le (by simp [h])]
theorem Qb (hb:L.length≤12) (hn:0≤nx) (hn2:nx<1099511627776) (h1:isJ now=true) (h2:kI c=false) (h0:dz L nx=0) (hf:(aI now L).findIdx? (fun x=>bq x c)=none) (hM:aI now (aI now L++[{ c with no:=nx }])=M) (hE1:evF 4 (ofP c.domain false) (M.length+1) M=E1) (hE2:evF 12 (ofP [] true) (E1.length+1) E1=E2) (hb1:M.length≤100) (hb2:E1.length≤100):
  aj Tryz.prog 109 [dI L nx,c.v,.int .i64 now] (.tup [dI E2 (nx+1),.int .i64 0]):=by
 have c1:=oF (L:=L) (nx:=nx)
 rw [h0] at c1
 have c2:=qI (n:=now)
 rw [h1] at c2
 have c3:=tL (c:=c)
 rw [h2] at c3
 change aj _ _ _ (.bool true) at c3
 have c4:=KC (L:=L) (nx:=nx) (now:=now) (by omega)
 have c5:=xJ (L:=L) (nx:=nx) (now:=now) (by omega)
 have hl:(aI now L).length≤12:=Nat.le_trans (List.length_filter_le _ _) hb
 have c6:=abq.Vh (L:=aI now L) (c:=c) (nx:=nx) (now:=now) (by omega) hn (by omega) hf
 have hl2:(aI now L++[{ c with no:=nx }]).length≤1000:=by rw [List.length_append];simp;omega
 have c7:=xJ (nx:=nx+1) (now:=now) hl2
 rw [hM] at c7
 have c8:=KE (c:=c) (most:=4) (nx:=nx+1) (now:=now) (by omega) hE1
 have c9:=JR (most:=12) (nx:=nx+1) (now:=now) (by omega) hE2
 generalize aI now L++[{ c with no:=nx }]=K at *
 generalize aI now L=A at *
 refine u6 af Tryz.func109 rfl Tryz.ntmps109 Tryz.results109 rfl fun N=>?_
 repeat' (first|refine zV ?_|(refine isR ?_;first|refine zk c1 ?_|refine zk c2 ?_|refine zk c3 ?_|refine x_m [] [1,2] (c4 _) ?_|refine x_m [] [1,2] (c4) ?_|refine x_m [1,2] [] (c5 _) ?_|refine x_m [1,2] [] (c5) ?_|refine x_m [1,2] [3] (c6 _) ?_|refine x_m [1,2] [3] (c6) ?_|refine x_m [3,2] [] (c7 _) ?_|refine x_m [3,2] [] (c7) ?_|refine x_m [3,2] [] (c8 _) ?_|refine x_m [3,2] [] (c8) ?_|refine x_m [3,2] [] (c9 _) ?_|refine x_m [3,2] [] (c9) ?_)|refine zW ?_|exact ai)
 exact O6 rfl
theorem NT {d:ah} {i:Nat} (hb:L.length≤12) (hn:0≤nx) (hn2:nx<1099511627776) (h1:isJ now=true) (h2:kI c=false) (h0:dz L nx=0) (hf:(aI now L).findIdx? (fun x=>bq x c)=some i) (hx:(aI now L)[i]? = some d) (hM:aI now ((aI now L).set i { c with created:=d.created,no:=d.no })=M) (hE1:evF 4 (ofP c.domain false) (M.length+1) M=E1) (hE2:evF 12 (ofP [] true) (E1.length+1) E1=E2) (hb1:M.length≤100) (hb2:E1.length≤100):
  aj Tryz.prog 109 [dI L nx,c.v,.int .i64 now] (.tup [dI E2 nx,.int .i64 0]):=by
 have c1:=oF (L:=L) (nx:=nx)
 rw [h0] at c1
 have c2:=qI (n:=now)
 rw [h1] at c2
 have c3:=tL (c:=c)
 rw [h2] at c3
 change aj _ _ _ (.bool true) at c3
 have c4:=KC (L:=L) (nx:=nx) (now:=now) (by omega)
 have c5:=xJ (L:=L) (nx:=nx) (now:=now) (by omega)
 have hl:(aI now L).length≤12:=Nat.le_trans (List.length_filter_le _ _) hb
 have c6:=abq.P7 (L:=aI now L) (c:=c) (nx:=nx) (now:=now) (by omega) hf hx
 have hset:((aI now L).set i { c with created:=d.created,no:=d.no }).length=(aI now L).length:=List.length_set
 have c7:=xJ (L:=(aI now L).set i { c with created:=d.created,no:=d.no }) (nx:=nx) (now:=now) (by omega)
 rw [hM,hset] at c7
 have c8:=KE (c:=c) (most:=4) (nx:=nx) (now:=now) (by omega) hE1
 have c9:=JR (most:=12) (nx:=nx) (now:=now) (by omega) hE2
 have hne:nx≠1099511627776:=by omega
 generalize (aI now L).set i { c with created:=d.created,no:=d.no }=K at *
 generalize aI now L=A at *
 refine u6 af Tryz.func109 rfl Tryz.ntmps109 Tryz.results109 rfl fun N=>?_
 repeat' (first|refine zV ?_|(refine isR ?_;first|refine zk c1 ?_|refine zk c2 ?_|refine zk c3 ?_|refine x_m [] [1,2] (c4 _) ?_|refine x_m [] [1,2] (c4) ?_|refine x_m [1,2] [] (c5 _) ?_ (hst:=.cons (.same (aT fun _=>rfl)) (.cons (.ren rfl) .nil))|refine x_m [1,2] [] (c6 _) ?_|refine x_m [1,2] [] (c6) ?_|refine x_m [1,2] [] (c7 _) ?_ (hst:=.cons (.same (aT fun _=>rfl)) (.cons (.ren rfl) .nil))|refine x_m [1,2] [] (c8 _) ?_|refine x_m [1,2] [] (c8) ?_|refine x_m [1,2] [] (c9 _) ?_|refine x_m [1,2] [] (c9) ?_)|refine zW ?_|exact ai)
 exact O6 rfl
theorem Nr (h:gW L nx c now=0):aj Tryz.prog 109 [dI L nx,c.v,.int .i64 now] (.tup [dI (rZ L nx c now).1 (rZ L nx c now).2,.int .i64 0]):=by
 obtain ⟨h1,h2,h3,h4⟩:=QK.wM h
 have hr:Rj L nx:=eX.1 h1
 have hn:=hr.nx
 have hlen:=hr.len
 have ev:∀ most p f (M:List ah),(evF most p f M).length≤M.length:=fun most p f=>by
  induction f with
  | zero=>intro M;exact Nat.le_refl _
  | succ f ih =>
   intro M
   rw [evF]
   split
   ·exact Nat.le_refl _
   ·split
    ·exact Nat.le_refl _
    ·exact Nat.le_trans (ih _) (List.length_eraseIdx_le _ _)
 have hll:∀ M:List ah,(aI now M).length≤M.length:=fun M=>List.length_filter_le _ _
 have hl1:=hll L
 cases hf:(aI now L).findIdx? (fun x=>bq x c) with
 | none =>
  have e:lQ (aI now L) nx c=(aI now L++[{ c with no:=nx }],nx+1):=by unfold lQ;rw [hf]
  have e1:rZ L nx c now=(evF 12 (ofP [] true) ((evF 4 (ofP c.domain false) ((aI now (aI now L++[{ c with no:=nx }])).length+1) (aI now (aI now L++[{ c with no:=nx }]))).length+1) (evF 4 (ofP c.domain false) ((aI now (aI now L++[{ c with no:=nx }])).length+1) (aI now (aI now L++[{ c with no:=nx }]))),nx+1):=by
   unfold rZ
   rw [e]
   rfl
  rw [e1]
  have hb1:(aI now (aI now L++[{ c with no:=nx }])).length≤100:=by
   refine Nat.le_trans (hll _) ?_
   rw [List.length_append]
   simp
   omega
  exact Qb hlen hn.1 (by omega) h2 h3 h1 hf rfl rfl rfl hb1 (Nat.le_trans (ev _ _ _ _) hb1)
 | some i0 =>
  obtain ⟨hi,_,_⟩:=List.findIdx?_eq_some_iff_getElem.1 hf
  have hx:(aI now L)[i0]? = some (aI now L)[i0]:=by simp [hi]
  have hg:(aI now L).getD i0 c=(aI now L)[i0]:=by rw [List.getD_eq_getElem?_getD,hx];rfl
  have e:lQ (aI now L) nx c=((aI now L).set i0 { c with created:=((aI now L)[i0]).created,no:=((aI now L)[i0]).no },nx):=by
   unfold lQ
   rw [hf]
   dsimp only
   rw [hg]
  have e1:rZ L nx c now=(evF 12 (ofP [] true) ((evF 4 (ofP c.domain false) ((aI now (lQ (aI now L) nx c).1).length+1) (aI now (lQ (aI now L) nx c).1)).length+1) (evF 4 (ofP c.domain false) ((aI now (lQ (aI now L) nx c).1).length+1) (aI now (lQ (aI now L) nx c).1)),(lQ (aI now L) nx c).2):=rfl
  rw [e1,e]
  have hb1:(aI now ((aI now L).set i0 { c with created:=((aI now L)[i0]).created,no:=((aI now L)[i0]).no })).length≤100:=by
   refine Nat.le_trans (hll _) ?_
   rw [List.length_set]
   omega
  exact NT hlen hn.1 (by omega) h2 h3 h1 hf hx rfl rfl rfl hb1 (Nat.le_trans (ev _ _ _ _) hb1)
end NZ
namespace Qx
open Go.RowKit Mem Abs Scan gy gY iW iY iV IC mX wS J3
def oV (g:ah→Bool) (now:Int) (c:ah):ah:=if g c=true then { c with used:=now } else c
end Qx
namespace RO
open Go.RowKit Mem Abs Scan gy gY iW iY iV mX J3 Qx pG su YZ NZ
abbrev stT (L:List ah) (nx now:Int) (f:From) (A B:List ah) (i:Nat):S:=⟨[(2,.int .i64 now),(4,.fp f.v.cells 0),(6,.loc 0 0 0),(10,.loc 2 0 0),(11,.own 3 0 B.length),(33,nV L.length),(34,nV i)],[(0,some (.els TJ 2 [noJ])),(1,some (rC A)),(2,some (rOn 1 L.length nx now)),(3,some (rC B))],4,67⟩
theorem aaM {Γ:iJ} {L:List ah} {nx:Int} {now:Int} {f:From} {g:ah→Bool} {G:List ah} (c1:aj Tryz.prog 32 [dI L nx] (.int .i64 0)) (c2:aj Tryz.prog 132 [f.v,.int .i64 now] (.int .i64 0)) (c3:∀ c∈L,av Tryz.prog Γ 144 [c.v,f.v,.int .i64 now] (.bool (g c))) (hL:L.length≤12)
  (c4:aj Tryz.prog 145 [.fro (((L.filter g).map fun c=>{ c with used:=now }).map ah.v)] (.fro (G.map ah.v))) :
  av Tryz.prog Γ 110 [dI L nx,f.v,.int .i64 now] (.tup [dI (L.map (oV g now)) nx,.fro (G.map ah.v),.int .i64 0]):=by
 have hml:(L.map ah.v).length=L.length:=List.length_map _
 have c5:=KC (L:=L) (nx:=nx) (now:=now) (by omega)
 refine wF af Tryz.func110 rfl Tryz.ntmps110 Tryz.results110 rfl fun N=>?_
 repeat' (first|refine zV ?_|(refine isR ?_;first|refine zk c1 ?_|refine zk c2 ?_|refine x_m [] [1,2] (c5 _) ?_|refine x_m [] [1,2] (c5) ?_)|refine zW ?_|exact ai)
 refine j3 (t:=11) TC 13 (by decide) rfl rfl ?_
 refine fI (fun i=>stT L nx now f ((L.take i).map (oV g now)++L.drop i) (((L.take i).filter g).map fun c=>{ c with used:=now }) i) (fun i=>i≤L.length) L.length 0 (by exact ai) (Nat.zero_le _) ?_
 intro i hi
 by_cases hi2:i<L.length
 ·have hx:L[i]? = some L[i]:=by simp [hi2]
  have hlt:((L.take i).map (oV g now)).length=i:=by rw [List.length_map,List.length_take];omega
  have hA:((L.take i).map (oV g now)++L.drop i).length=L.length:=by rw [List.length_append,hlt,List.length_drop];omega
  have hAx:((L.take i).map (oV g now)++L.drop i)[i]? = some L[i]:=by
   rw [List.getElem?_append_right (by omega),hlt,Nat.sub_self,List.getElem?_drop]
   exact hx
  have hdc:L.drop i=L[i]::L.drop (i+1):=List.drop_eq_getElem_cons hi2
  have e1:∀ d,((L.take i).map (oV g now)++L.drop i).set i d=(L.take i).map (oV g now)++d::L.drop (i+1):=fun d=>by
   rw [List.set_append_right _ _ (by omega),hlt,Nat.sub_self,hdc];rfl
  have e3:(L.take (i+1)).map (oV g now)++L.drop (i+1)=(L.take i).map (oV g now)++oV g now L[i]::L.drop (i+1):=by rw [List.take_add_one,hx,List.map_append,List.append_assoc];rfl
  have e2:((L.take (i+1)).filter g).map (fun c=>{ c with used:=now })=((L.take i).filter g).map (fun c=>{ c with used:=now })++if g L[i]=true then [{ L[i] with used:=now }] else []:=by
   rw [List.take_add_one,hx,List.filter_append,List.map_append]
   congr 1
   by_cases h:g L[i]=true<;>simp [h]
  have hB:(((L.take i).filter g).map fun c=>{ c with used:=now }).length≤100:=by rw [List.length_map];exact Nat.le_trans (List.length_filter_le _ _) (by simp;omega)
  have cg:=c3 L[i] (List.getElem_mem hi2)
  have e4:=e1 { L[i] with used:=now }
  have e5:(L.take i).map (oV g now)++L[i]::L.drop (i+1)=(L.take i).map (oV g now)++L.drop i:=by rw [hdc]
  generalize L[i]=c at *
  generalize (L.take (i+1)).map (oV g now)++L.drop (i+1)=A1 at *
  generalize ((L.take (i+1)).filter g).map (fun c=>{ c with used:=now })=B1 at *
  generalize hAA:(L.take i).map (oV g now)++L.drop i=A at *
  generalize ((L.take i).filter g).map (fun c=>{ c with used:=now })=B at *
  subst e2
  have hAm:(A.map ah.v).length=A.length:=List.length_map _
  by_cases h:g c=true
  ·rw [h] at cg
   rw [show oV g now c = { c with used:=now } from if_pos h] at e3
   rw [if_pos h]
   have hAx2:(A.set i { c with used:=now })[i]? = some { c with used:=now }:=by rw [List.getElem?_set,if_pos rfl,if_pos (by omega)]
   rw [← e4] at e3
   subst e3
   repeat' (first|(refine isR ?_;first|refine aJ rfl rfl rfl (BV rfl) (hT rfl Abs.h0) ?_|refine aJ rfl rfl rfl (pq rfl rfl) (hT rfl Abs.h0) ?_|refine aJ rfl rfl rfl (gP af rfl rfl rfl rfl rfl) (hT rfl Abs.h0) ?_|refine cO ah.v i af ?_)|refine zt ?_|(refine isR ?_;first|refine zo ?_|refine zk cg ?_|refine Zv ah.v (a1:={ c with used:=now }) i af ?_|refine kr ah.v (a1:=({ c with used:=now })) af ?_|refine QX af ?_|refine zA ?_|refine zL ?_|refine zc1 ?_|refine zc5 ?_|refine zc6 ?_|refine zI ?_)|refine zr ?_|exact ai)
   refine ⟨by omega,hi2,?_⟩
   exact (by exact x_len [0,1,2,4])
  ·have h:g c=false:=by simpa using h
   rw [h] at cg
   rw [show oV g now c=c from if_neg (by rw [h];simp),e5] at e3
   rw [if_neg (by rw [h];simp),List.append_nil]
   subst e3
   repeat' (first|(refine isR ?_;first|refine aJ rfl rfl rfl (BV rfl) (hT rfl Abs.h0) ?_|refine aJ rfl rfl rfl (pq rfl rfl) (hT rfl Abs.h0) ?_|refine aJ rfl rfl rfl (gP af rfl rfl rfl rfl rfl) (hT rfl Abs.h0) ?_|refine cO ah.v i af ?_)|refine zt ?_|(refine isR ?_;first|refine zo ?_|refine zk cg ?_|refine QX af ?_|refine zA ?_|refine zL ?_|refine zc1 ?_|refine zc5 ?_|refine zc6 ?_|refine zI ?_)|refine zr ?_|exact ai)
   refine ⟨by omega,hi2,?_⟩
   exact (by exact x_len [0,1,2,3])
 ·obtain rfl:i=L.length:=by omega
  rw [List.take_length,List.drop_length,List.append_nil]
  have hlm:L.length=(L.map (oV g now)).length:=by simp
  repeat' (first|refine sU 2 0 1 hlm (fun _=>rfl) ?_|refine Ms 3 11 rfl (fun _=>rfl) ?_|refine zV ?_|(refine isR ?_;refine zk c4 ?_)|refine zW ?_|exact ai)
  all_goals rfl
end RO
namespace Xq
open Go.RowKit Mem Abs Scan gy gY iW iY iV IC mX wS J3 Qx
theorem Qt {L K:List ah} {nx nx2:Int} {b:Bool} (c1:aj Tryz.prog 52 [.fro (L.map ah.v),.fro (K.map ah.v)] (.bool (b))):aj Tryz.prog 21 [dI L nx,dI K nx2] (.bool (decide (nx=nx2)&&b)):=by
 by_cases h:nx=nx2
 ·rw [decide_eq_true h]
  cases b
  all_goals
   refine aX af Tryz.func21 rfl Tryz.ntmps21 Tryz.results21 rfl fun N=>?_
   repeat' (first|refine zV ?_|(refine isR ?_;refine zk c1 ?_)|refine zW ?_|exact ai)
   all_goals first|rfl|(exfalso;omega)
 ·rw [decide_eq_false h]
  cases b
  all_goals
   refine aX af Tryz.func21 rfl Tryz.ntmps21 Tryz.results21 rfl fun N=>?_
   repeat' (first|refine zV ?_|(refine isR ?_;refine zk c1 ?_)|refine zW ?_|exact ai)
   all_goals first|rfl|(exfalso;omega)
end Xq
end Go.Proofs.YtlfdjpgghiemfaaGreatDoor
