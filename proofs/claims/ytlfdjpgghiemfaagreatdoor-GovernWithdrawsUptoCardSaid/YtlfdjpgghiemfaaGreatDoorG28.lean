/- Texts of the proof, joined: JarO, JarD, JarE, JarF, JarG, JarH, JarK, JarS, JarI, JarT, JarJ, JarU, RjP. -/
import Derived.Test.YtlfdjpgghiemfaaGreatDoorG27
import Derived.Test.YtlfdjpgghiemfaaGreatDoorG22
import Derived.Test.YtlfdjpgghiemfaaGreatDoorG14
import Derived.Test.YtlfdjpgghiemfaaGreatDoorG19
import Derived.Test.YtlfdjpgghiemfaaGreatDoorG23
import Derived.Test.YtlfdjpgghiemfaaGreatDoorG18
import Derived.Test.YtlfdjpgghiemfaaGreatDoorG20
import Derived.Test.YtlfdjpgghiemfaaGreatDoorG24
set_option maxHeartbeats 4000000
set_option maxRecDepth 100000
section
namespace Go.Proofs.YtlfdjpgghiemfaaGreatDoor.JarO
open Go.RowKit Mem Abs Scan JarP JarQ JarA JarB JarC JarL JarM SortW
abbrev rOn (k n:Nat) (nx now:Int):Blk:=.els TO 3 [.agg [.own k 0 n,.int .i64 nx,.int .i64 now]]
abbrev TI:Nat:=3
abbrev rI (l:List Nat):Blk:=.els TI 1 (l.map nV)
def orU (a b:Int):Int:=if a≠0 then a else b
theorem or2_v {a b:Int}:ACalls Tryz.prog 186 [.fro [.int .i64 a,.int .i64 b]] (.int .i64 (orU a b)):=by
 have hz:[V.int .i64 a,V.int .i64 b].length=2:=rfl
 unfold orU
 by_cases h:a=0
 ·rw [if_neg (by simp [h])]
  by_cases h2:b=0
  ·skip
   refine fun1 tb_ok Tryz.func186 rfl Tryz.ntmps186 Tryz.results186 rfl fun N=>?_
   repeat' (first|with_reducible refine rounds_on ?_|with_reducible refine awp_rounds 3 ?_|refine zt ?_|(refine isR ?_;first|refine zo ?_|refine zA ?_|refine zL ?_|refine zc1 ?_|refine zc6 ?_|refine zI ?_)|refine zr ?_|exact x_le)
   all_goals first|(subst h2;rfl)|(exfalso;omega)
  ·skip
   refine fun1 tb_ok Tryz.func186 rfl Tryz.ntmps186 Tryz.results186 rfl fun N=>?_
   repeat' (first|with_reducible refine rounds_on ?_|with_reducible refine awp_rounds 3 ?_|refine zt ?_|(refine isR ?_;first|refine zo ?_|refine zA ?_|refine zL ?_|refine zc1 ?_|refine zc6 ?_|refine zI ?_)|refine zr ?_|exact x_le)
   all_goals first|rfl|(exfalso;omega)
 ·rw [if_pos h]
  refine fun1 tb_ok Tryz.func186 rfl Tryz.ntmps186 Tryz.results186 rfl fun N=>?_
  repeat' (first|with_reducible refine rounds_on ?_|with_reducible refine awp_rounds 3 ?_|refine zt ?_|(refine isR ?_;first|refine zo ?_|refine zA ?_|refine zL ?_|refine zc1 ?_|refine zc6 ?_|refine zI ?_)|refine zr ?_|exact x_le)
  all_goals first|rfl|(exfalso;omega)
def cmpU (a b:Cookie):Int:=orU (cmpI a.used b.used) (cmpI a.no b.no)
theorem cmpU_lt (a b:Cookie):cmpU a b<0↔lessU a b=true:=by
 unfold cmpU orU cmpI lessU
 by_cases h1:a.used<b.used
 ·simp [h1]
 ·by_cases h2:b.used<a.used
  ·have:¬ a.used=b.used:=by omega
   simp [h1,h2,this]
  ·have:a.used=b.used:=by omega
   by_cases h3:a.no<b.no
   ·simp [this,h3]
   ·by_cases h4:b.no<a.no<;>simp [this,h3,h4]
abbrev rBn (k:Nat):Blk:=.els TP 1 [.loc k 0 0]
abbrev fnE (k:Nat):Abs.V:=.fn (.func 185) [] [.loc k 0 0]
theorem less_m {M:List Cookie} {i k:Nat} {a b:Cookie} {n:Nat} {nx now:Int} (hi:M[i]? = some a) (hk:M[k]? = some b) (hn:n=M.length):MCalls Tryz.prog 185 [nV i,nV k,.loc 1 0 0] [rC M,rB,rO n nx now] (.int .i64 (cmpU a b)) [some (rC M),some rB,some (rO n nx now)]:=by
 have c1:=compare_v (a:=a.used) (b:=b.used)
 have c2:=compare_v (a:=a.no) (b:=b.no)
 have c3:=or2_v (a:=cmpI a.used b.used) (b:=cmpI a.no b.no)
 have hi2:=(List.getElem?_eq_some_iff.1 hi).1
 have hk2:=(List.getElem?_eq_some_iff.1 hk).1
 have hma:=at_map (f:=Cookie.v) hi
 have hmb:=at_map (f:=Cookie.v) hk
 unfold cmpU
 refine mfun tb_ok Tryz.func185 rfl Tryz.ntmps185 Tryz.results185 rfl rfl rfl rfl fun N pl=>?_
 repeat' (first|refine zt ?_|(refine isR ?_;first|refine zo ?_|refine x_ldI Cookie.v i tb_ok ?_|refine x_ldI Cookie.v k tb_ok ?_|refine zk c1 ?_|refine zk c2 ?_|refine zk c3 ?_|refine x_bs tb_ok ?_|refine zI ?_)|refine x_mret [0,1,2] ?_ ?_|exact x_le)
 ·rfl
 ·exact .on (.same (nl_map fun _=>rfl)) (.on (.ren rfl) (.on (.ren rfl) .nil))
def minL (M:List Cookie) (l:List Nat) (m:Nat):Nat:=l.foldl (fun m i=>match M[i]?,M[m]? with
 | some a,some b=>if lessU a b=true then i else m
 | _,_=>m) m
theorem minL_lt {M:List Cookie}:∀ {l:List Nat} {m:Nat},m<M.length→(∀ i∈l,i<M.length)→minL M l m<M.length
 | [],_,h,_=>h
 | i::l,m,h,hl=>by
  unfold minL
  rw [List.foldl_cons]
  refine minL_lt (l:=l) ?_ fun j hj=>hl j (by simp [hj])
  have hi:=hl i (by simp)
  split
  ·split<;>assumption
  ·exact h
theorem minL_snoc {M:List Cookie} {l:List Nat} {m i:Nat}:minL M (l++[i]) m=match M[i]?,M[minL M l m]? with
 | some a,some b=>if lessU a b=true then i else minL M l m
 | _,_=>minL M l m:=by
 unfold minL
 rw [List.foldl_append]
 rfl
theorem minFunc_m {M:List Cookie} {l:List Nat} {i0:Nat} {n:Nat} {nx now:Int} (hl:l.length≤1000) (hin:∀ i∈l,i<M.length) (h0:l[0]? = some i0) (hn:n=M.length) :
  MCalls Tryz.prog 184 [.own 0 0 l.length,fnE 2] [rI l,rC M,rBn 3,rOn 1 n nx now] (nV (minL M (l.drop 1) i0)) [some (rI l),some (rC M),some (rBn 3),some (rOn 1 n nx now)]:=by
 have hml:(M.map Cookie.v).length=M.length:=List.length_map _
 have hil:(l.map nV).length=l.length:=List.length_map _
 have hl0:=(List.getElem?_eq_some_iff.1 h0).1
 have hm0:=at_map (f:=nV) h0
 generalize hR:minL M (l.drop 1) i0=R
 refine mfun tb_ok Tryz.func184 rfl Tryz.ntmps184 Tryz.results184 rfl rfl rfl rfl fun N pl=>?_
 repeat' (first|refine zt ?_|(refine isR ?_;first|refine zo ?_|refine x_ldI nV 0 tb_ok ?_|refine zA ?_|refine zL ?_|refine zc1 ?_|refine zI ?_)|exact x_le)
 refine awp_forN (fun k=>⟨[(0,.own 0 0 l.length),(1,fnE 2),(5,nV (minL M ((l.take (k+1)).drop 1) i0)),(6,nV (k+1))],[(0,some (rI l)),(1,some (rC M)),(2,some (rBn 3)),(3,some (rOn 1 n nx now))],4,33⟩) (fun k=>k+1≤l.length) l.length 0 ?_ (by omega) ?_
 ·rw [show (l.take (0+1)).drop 1=[] by simp]
  exact (by exact x_le)
 intro k hk
 by_cases hk2:k+1<l.length
 ·have hx:l[k+1]? = some l[k+1]:=by simp [hk2]
  have hi1:=hin l[k+1] (List.getElem_mem _)
  have hs:(l.take (k+1+1)).drop 1=(l.take (k+1)).drop 1++[l[k+1]]:=by
   rw [List.take_add_one,hx,List.drop_append_of_le_length (by rw [List.length_take];omega)];rfl
  have hm1:minL M ((l.take (k+1)).drop 1) i0<M.length:=minL_lt (hin i0 (List.mem_of_getElem? h0)) fun i hi=>hin i (List.mem_of_mem_take (List.mem_of_mem_drop hi))
  have hsn:=minL_snoc (M:=M) (l:=(l.take (k+1)).drop 1) (m:=i0) (i:=l[k+1])
  rw [← hs] at hsn
  generalize l[k+1]=i at *
  have ha:M[i]? = some M[i]:=by simp [hi1]
  generalize minL M ((l.take (k+1)).drop 1) i0=m at *
  generalize hm2:minL M ((l.take (k+1+1)).drop 1) i0=m2 at *
  have hb:M[m]? = some M[m]:=by simp [hm1]
  have c1:=less_m (n:=n) (nx:=nx) (now:=now) ha hb hn
  have hlt:=cmpU_lt M[i] M[m]
  rw [ha,hb] at hsn
  dsimp only at hsn
  generalize cmpU M[i] M[m]=q at *
  have hmi:=at_map (f:=nV) hx
  by_cases g:q<0
  ·rw [if_pos (hlt.1 g)] at hsn
   subst hsn
   repeat' (first|refine zt ?_|(refine isR ?_;first|refine zo ?_|refine x_ldI nV (k+1) tb_ok ?_|refine x_mv [1,2,3] [] (c1 _) ?_|refine x_mv [1,2,3] [] (c1) ?_|refine zA ?_|refine zL ?_|refine zc1 ?_|refine zI ?_)|exact x_le)
   refine ⟨by omega,by omega,?_⟩
   exact (by exact x_len [0,1,2,3])
  ·rw [if_neg fun h=>g (hlt.2 h)] at hsn
   subst hsn
   repeat' (first|refine zt ?_|(refine isR ?_;first|refine zo ?_|refine x_ldI nV (k+1) tb_ok ?_|refine x_mv [1,2,3] [] (c1 _) ?_|refine x_mv [1,2,3] [] (c1) ?_|refine zA ?_|refine zL ?_|refine zc1 ?_|refine zI ?_)|exact x_le)
   refine ⟨by omega,by omega,?_⟩
   exact (by exact x_len [0,1,2,3])
 ·obtain rfl:R=minL M ((l.take (k+1)).drop 1) i0:=by rw [List.take_of_length_le (by omega),hR]
  generalize minL M ((l.take (k+1)).drop 1) i0=m at *
  repeat' (first|refine zt ?_|(refine isR ?_;first|refine zo ?_|refine zA ?_|refine zL ?_|refine zc1 ?_|refine zI ?_)|refine x_mret [0,1,2,3] ?_ ?_|exact x_le)
  ·rfl
  ·exact .on (.same (nl_map fun _=>rfl)) (.on (.same (nl_map fun _=>rfl)) (.on (.ren rfl) (.on (.ren rfl) .nil)))
theorem delete_m {M:List Cookie} {a:Nat} (hM:M.length≤1000) (ha:a<M.length):MCalls Tryz.prog 188 [.own 0 0 M.length,nV a,nV (a+1)] [rC M] (.own 0 0 (M.eraseIdx a).length) [some (rC (M.eraseIdx a))]:=by
 have hml:(M.map Cookie.v).length=M.length:=List.length_map _
 have he:M.eraseIdx a=M.take a++M.drop (a+1):=List.eraseIdx_eq_take_drop_succ M a
 have hel:(M.eraseIdx a).length=M.length-1:=List.length_eraseIdx_of_lt ha
 by_cases h:a+1<M.length
 ·have hq:a+(M.length-(a+1))=(M.eraseIdx a).length:=by rw [hel];omega
  have hz:M.take a++((M.drop (0+(a+1))).take (M.length-(a+1))++M.drop (a+(M.length-(a+1))))=M.eraseIdx a++M.drop (M.length-1):=by
   have h5:(M.drop (a+1)).take (M.length-(a+1))=M.drop (a+1):=List.take_of_length_le (by rw [List.length_drop];omega)
   rw [he,Nat.zero_add,h5,show a+(M.length-(a+1))=M.length-1 by omega,List.append_assoc]
  have hzl:(M.eraseIdx a++M.drop (M.length-1)).length=M.length:=by rw [List.length_append,hel,List.length_drop];omega
  have hcut:(M.eraseIdx a++M.drop (M.length-1)).take (0+(a+(M.length-(a+1))))=M.eraseIdx a:=by rw [Nat.zero_add,hq];exact List.take_left' rfl
  rw [← hq]
  generalize M.eraseIdx a=E at *
  generalize hZ:E++M.drop (M.length-1)=Z at *
  refine mfun tb_ok Tryz.func188 rfl Tryz.ntmps188 Tryz.results188 rfl rfl rfl rfl fun N pl=>?_
  repeat' (first|refine zt ?_|(refine isR ?_;first|refine zo ?_|refine x_sl3 tb_ok ?_|refine x_slOt tb_ok ?_|refine x_slOf tb_ok ?_|refine x_appIn Cookie.v Z tb_ok ?_|refine x_slOm tb_ok ?_|refine x_clear Cookie.v E tb_ok ?_|refine zL ?_|refine zc5 ?_)|refine x_mret [0] ?_ ?_|exact x_le)
  all_goals first|rfl|exact .on (.same (nl_map fun _=>rfl)) .nil
 ·have ha1:a+1=M.length:=by omega
  have hcut:M.take (0+a)=M.eraseIdx a:=by rw [he,Nat.zero_add,List.drop_of_length_le (by omega),List.append_nil]
  have hq:a=(M.eraseIdx a).length:=by rw [hel];omega
  rw [← hq]
  generalize M.eraseIdx a=E at *
  refine mfun tb_ok Tryz.func188 rfl Tryz.ntmps188 Tryz.results188 rfl rfl rfl rfl fun N pl=>?_
  repeat' (first|refine zt ?_|(refine isR ?_;first|refine zo ?_|refine x_sl3 tb_ok ?_|refine x_slOt tb_ok ?_|refine x_slOe tb_ok ?_|refine x_appNo tb_ok ?_|refine x_slOm tb_ok ?_|refine x_clear Cookie.v E tb_ok ?_|refine zL ?_|refine zc5 ?_)|refine x_mret [0] ?_ ?_|exact x_le)
  all_goals first|rfl|exact .on (.same (nl_map fun _=>rfl)) .nil
def idxs (p:Cookie→Bool) (M:List Cookie):Nat→List Nat
 | 0=>[]
 | k+1=>match M[k]? with
  | none=>idxs p M k
  | some c=>if p c=true then idxs p M k++[k] else idxs p M k
theorem idxs_len {p:Cookie→Bool} {M:List Cookie}:∀ {k:Nat},(idxs p M k).length=(M.take k).countP p
 | 0=>rfl
 | k+1=>by
  rw [idxs,List.take_add_one]
  cases hc:M[k]? with
  | none=>simpa using idxs_len (k:=k)
  | some c =>
   dsimp only
   rw [List.countP_append]
   by_cases h:p c=true
   ·rw [if_pos h,List.length_append,idxs_len];simp [h]
   ·rw [if_neg h,idxs_len];simp [h]
theorem idxs_lt {p:Cookie→Bool} {M:List Cookie}:∀ {k:Nat},∀ i∈idxs p M k,i<M.length
 | 0,i,h=>by simp [idxs] at h
 | k+1,i,h=>by
  rw [idxs] at h
  cases hc:M[k]? with
  | none=>rw [hc] at h;exact idxs_lt i h
  | some c =>
   rw [hc] at h
   dsimp only at h
   have hk:=(List.getElem?_eq_some_iff.1 hc).1
   split at h
   ·rcases List.mem_append.1 h with h|h
    ·exact idxs_lt i h
    ·rw [List.mem_singleton] at h;omega
   ·exact idxs_lt i h
theorem minAt_idxs {p:Cookie→Bool} {M:List Cookie}:∀ {k:Nat},minAt p M k=match idxs p M k with
  | []=>none
  | i::r=>some (minL M r i)
 | 0=>rfl
 | k+1=>by
  rw [minAt,idxs]
  cases hc:M[k]? with
  | none=>exact minAt_idxs
  | some c =>
   dsimp only
   by_cases h:p c=true
   ·rw [if_pos h,if_pos h,minAt_idxs (k:=k)]
    have hlt:=idxs_lt (p:=p) (M:=M) (k:=k)
    generalize idxs p M k=l at *
    cases l with
    | nil=>rfl
    | cons i r =>
     show _=some (minL M (r++[k]) i)
     have hm:minL M r i<M.length:=minL_lt (hlt i (by simp)) fun j hj=>hlt j (by simp [hj])
     have hg:M[minL M r i]? = some M[minL M r i]:=by simp [hm]
     rw [minL_snoc,hc,hg]
     dsimp only
     rw [List.getD_eq_getElem?_getD,hg,Option.getD_some]
     split<;>rfl
   ·rw [if_neg h,if_neg h]
    exact minAt_idxs
abbrev fnP (c:Cookie):Abs.V:=.fn (.func 142) [] [.fp c.v.cells 0]
abbrev fnA:Abs.V:=.fn (.func 143) [] []
theorem put1_v {c x:Cookie}:ACalls Tryz.prog 142 [x.v,.fp c.v.cells 0] (.bool (ofP c.domain false x)):=by
 unfold ofP
 by_cases h:x.domain=c.domain
 ·rw [decide_eq_true h]
  refine fun2 tb_ok Tryz.func142 rfl Tryz.ntmps142 Tryz.results142 rfl fun N=>?_
  repeat' (first|refine zt ?_|(refine isR ?_;first|refine zo ?_|refine zc5 ?_)|refine zr ?_|exact x_le)
  all_goals rfl
 ·rw [decide_eq_false h]
  refine fun2 tb_ok Tryz.func142 rfl Tryz.ntmps142 Tryz.results142 rfl fun N=>?_
  repeat' (first|refine zt ?_|(refine isR ?_;first|refine zo ?_|refine zc5 ?_)|refine zr ?_|exact x_le)
  all_goals rfl
theorem put2_v {x:Cookie}:ACalls Tryz.prog 143 [x.v] (.bool (ofP [] true x)):=by
 refine fun1 tb_ok Tryz.func143 rfl Tryz.ntmps143 Tryz.results143 rfl fun N=>?_
 repeat' (first|refine zt ?_|(refine isR ?_;first|refine zo ?_)|refine zr ?_|exact x_le)
 all_goals rfl
theorem evict1_m {L E:List Cookie} {c:Cookie} {most:Nat} {nx now:Int} (hb:L.length≤1000) (hE:evF most (ofP c.domain false) (L.length+1) L=E):MCalls Tryz.prog 141 [.loc 1 0 0,nV most,fnP c] [rC L,rO L.length nx now] (.tup []) [some (rC E),some (rO E.length nx now)]:=by
 refine mfun tb_ok Tryz.func141 rfl Tryz.ntmps141 Tryz.results141 rfl rfl rfl rfl fun N pl=>?_
 repeat' (first|refine zt ?_|(refine isR ?_;first|refine x_far [3] tb_ok rfl ?_|refine zn ?_|refine x_bs tb_ok ?_|refine zA ?_|refine zL ?_|refine zc1 ?_|refine zc2 ?_|refine zI ?_)|exact x_le)
 refine awp_whileN (α:=List Cookie) (fun M=>⟨[(0,.loc 1 0 0),(1,nV most),(2,fnP c),(3,.loc 2 0 0)],[(0,some (rC M)),(1,some (rO M.length nx now)),(2,some (rBn 1))],3,49⟩) (fun M=>M.length≤1000∧∃ f,M.length<f∧evF most (ofP c.domain false) f M=E) (fun M=>M.length) L (by exact x_le) ⟨hb,L.length+1,Nat.lt_succ_self _,hE⟩ ?_
 rintro M ⟨hM,f,hf,he⟩
 have hml:(M.map Cookie.v).length=M.length:=List.length_map _
 obtain ⟨f,rfl⟩:∃ q,f=q+1:=⟨f-1,by omega⟩
 rw [evF] at he
 repeat' (first|refine zt ?_|(refine isR ?_;first|refine zo ?_|refine x_bs tb_ok ?_|refine zA ?_|refine zL ?_|refine zc1 ?_|refine zc2 ?_|refine zI ?_)|exact x_le)
 refine awp_name (t:=6) TI 1 (by decide) rfl rfl ?_
 refine awp_forN (fun k=>⟨[(0,.loc 1 0 0),(1,nV most),(2,fnP c),(3,.loc 2 0 0),(6,.own 3 0 (idxs (ofP c.domain false) M k).length),(14,.own 0 0 M.length),(15,nV M.length),(16,nV k)],[(0,some (rC M)),(1,some (rO M.length nx now)),(2,some (rBn 1)),(3,some (rI (idxs (ofP c.domain false) M k)))],4,49⟩) (fun k=>k≤M.length) M.length 0 (by exact x_le) (Nat.zero_le _) ?_
 intro k hk
 by_cases hk2:k<M.length
 ·have hx:M[k]? = some M[k]:=by simp [hk2]
  have hi:idxs (ofP c.domain false) M (k+1)=if ofP c.domain false M[k]=true then idxs (ofP c.domain false) M k++[k] else idxs (ofP c.domain false) M k:=by rw [idxs,hx]
  have hil:(idxs (ofP c.domain false) M k).length≤1000:=by rw [idxs_len];exact Nat.le_trans List.countP_le_length (by rw [List.length_take];omega)
  have c1:=put1_v (c:=c) (x:=M[k])
  generalize M[k]=x at *
  have hmx:=at_map (f:=Cookie.v) hx
  generalize idxs (ofP c.domain false) M (k+1)=J at *
  generalize idxs (ofP c.domain false) M k=I at *
  by_cases h:ofP c.domain false x=true
  ·rw [if_pos h] at hi
   subst hi
   rw [h] at c1
   repeat' (first|refine zt ?_|(refine isR ?_;first|refine zo ?_|refine x_ldI Cookie.v k tb_ok ?_|refine x_callv (c1 _) ?_|refine x_callv (c1) ?_|refine x_app nV (a1:=(k)) tb_ok ?_|refine x_bs tb_ok ?_|refine zA ?_|refine zL ?_|refine zc1 ?_|refine zc2 ?_|refine zI ?_)|exact x_le)
   refine ⟨by omega,by omega,?_⟩
   exact (by exact x_len [0,1,2,5])
  ·rw [if_neg h] at hi
   subst hi
   have h:ofP c.domain false x=false:=by simpa using h
   rw [h] at c1
   repeat' (first|refine zt ?_|(refine isR ?_;first|refine zo ?_|refine x_ldI Cookie.v k tb_ok ?_|refine x_callv (c1 _) ?_|refine x_callv (c1) ?_|refine x_bs tb_ok ?_|refine zA ?_|refine zL ?_|refine zc1 ?_|refine zc2 ?_|refine zI ?_)|exact x_le)
   refine ⟨by omega,by omega,?_⟩
   exact (by exact x_len [0,1,2,3])
 ·obtain rfl:k=M.length:=by omega
  have hlen:(idxs (ofP c.domain false) M M.length).length=M.countP (ofP c.domain false):=by rw [idxs_len,List.take_length]
  have hil:(idxs (ofP c.domain false) M M.length).length≤1000:=by rw [hlen];exact Nat.le_trans List.countP_le_length hM
  have hlt:=idxs_lt (p:=ofP c.domain false) (M:=M) (k:=M.length)
  rw [minAt_idxs,← hlen] at he
  generalize idxs (ofP c.domain false) M M.length=I at *
  by_cases g:I.length≤most
  ·rw [if_pos g] at he
   subst he
   repeat' (first|refine zt ?_|(refine isR ?_;first|refine zo ?_|refine x_bs tb_ok ?_|refine zA ?_|refine zL ?_|refine zc1 ?_|refine zc2 ?_|refine zI ?_)|refine x_mret [0,1] ?_ ?_|exact x_le)
   ·rfl
   ·exact .on (.same (nl_map fun _=>rfl)) (.on (.ren rfl) .nil)
  ·rw [if_neg g] at he
   cases I with
   | nil=>simp at g
   | cons i0 r =>
    dsimp only at he
    have c2:=minFunc_m (n:=M.length) (nx:=nx) (now:=now) hil hlt (i0:=i0) rfl rfl
    rw [show (i0::r).drop 1=r from rfl] at c2
    have ha:minL M r i0<M.length:=minL_lt (hlt i0 (by simp)) fun j hj=>hlt j (by simp [hj])
    have c3:=delete_m hM ha
    have hel:(M.eraseIdx (minL M r i0)).length=M.length-1:=List.length_eraseIdx_of_lt ha
    generalize hK:M.eraseIdx (minL M r i0)=K at *
    generalize minL M r i0=a at *
    generalize i0::r=I at *
    repeat' (first|refine zt ?_|(refine isR ?_;first|refine zo ?_|refine x_m [3,0,2,1] [] (c2 _) ?_|refine x_m [3,0,2,1] [] (c2) ?_|refine x_m [0] [] (c3 _) ?_|refine x_m [0] [] (c3) ?_|refine x_bs tb_ok ?_|refine zA ?_|refine zL ?_|refine zc1 ?_|refine zc2 ?_|refine zI ?_)|exact x_le)
    refine ⟨K,⟨by omega,f,by omega,he⟩,by omega,?_⟩
    exact (by exact x_len [0,1,2])
theorem evict2_m {L E:List Cookie} {most:Nat} {nx now:Int} (hb:L.length≤1000) (hE:evF most (ofP [] true) (L.length+1) L=E):MCalls Tryz.prog 141 [.loc 1 0 0,nV most,fnA] [rC L,rO L.length nx now] (.tup []) [some (rC E),some (rO E.length nx now)]:=by
 refine mfun tb_ok Tryz.func141 rfl Tryz.ntmps141 Tryz.results141 rfl rfl rfl rfl fun N pl=>?_
 repeat' (first|refine zt ?_|(refine isR ?_;first|refine x_far [3] tb_ok rfl ?_|refine zn ?_|refine x_bs tb_ok ?_|refine zA ?_|refine zL ?_|refine zc1 ?_|refine zc2 ?_|refine zI ?_)|exact x_le)
 refine awp_whileN (α:=List Cookie) (fun M=>⟨[(0,.loc 1 0 0),(1,nV most),(2,fnA),(3,.loc 2 0 0)],[(0,some (rC M)),(1,some (rO M.length nx now)),(2,some (rBn 1))],3,49⟩) (fun M=>M.length≤1000∧∃ f,M.length<f∧evF most (ofP [] true) f M=E) (fun M=>M.length) L (by exact x_le) ⟨hb,L.length+1,Nat.lt_succ_self _,hE⟩ ?_
 rintro M ⟨hM,f,hf,he⟩
 have hml:(M.map Cookie.v).length=M.length:=List.length_map _
 obtain ⟨f,rfl⟩:∃ q,f=q+1:=⟨f-1,by omega⟩
 rw [evF] at he
 repeat' (first|refine zt ?_|(refine isR ?_;first|refine zo ?_|refine x_bs tb_ok ?_|refine zA ?_|refine zL ?_|refine zc1 ?_|refine zc2 ?_|refine zI ?_)|exact x_le)
 refine awp_name (t:=6) TI 1 (by decide) rfl rfl ?_
 refine awp_forN (fun k=>⟨[(0,.loc 1 0 0),(1,nV most),(2,fnA),(3,.loc 2 0 0),(6,.own 3 0 (idxs (ofP [] true) M k).length),(14,.own 0 0 M.length),(15,nV M.length),(16,nV k)],[(0,some (rC M)),(1,some (rO M.length nx now)),(2,some (rBn 1)),(3,some (rI (idxs (ofP [] true) M k)))],4,49⟩) (fun k=>k≤M.length) M.length 0 (by exact x_le) (Nat.zero_le _) ?_
 intro k hk
 by_cases hk2:k<M.length
 ·have hx:M[k]? = some M[k]:=by simp [hk2]
  have hi:idxs (ofP [] true) M (k+1)=if ofP [] true M[k]=true then idxs (ofP [] true) M k++[k] else idxs (ofP [] true) M k:=by rw [idxs,hx]
  have hil:(idxs (ofP [] true) M k).length≤1000:=by rw [idxs_len];exact Nat.le_trans List.countP_le_length (by rw [List.length_take];omega)
  have c1:=put2_v (x:=M[k])
  generalize M[k]=x at *
  have hmx:=at_map (f:=Cookie.v) hx
  generalize idxs (ofP [] true) M (k+1)=J at *
  generalize idxs (ofP [] true) M k=I at *
  by_cases h:ofP [] true x=true
  ·rw [if_pos h] at hi
   subst hi
   rw [h] at c1
   repeat' (first|refine zt ?_|(refine isR ?_;first|refine zo ?_|refine x_ldI Cookie.v k tb_ok ?_|refine x_callv (c1 _) ?_|refine x_callv (c1) ?_|refine x_app nV (a1:=(k)) tb_ok ?_|refine x_bs tb_ok ?_|refine zA ?_|refine zL ?_|refine zc1 ?_|refine zc2 ?_|refine zI ?_)|exact x_le)
   refine ⟨by omega,by omega,?_⟩
   exact (by exact x_len [0,1,2,5])
  ·rw [if_neg h] at hi
   subst hi
   have h:ofP [] true x=false:=by simpa using h
   rw [h] at c1
   repeat' (first|refine zt ?_|(refine isR ?_;first|refine zo ?_|refine x_ldI Cookie.v k tb_ok ?_|refine x_callv (c1 _) ?_|refine x_callv (c1) ?_|refine x_bs tb_ok ?_|refine zA ?_|refine zL ?_|refine zc1 ?_|refine zc2 ?_|refine zI ?_)|exact x_le)
   refine ⟨by omega,by omega,?_⟩
   exact (by exact x_len [0,1,2,3])
 ·obtain rfl:k=M.length:=by omega
  have hlen:(idxs (ofP [] true) M M.length).length=M.countP (ofP [] true):=by rw [idxs_len,List.take_length]
  have hil:(idxs (ofP [] true) M M.length).length≤1000:=by rw [hlen];exact Nat.le_trans List.countP_le_length hM
  have hlt:=idxs_lt (p:=ofP [] true) (M:=M) (k:=M.length)
  rw [minAt_idxs,← hlen] at he
  generalize idxs (ofP [] true) M M.length=I at *
  by_cases g:I.length≤most
  ·rw [if_pos g] at he
   subst he
   repeat' (first|refine zt ?_|(refine isR ?_;first|refine zo ?_|refine x_bs tb_ok ?_|refine zA ?_|refine zL ?_|refine zc1 ?_|refine zc2 ?_|refine zI ?_)|refine x_mret [0,1] ?_ ?_|exact x_le)
   ·rfl
   ·exact .on (.same (nl_map fun _=>rfl)) (.on (.ren rfl) .nil)
  ·rw [if_neg g] at he
   cases I with
   | nil=>simp at g
   | cons i0 r =>
    dsimp only at he
    have c2:=minFunc_m (n:=M.length) (nx:=nx) (now:=now) hil hlt (i0:=i0) rfl rfl
    rw [show (i0::r).drop 1=r from rfl] at c2
    have ha:minL M r i0<M.length:=minL_lt (hlt i0 (by simp)) fun j hj=>hlt j (by simp [hj])
    have c3:=delete_m hM ha
    have hel:(M.eraseIdx (minL M r i0)).length=M.length-1:=List.length_eraseIdx_of_lt ha
    generalize hK:M.eraseIdx (minL M r i0)=K at *
    generalize minL M r i0=a at *
    generalize i0::r=I at *
    repeat' (first|refine zt ?_|(refine isR ?_;first|refine zo ?_|refine x_m [3,0,2,1] [] (c2 _) ?_|refine x_m [3,0,2,1] [] (c2) ?_|refine x_m [0] [] (c3 _) ?_|refine x_m [0] [] (c3) ?_|refine x_bs tb_ok ?_|refine zA ?_|refine zL ?_|refine zc1 ?_|refine zc2 ?_|refine zI ?_)|exact x_le)
    refine ⟨K,⟨by omega,f,by omega,he⟩,by omega,?_⟩
    exact (by exact x_len [0,1,2])
end Go.Proofs.YtlfdjpgghiemfaaGreatDoor.JarO
end
section
namespace Go.Proofs.YtlfdjpgghiemfaaGreatDoor.JarD
open Go.RowKit Mem Abs Scan JarP JarQ JarA JarB JarC
abbrev keyV (c:Cookie):Abs.V:=.agg [strT c.name,strT c.domain,strT c.path]
end Go.Proofs.YtlfdjpgghiemfaaGreatDoor.JarD
end
section
namespace Go.Proofs.YtlfdjpgghiemfaaGreatDoor.JarE
open Go.RowKit Mem Abs Scan JarP JarQ JarA JarB JarC JarD JarR
abbrev noJ:Abs.V:=.agg [.nils,.int .i64 0]
end Go.Proofs.YtlfdjpgghiemfaaGreatDoor.JarE
end
section
namespace Go.Proofs.YtlfdjpgghiemfaaGreatDoor.JarF
open Go.RowKit Mem Abs Scan JarP JarQ JarA JarB JarC JarD JarE JarR
abbrev TJ:Nat:=25
abbrev stT (K:List Cookie) (cc:Cookie) (nx2:Int) (x:List Cookie) (a:Int) (q:Nat) (now:Int):S:=⟨[(2,.int .i64 now),(4,.loc 0 0 0),(6,.loc 1 0 0),(9,.loc 3 0 0),(12,.fro (x.map Cookie.v)),(13,.int .i64 a),(14,nV q)],[(0,some (.els TC 13 [cc.v])),(1,some (.els TJ 2 [noJ])),(3,some (.els TJ 2 [.agg [.fro (K.map Cookie.v),.int .i64 nx2]]))],4,134⟩
abbrev stL (L:List Cookie) (nx now:Int) (b:Bool) (cc:Cookie) (K:List Cookie) (i:Nat):S:=⟨[(2,.int .i64 now),(3,.fp (V.cells (jarV L nx)) 0),(4,.loc 0 0 0),(6,.loc 1 0 0),(9,.loc 3 0 0),(10,.bool b),(11,nV i)],[(0,some (.els TC 13 [cc.v])),(1,some (.els TJ 2 [noJ])),(2,some (.els TC 13 (K.map Cookie.v))),(3,some (.els TJ 2 [.agg [.own 2 0 K.length,.int .i64 nx]]))],4,134⟩
end Go.Proofs.YtlfdjpgghiemfaaGreatDoor.JarF
end
section
namespace Go.Proofs.YtlfdjpgghiemfaaGreatDoor.JarG
open Go.RowKit Mem Abs Scan JarP JarQ JarA JarB JarC JarD JarE JarR JarF
abbrev stG (L:List Cookie) (nx now:Int) (n:Nat) (b:Bool) (cc:Cookie) (K:List Cookie) (i:Nat):S:=⟨[(2,.int .i64 now),(3,.fp (V.cells (jarV L nx)) 0),(4,.loc 0 0 0),(6,.loc 1 0 0),(9,.loc 3 0 0),(10,.bool b),(11,nV i)],[(0,some (.els TC 13 [cc.v])),(1,some (.els TJ 2 [noJ])),(2,some (.els TC 13 (K.map Cookie.v))),(3,some (.els TJ 2 [.agg [.own 2 0 n,.int .i64 nx]]))],4,134⟩
end Go.Proofs.YtlfdjpgghiemfaaGreatDoor.JarG
end
section
namespace Go.Proofs.YtlfdjpgghiemfaaGreatDoor.JarH
open Go.RowKit Mem Abs Scan JarP JarQ JarA JarB JarC JarD JarE JarR JarF JarG
theorem codePut_zero {L:List Cookie} {nx:Int} {c:Cookie} {now:Int} (h:codePut L nx c now=0):checkJ L nx=0∧isJ now=true∧badM c=false∧nx≠1099511627776:=by
 unfold codePut at h
 by_cases h1:checkJ L nx=0
 ·rw [if_neg (by rw [h1];simp)] at h
  by_cases h2:isJ now=false∨badM c=true
  ·rw [if_pos h2] at h;cases h
  ·rw [if_neg h2] at h
   by_cases h3:nx=1099511627776
   ·rw [if_pos h3] at h;cases h
   ·rw [not_or] at h2
    exact ⟨h1,by simpa using h2.1,by simpa using h2.2,h3⟩
 ·rw [if_pos h1] at h;exact absurd h h1
end Go.Proofs.YtlfdjpgghiemfaaGreatDoor.JarH
end
section
namespace Go.Proofs.YtlfdjpgghiemfaaGreatDoor.JarK
open Go.RowKit Mem Abs Scan JarP JarQ JarA JarB JarC JarD JarE JarR
theorem pGetBad2_v {L:List Cookie} {nx:Int} {now:Int} {f:From} {e:Int} (c1:ACalls Tryz.prog 32 [jarV L nx] (.int .i64 0)) (c2:ACalls Tryz.prog 132 [f.v,.int .i64 now] (.int .i64 e)) (he:e≠0):ACalls Tryz.prog 110 [jarV L nx,f.v,.int .i64 now] (.tup [noJ,.nils,.int .i64 e]):=by
 refine fun3 tb_ok Tryz.func110 rfl Tryz.ntmps110 Tryz.results110 rfl fun N=>?_
 repeat' (first|refine zt ?_|(refine isR ?_;first|refine zo ?_|refine zk c1 ?_|refine zk c2 ?_|refine zc5 ?_|refine zc6 ?_)|refine zr ?_|exact x_le)
 all_goals first|rfl|(exfalso;omega)
end Go.Proofs.YtlfdjpgghiemfaaGreatDoor.JarK
end
section
namespace Go.Proofs.YtlfdjpgghiemfaaGreatDoor.JarS
open Go.RowKit Mem Abs Scan JarP JarQ JarA JarB JarC JarE JarL JarM JarO
theorem own_m {L:List Cookie} {nx now:Int} (hb:L.length≤1000):MCalls Tryz.prog 138 [jarV L nx,.int .i64 now] [] (.loc 1 0 0) [some (rC L),some (rO L.length nx now)]:=by
 have c1:=LineA.clone_v (L:=L) (by omega)
 refine mfun tb_ok Tryz.func138 rfl Tryz.ntmps138 Tryz.results138 rfl rfl rfl rfl fun N pl=>?_
 repeat' (first|refine zt ?_|(refine isR ?_;first|refine x_far [13] tb_ok rfl ?_|refine zn ?_|refine x_m [] [0] (c1 _) ?_|refine x_m [] [0] (c1) ?_)|refine x_mret [0,1] ?_ ?_|exact x_le)
 ·rfl
 ·exact .on (.same (nl_map fun _=>rfl)) (.on (.ren rfl) .nil)
theorem jar_fro {L:List Cookie} {n:Nat} {nx e:Int} (h:n=L.length):V.tup [.agg [.fro (List.take n (List.drop 0 (L.map Cookie.v))),.int .i64 nx],.int .i64 e] = .tup [jarV L nx,.int .i64 e]:=by
 rw [List.drop_zero,List.take_of_length_le (by simp [h])]
theorem pPutNew_v {L M E1 E2:List Cookie} {c:Cookie} {nx now:Int} (hb:L.length≤12) (hn:0≤nx) (hn2:nx<1099511627776) (h1:isJ now=true) (h2:badM c=false) (h0:checkJ L nx=0) (hf:(liveF now L).findIdx? (fun x=>sameK x c)=none)
  (hM:liveF now (liveF now L++[{ c with no:=nx }])=M) (hE1:evF 4 (ofP c.domain false) (M.length+1) M=E1) (hE2:evF 12 (ofP [] true) (E1.length+1) E1=E2) (hb1:M.length≤100) (hb2:E1.length≤100) :
  ACalls Tryz.prog 109 [jarV L nx,c.v,.int .i64 now] (.tup [jarV E2 (nx+1),.int .i64 0]):=by
 have c1:=jcheck_v (L:=L) (nx:=nx)
 rw [h0] at c1
 have c2:=is_v (n:=now)
 rw [h1] at c2
 have c3:=moments_v (c:=c)
 rw [h2] at c3
 change ACalls _ _ _ (.bool true) at c3
 have c4:=own_m (L:=L) (nx:=nx) (now:=now) (by omega)
 have c5:=expire_m (L:=L) (nx:=nx) (now:=now) (by omega)
 have hl:(liveF now L).length≤12:=Nat.le_trans (List.length_filter_le _ _) hb
 have c6:=JarN.layNew_m (L:=liveF now L) (c:=c) (nx:=nx) (now:=now) (by omega) hn (by omega) hf
 have hl2:(liveF now L++[{ c with no:=nx }]).length≤1000:=by rw [List.length_append];simp;omega
 have c7:=expire_m (nx:=nx+1) (now:=now) hl2
 rw [hM] at c7
 have c8:=evict1_m (c:=c) (most:=4) (nx:=nx+1) (now:=now) (by omega) hE1
 have c9:=evict2_m (most:=12) (nx:=nx+1) (now:=now) (by omega) hE2
 generalize liveF now L++[{ c with no:=nx }]=K at *
 generalize liveF now L=A at *
 refine fun3 tb_ok Tryz.func109 rfl Tryz.ntmps109 Tryz.results109 rfl fun N=>?_
 repeat' (first|refine zt ?_|(refine isR ?_;first|refine zo ?_|refine zk c1 ?_|refine zk c2 ?_|refine zk c3 ?_|refine x_m [] [1,2] (c4 _) ?_|refine x_m [] [1,2] (c4) ?_|refine x_m [1,2] [] (c5 _) ?_|refine x_m [1,2] [] (c5) ?_|refine x_m [1,2] [3] (c6 _) ?_|refine x_m [1,2] [3] (c6) ?_|refine x_m [3,2] [] (c7 _) ?_|refine x_m [3,2] [] (c7) ?_|refine x_m [3,2] [] (c8 _) ?_|refine x_m [3,2] [] (c8) ?_|refine x_m [3,2] [] (c9 _) ?_|refine x_m [3,2] [] (c9) ?_|refine zc5 ?_|refine zc6 ?_)|refine zr ?_|exact x_le)
 exact jar_fro rfl
theorem pPutSame_v {L M E1 E2:List Cookie} {c d:Cookie} {i:Nat} {nx now:Int} (hb:L.length≤12) (hn:0≤nx) (hn2:nx<1099511627776) (h1:isJ now=true) (h2:badM c=false) (h0:checkJ L nx=0) (hf:(liveF now L).findIdx? (fun x=>sameK x c)=some i) (hx:(liveF now L)[i]? = some d)
  (hM:liveF now ((liveF now L).set i { c with created:=d.created,no:=d.no })=M) (hE1:evF 4 (ofP c.domain false) (M.length+1) M=E1) (hE2:evF 12 (ofP [] true) (E1.length+1) E1=E2) (hb1:M.length≤100) (hb2:E1.length≤100) :
  ACalls Tryz.prog 109 [jarV L nx,c.v,.int .i64 now] (.tup [jarV E2 nx,.int .i64 0]):=by
 have c1:=jcheck_v (L:=L) (nx:=nx)
 rw [h0] at c1
 have c2:=is_v (n:=now)
 rw [h1] at c2
 have c3:=moments_v (c:=c)
 rw [h2] at c3
 change ACalls _ _ _ (.bool true) at c3
 have c4:=own_m (L:=L) (nx:=nx) (now:=now) (by omega)
 have c5:=expire_m (L:=L) (nx:=nx) (now:=now) (by omega)
 have hl:(liveF now L).length≤12:=Nat.le_trans (List.length_filter_le _ _) hb
 have c6:=JarN.laySame_m (L:=liveF now L) (c:=c) (nx:=nx) (now:=now) (by omega) hf hx
 have hset:((liveF now L).set i { c with created:=d.created,no:=d.no }).length=(liveF now L).length:=List.length_set
 have c7:=expire_m (L:=(liveF now L).set i { c with created:=d.created,no:=d.no }) (nx:=nx) (now:=now) (by omega)
 rw [hM,hset] at c7
 have c8:=evict1_m (c:=c) (most:=4) (nx:=nx) (now:=now) (by omega) hE1
 have c9:=evict2_m (most:=12) (nx:=nx) (now:=now) (by omega) hE2
 have hne:nx≠1099511627776:=by omega
 generalize (liveF now L).set i { c with created:=d.created,no:=d.no }=K at *
 generalize liveF now L=A at *
 refine fun3 tb_ok Tryz.func109 rfl Tryz.ntmps109 Tryz.results109 rfl fun N=>?_
 repeat' (first|refine zt ?_|(refine isR ?_;first|refine zo ?_|refine zk c1 ?_|refine zk c2 ?_|refine zk c3 ?_|refine x_m [] [1,2] (c4 _) ?_|refine x_m [] [1,2] (c4) ?_|refine x_m [1,2] [] (c5 _) ?_ (hst:=.cons (.same (nl_map fun _=>rfl)) (.cons (.ren rfl) .nil))|refine x_m [1,2] [] (c6 _) ?_|refine x_m [1,2] [] (c6) ?_|refine x_m [1,2] [] (c7 _) ?_ (hst:=.cons (.same (nl_map fun _=>rfl)) (.cons (.ren rfl) .nil))|refine x_m [1,2] [] (c8 _) ?_|refine x_m [1,2] [] (c8) ?_|refine x_m [1,2] [] (c9 _) ?_|refine x_m [1,2] [] (c9) ?_|refine zc5 ?_|refine zc6 ?_)|refine zr ?_|exact x_le)
 exact jar_fro rfl
theorem pPut_v {L:List Cookie} {nx:Int} {c:Cookie} {now:Int} (h:codePut L nx c now=0):ACalls Tryz.prog 109 [jarV L nx,c.v,.int .i64 now] (.tup [jarV (putF L nx c now).1 (putF L nx c now).2,.int .i64 0]):=by
 obtain ⟨h1,h2,h3,h4⟩:=JarH.codePut_zero h
 have hr:Rj L nx:=check_zero.1 h1
 have hn:=hr.nx
 have hlen:=hr.len
 have ev:∀ most p f (M:List Cookie),(evF most p f M).length≤M.length:=fun most p f=>by
  induction f with
  | zero=>intro M;exact Nat.le_refl _
  | succ f ih =>
   intro M
   rw [evF]
   split
   ·exact Nat.le_refl _
   ·split
    ·exact Nat.le_refl _
    ·exact Nat.le_trans (ih _) (List.length_eraseIdx_le _ _)
 have hll:∀ M:List Cookie,(liveF now M).length≤M.length:=fun M=>List.length_filter_le _ _
 have hl1:=hll L
 cases hf:(liveF now L).findIdx? (fun x=>sameK x c) with
 | none =>
  have e:layF (liveF now L) nx c=(liveF now L++[{ c with no:=nx }],nx+1):=by unfold layF;rw [hf]
  have e1:putF L nx c now=(evF 12 (ofP [] true) ((evF 4 (ofP c.domain false) ((liveF now (liveF now L++[{ c with no:=nx }])).length+1) (liveF now (liveF now L++[{ c with no:=nx }]))).length+1) (evF 4 (ofP c.domain false) ((liveF now (liveF now L++[{ c with no:=nx }])).length+1) (liveF now (liveF now L++[{ c with no:=nx }]))),nx+1):=by
   unfold putF
   rw [e]
   rfl
  rw [e1]
  have hb1:(liveF now (liveF now L++[{ c with no:=nx }])).length≤100:=by
   refine Nat.le_trans (hll _) ?_
   rw [List.length_append]
   simp
   omega
  exact pPutNew_v hlen hn.1 (by omega) h2 h3 h1 hf rfl rfl rfl hb1 (Nat.le_trans (ev _ _ _ _) hb1)
 | some i0 =>
  obtain ⟨hi,_,_⟩:=List.findIdx?_eq_some_iff_getElem.1 hf
  have hx:(liveF now L)[i0]? = some (liveF now L)[i0]:=by simp [hi]
  have hg:(liveF now L).getD i0 c=(liveF now L)[i0]:=by rw [List.getD_eq_getElem?_getD,hx];rfl
  have e:layF (liveF now L) nx c=((liveF now L).set i0 { c with created:=((liveF now L)[i0]).created,no:=((liveF now L)[i0]).no },nx):=by
   unfold layF
   rw [hf]
   dsimp only
   rw [hg]
  have e1:putF L nx c now=(evF 12 (ofP [] true) ((evF 4 (ofP c.domain false) ((liveF now (layF (liveF now L) nx c).1).length+1) (liveF now (layF (liveF now L) nx c).1)).length+1) (evF 4 (ofP c.domain false) ((liveF now (layF (liveF now L) nx c).1).length+1) (liveF now (layF (liveF now L) nx c).1)),(layF (liveF now L) nx c).2):=rfl
  rw [e1,e]
  have hb1:(liveF now ((liveF now L).set i0 { c with created:=((liveF now L)[i0]).created,no:=((liveF now L)[i0]).no })).length≤100:=by
   refine Nat.le_trans (hll _) ?_
   rw [List.length_set]
   omega
  exact pPutSame_v hlen hn.1 (by omega) h2 h3 h1 hf hx rfl rfl rfl hb1 (Nat.le_trans (ev _ _ _ _) hb1)
end Go.Proofs.YtlfdjpgghiemfaaGreatDoor.JarS
end
section
namespace Go.Proofs.YtlfdjpgghiemfaaGreatDoor.JarI
open Go.RowKit Mem Abs Scan JarP JarQ JarA JarB JarC JarD JarE JarR JarF
def useF (g:Cookie→Bool) (now:Int) (c:Cookie):Cookie:=if g c=true then { c with used:=now } else c
abbrev stI (L:List Cookie) (nx now:Int) (f:From) (A B:List Cookie) (i:Nat):S:=⟨[(2,.int .i64 now),(3,.fp (V.cells (jarV L nx)) 0),(4,.fp f.v.cells 0),(6,.loc 0 0 0),(10,.loc 1 0 0),(11,.own 3 0 B.length),(12,nV i)],[(0,some (.els TJ 2 [noJ])),(1,some (.els TJ 2 [.agg [.own 2 0 A.length,.int .i64 nx]])),(2,some (.els TC 13 (A.map Cookie.v))),(3,some (.els TC 13 (B.map Cookie.v)))],4,59⟩
end Go.Proofs.YtlfdjpgghiemfaaGreatDoor.JarI
end
section
namespace Go.Proofs.YtlfdjpgghiemfaaGreatDoor.JarT
open Go.RowKit Mem Abs Scan JarP JarQ JarA JarB JarC JarE JarF JarI JarL JarM JarO JarS
abbrev stT (L:List Cookie) (nx now:Int) (f:From) (A B:List Cookie) (i:Nat):S:=⟨[(2,.int .i64 now),(4,.fp f.v.cells 0),(6,.loc 0 0 0),(10,.loc 2 0 0),(11,.own 3 0 B.length),(33,nV L.length),(34,nV i)],[(0,some (.els TJ 2 [noJ])),(1,some (rC A)),(2,some (rOn 1 L.length nx now)),(3,some (rC B))],4,67⟩
theorem pGet_v {Γ:Glob} {L:List Cookie} {nx:Int} {now:Int} {f:From} {g:Cookie→Bool} {G:List Cookie} (c1:ACalls Tryz.prog 32 [jarV L nx] (.int .i64 0)) (c2:ACalls Tryz.prog 132 [f.v,.int .i64 now] (.int .i64 0)) (c3:∀ c∈L,ACallsG Tryz.prog Γ 144 [c.v,f.v,.int .i64 now] (.bool (g c))) (hL:L.length≤12)
  (c4:ACalls Tryz.prog 145 [.fro (((L.filter g).map fun c=>{ c with used:=now }).map Cookie.v)] (.fro (G.map Cookie.v))) :
  ACallsG Tryz.prog Γ 110 [jarV L nx,f.v,.int .i64 now] (.tup [jarV (L.map (useF g now)) nx,.fro (G.map Cookie.v),.int .i64 0]):=by
 have hml:(L.map Cookie.v).length=L.length:=List.length_map _
 have c5:=own_m (L:=L) (nx:=nx) (now:=now) (by omega)
 refine funG3 tb_ok Tryz.func110 rfl Tryz.ntmps110 Tryz.results110 rfl fun N=>?_
 repeat' (first|refine zt ?_|(refine isR ?_;first|refine zo ?_|refine zk c1 ?_|refine zk c2 ?_|refine x_m [] [1,2] (c5 _) ?_|refine x_m [] [1,2] (c5) ?_|refine x_bs tb_ok ?_|refine zA ?_|refine zL ?_|refine zc1 ?_|refine zc5 ?_|refine zc6 ?_|refine zI ?_)|refine zr ?_|exact x_le)
 refine awp_name (t:=11) TC 13 (by decide) rfl rfl ?_
 refine awp_forN (fun i=>stT L nx now f ((L.take i).map (useF g now)++L.drop i) (((L.take i).filter g).map fun c=>{ c with used:=now }) i) (fun i=>i≤L.length) L.length 0 (by exact x_le) (Nat.zero_le _) ?_
 intro i hi
 by_cases hi2:i<L.length
 ·have hx:L[i]? = some L[i]:=by simp [hi2]
  have hlt:((L.take i).map (useF g now)).length=i:=by rw [List.length_map,List.length_take];omega
  have hA:((L.take i).map (useF g now)++L.drop i).length=L.length:=by rw [List.length_append,hlt,List.length_drop];omega
  have hAx:((L.take i).map (useF g now)++L.drop i)[i]? = some L[i]:=by
   rw [List.getElem?_append_right (by omega),hlt,Nat.sub_self,List.getElem?_drop]
   exact hx
  have hdc:L.drop i=L[i]::L.drop (i+1):=List.drop_eq_getElem_cons hi2
  have e1:∀ d,((L.take i).map (useF g now)++L.drop i).set i d=(L.take i).map (useF g now)++d::L.drop (i+1):=fun d=>by
   rw [List.set_append_right _ _ (by omega),hlt,Nat.sub_self,hdc];rfl
  have e3:(L.take (i+1)).map (useF g now)++L.drop (i+1)=(L.take i).map (useF g now)++useF g now L[i]::L.drop (i+1):=by rw [List.take_add_one,hx,List.map_append,List.append_assoc];rfl
  have e2:((L.take (i+1)).filter g).map (fun c=>{ c with used:=now })=((L.take i).filter g).map (fun c=>{ c with used:=now })++if g L[i]=true then [{ L[i] with used:=now }] else []:=by
   rw [List.take_add_one,hx,List.filter_append,List.map_append]
   congr 1
   by_cases h:g L[i]=true<;>simp [h]
  have hB:(((L.take i).filter g).map fun c=>{ c with used:=now }).length≤100:=by rw [List.length_map];exact Nat.le_trans (List.length_filter_le _ _) (by simp;omega)
  have cg:=c3 L[i] (List.getElem_mem hi2)
  have e4:=e1 { L[i] with used:=now }
  have e5:(L.take i).map (useF g now)++L[i]::L.drop (i+1)=(L.take i).map (useF g now)++L.drop i:=by rw [hdc]
  generalize L[i]=c at *
  generalize (L.take (i+1)).map (useF g now)++L.drop (i+1)=A1 at *
  generalize ((L.take (i+1)).filter g).map (fun c=>{ c with used:=now })=B1 at *
  generalize hAA:(L.take i).map (useF g now)++L.drop i=A at *
  generalize ((L.take i).filter g).map (fun c=>{ c with used:=now })=B at *
  subst e2
  have hAm:(A.map Cookie.v).length=A.length:=List.length_map _
  by_cases h:g c=true
  ·rw [h] at cg
   rw [show useF g now c = { c with used:=now } from if_pos h] at e3
   rw [if_pos h]
   have hAx2:(A.set i { c with used:=now })[i]? = some { c with used:=now }:=by rw [List.getElem?_set,if_pos rfl,if_pos (by omega)]
   rw [← e4] at e3
   subst e3
   repeat' (first|(refine isR ?_;first|refine r_val rfl rfl rfl (law_move rfl) (hT rfl Abs.h0) ?_|refine r_val rfl rfl rfl (law_nilCheck rfl rfl) (hT rfl Abs.h0) ?_|refine r_val rfl rfl rfl (law_fieldAddr tb_ok rfl rfl rfl rfl rfl) (hT rfl Abs.h0) ?_|refine x_ldI Cookie.v i tb_ok ?_)|refine zt ?_|(refine isR ?_;first|refine zo ?_|refine zk cg ?_|refine x_stO Cookie.v (a1:={ c with used:=now }) i tb_ok ?_|refine x_app Cookie.v (a1:=({ c with used:=now })) tb_ok ?_|refine x_bs tb_ok ?_|refine zA ?_|refine zL ?_|refine zc1 ?_|refine zc5 ?_|refine zc6 ?_|refine zI ?_)|refine zr ?_|exact x_le)
   refine ⟨by omega,hi2,?_⟩
   exact (by exact x_len [0,1,2,4])
  ·have h:g c=false:=by simpa using h
   rw [h] at cg
   rw [show useF g now c=c from if_neg (by rw [h];simp),e5] at e3
   rw [if_neg (by rw [h];simp),List.append_nil]
   subst e3
   repeat' (first|(refine isR ?_;first|refine r_val rfl rfl rfl (law_move rfl) (hT rfl Abs.h0) ?_|refine r_val rfl rfl rfl (law_nilCheck rfl rfl) (hT rfl Abs.h0) ?_|refine r_val rfl rfl rfl (law_fieldAddr tb_ok rfl rfl rfl rfl rfl) (hT rfl Abs.h0) ?_|refine x_ldI Cookie.v i tb_ok ?_)|refine zt ?_|(refine isR ?_;first|refine zo ?_|refine zk cg ?_|refine x_bs tb_ok ?_|refine zA ?_|refine zL ?_|refine zc1 ?_|refine zc5 ?_|refine zc6 ?_|refine zI ?_)|refine zr ?_|exact x_le)
   refine ⟨by omega,hi2,?_⟩
   exact (by exact x_len [0,1,2,3])
 ·obtain rfl:i=L.length:=by omega
  rw [List.take_length,List.drop_length,List.append_nil]
  have hlm:L.length=(L.map (useF g now)).length:=by simp
  repeat' (first|refine awp_freezeR 2 0 1 hlm (fun _=>rfl) ?_|refine awp_freeze 3 11 rfl (fun _=>rfl) ?_|refine zt ?_|(refine isR ?_;first|refine zo ?_|refine zk c4 ?_|refine x_bs tb_ok ?_|refine zA ?_|refine zL ?_|refine zc1 ?_|refine zc5 ?_|refine zc6 ?_|refine zI ?_)|refine zr ?_|exact x_le)
  all_goals rfl
end Go.Proofs.YtlfdjpgghiemfaaGreatDoor.JarT
end
section
namespace Go.Proofs.YtlfdjpgghiemfaaGreatDoor.JarJ
open Go.RowKit Mem Abs Scan JarP JarQ JarA JarB JarC JarD JarE JarR JarF JarI
end Go.Proofs.YtlfdjpgghiemfaaGreatDoor.JarJ
end
section
namespace Go.Proofs.YtlfdjpgghiemfaaGreatDoor.JarU
open Go.RowKit Mem Abs Scan JarP JarQ JarA JarB JarC JarE JarL JarJ JarK JarS JarT JarH Rdy Globs GoesW
abbrev cI:Cookie:=⟨([105,100]:List UInt8),([55]:List UInt8),([115,104,111,112,46,99,111,109]:List UInt8),([47,99,97,114,116]:List UInt8),false,true,false,true,0,1060,1000,1000,0⟩
abbrev c8:Cookie:=⟨([105,100]:List UInt8),([56]:List UInt8),([115,104,111,112,46,99,111,109]:List UInt8),([47,99,97,114,116]:List UInt8),false,true,false,true,0,1060,1005,1005,0⟩
abbrev c9:Cookie:=⟨([105,100]:List UInt8),([56]:List UInt8),([115,104,111,112,46,99,111,109]:List UInt8),([47,99,97,114,116]:List UInt8),false,true,false,true,0,1060,1000,1005,0⟩
abbrev cU:Cookie:=⟨([105,100]:List UInt8),([56]:List UInt8),([115,104,111,112,46,99,111,109]:List UInt8),([47,99,97,114,116]:List UInt8),false,true,false,true,0,1060,1000,1010,0⟩
abbrev fS:From:=⟨([119,119,119,46,115,104,111,112,46,99,111,109]:List UInt8),([47,99,97,114,116,47,97,100,100]:List UInt8),true,false,false⟩
theorem g1:goesF c9 fS 1010=true:=by decide +kernel
theorem g2:readyF fS 1010=0:=by decide +kernel
end Go.Proofs.YtlfdjpgghiemfaaGreatDoor.JarU
end
section
namespace Go.Proofs.YtlfdjpgghiemfaaGreatDoor.RjP
open Go.RowKit Mem Abs Scan JarP JarQ JarA JarB JarC JarE JarF JarI JarJ JarK JarH JarL JarM JarO JarS JarT JarU Globs GoesW Rdy SortP SortW LineA
theorem ready_host {f:From} {now:Int} (h:readyF f now=0):f.host.length≤4398046511104:=by
 unfold readyF at h
 split at h
 ·rename_i q
  have e:=q.1
  unfold hostOk at e
  have e:=of_decide_eq_true e
  unfold HostP.canonF at e
  split at e
  ·exact absurd (congrArg Prod.snd e) (by simp)
  ·omega
 ·cases h
abbrev ownJ (k n:Nat) (nx:Int):Abs.V:=.agg [.own k 0 n,.int .i64 nx]
theorem ev_len:∀ (most:Nat) (p:Cookie→Bool) (f:Nat) (M:List Cookie),(evF most p f M).length≤M.length
 | _,_,0,M=>Nat.le_refl _
 | most,p,f+1,M=>by
  rw [evF]
  split
  ·exact Nat.le_refl _
  ·split
   ·exact Nat.le_refl _
   ·exact Nat.le_trans (ev_len most p f _) (List.length_eraseIdx_le _ _)
end Go.Proofs.YtlfdjpgghiemfaaGreatDoor.RjP
end
