/- Texts of the proof, joined: JarO, JarD, JarE, JarF, JarG, JarH, JarK, JarS, JarI. -/
import Derived.Test.YtlfdjpgghiemfaaGreatDoorH30
import Derived.Test.YtlfdjpgghiemfaaGreatDoorH25
set_option maxHeartbeats 4000000
set_option maxRecDepth 100000
namespace Go.Proofs.YtlfdjpgghiemfaaGreatDoor
namespace XG
open Go.RowKit Mem Abs Scan fI gF iG iP iQ nu oZ nR
variable {most:Nat} {x:ai} {n:Nat} {now:Int} {i:Nat} {nx:Int} {L:List ai} {l:List Nat} {E M:List ai} {c:ai}
abbrev rOn (k n:Nat) (nx now:Int):Blk:=.els TO 3 [.agg [.own k 0 n,.int .i64 nx,.int .i64 now]]
abbrev TI:Nat:=3
abbrev rI (l:List Nat):Blk:=.els TI 1 (l.map nV)
def orU (a b:Int):Int:=if a≠0 then a else b
theorem ads {a b:Int}:aj Tryz.prog 186 [.fro [.int .i64 a,.int .i64 b]] (.int .i64 (orU a b)):=by
 have hz:[V.int .i64 a,V.int .i64 b].length=2:=rfl
 unfold orU
 by_cases h:a=0
 ·rw [if_neg (by simp [h])]
  by_cases h2:b=0
  ·refine aU af Tryz.func186 rfl Tryz.ntmps186 Tryz.results186 rfl fun N=>?_
   repeat' (first|with_reducible refine aP ?_|with_reducible refine aO 3 ?_|refine zt ?_|(refine isR ?_;first|refine zo ?_|refine zX ?_)|refine zr ?_|exact ah)
   all_goals first|(subst h2;rfl)|(exfalso;omega)
  ·refine aU af Tryz.func186 rfl Tryz.ntmps186 Tryz.results186 rfl fun N=>?_
   repeat' (first|with_reducible refine aP ?_|with_reducible refine aO 3 ?_|refine zt ?_|(refine isR ?_;first|refine zo ?_|refine zX ?_)|refine zr ?_|exact ah)
   all_goals first|rfl|(exfalso;omega)
 ·rw [if_pos h]
  refine aU af Tryz.func186 rfl Tryz.ntmps186 Tryz.results186 rfl fun N=>?_
  repeat' (first|with_reducible refine aP ?_|with_reducible refine aO 3 ?_|refine zt ?_|(refine isR ?_;first|refine zo ?_|refine zX ?_)|refine zr ?_|exact ah)
  all_goals first|rfl|(exfalso;omega)
def VH (a b:ai):Int:=orU (y8 a.used b.used) (y8 a.no b.no)
theorem ZY (a b:ai):VH a b<0↔l7 a b=true:=by
 unfold VH orU y8 l7
 by_cases h1:a.used<b.used
 ·simp [h1]
 ·by_cases h2:b.used<a.used
  ·have:¬ a.used=b.used:=by omega
   simp [h1,h2,this]
  ·have:a.used=b.used:=by omega
   by_cases h3:a.no<b.no
   ·simp [this,h3]
   ·by_cases h4:b.no<a.no<;>simp [this,h3,h4]
abbrev rBn (k:Nat):Blk:=.els TP 1 [.loc k 0 0]
abbrev fnE (k:Nat):Abs.V:=.fn (.func 185) [] [.loc k 0 0]
theorem aaQ {k:Nat} {a b:ai} (hi:M[i]? = some a) (hk:M[k]? = some b) (hn:n=M.length):aK Tryz.prog 185 [nV i,nV k,.loc 1 0 0] [rC M,rB,rO n nx now] (.int .i64 (VH a b)) [some (rC M),some rB,some (rO n nx now)]:=by
 have c1:=oI (a:=a.used) (b:=b.used)
 have c2:=oI (a:=a.no) (b:=b.no)
 have c3:=ads (a:=y8 a.used b.used) (b:=y8 a.no b.no)
 have hi2:=(List.getElem?_eq_some_iff.1 hi).1
 have hk2:=(List.getElem?_eq_some_iff.1 hk).1
 have hma:=bT (f:=ai.v) hi
 have hmb:=bT (f:=ai.v) hk
 unfold VH
 refine bP af Tryz.func185 rfl Tryz.ntmps185 Tryz.results185 rfl rfl rfl rfl fun N pl=>?_
 repeat' (first|refine zt ?_|(refine isR ?_;first|refine zo ?_|refine cZ ai.v i af ?_|refine cZ ai.v k af ?_|refine zk c1 ?_|refine zk c2 ?_|refine zk c3 ?_|refine zX ?_)|refine aA [0,1,2] ?_ ?_|exact ah)
 ·rfl
 ·exact .on (.same (aT fun _=>rfl)) (.on (.ren rfl) (.on (.ren rfl) .nil))
def jJ (M:List ai) (l:List Nat) (m:Nat):Nat:=l.foldl (fun m i=>match M[i]?,M[m]? with
 | some a,some b=>if l7 a b=true then i else m
 | _,_=>m) m
theorem wK {M:List ai}:∀ {l:List Nat} {m:Nat},m<M.length→(∀ i∈l,i<M.length)→jJ M l m<M.length
 | [],_,h,_=>h
 | i::l,m,h,hl=>by
  unfold jJ
  rw [List.foldl_cons]
  refine wK (l:=l) ?_ fun j hj=>hl j (by simp [hj])
  have hi:=hl i (by simp)
  split
  ·split<;>assumption
  ·exact h
theorem FQ {m:Nat}:jJ M (l++[i]) m=match M[i]?,M[jJ M l m]? with
 | some a,some b=>if l7 a b=true then i else jJ M l m
 | _,_=>jJ M l m:=by
 unfold jJ
 rw [List.foldl_append]
 rfl
theorem FL {i0:Nat} (hl:l.length≤1000) (hin:∀ i∈l,i<M.length) (h0:l[0]? = some i0) (hn:n=M.length):
  aK Tryz.prog 184 [.own 0 0 l.length,fnE 2] [rI l,rC M,rBn 3,rOn 1 n nx now] (nV (jJ M (l.drop 1) i0)) [some (rI l),some (rC M),some (rBn 3),some (rOn 1 n nx now)]:=by
 have hml:(M.map ai.v).length=M.length:=List.length_map _
 have hil:(l.map nV).length=l.length:=List.length_map _
 have hl0:=(List.getElem?_eq_some_iff.1 h0).1
 have hm0:=bT (f:=nV) h0
 generalize hR:jJ M (l.drop 1) i0=R
 refine bP af Tryz.func184 rfl Tryz.ntmps184 Tryz.results184 rfl rfl rfl rfl fun N pl=>?_
 repeat' (first|refine zt ?_|(refine isR ?_;first|refine zo ?_|refine cZ nV 0 af ?_|refine zX ?_)|exact ah)
 refine fq (fun k=>⟨[(0,.own 0 0 l.length),(1,fnE 2),(5,nV (jJ M ((l.take (k+1)).drop 1) i0)),(6,nV (k+1))],[(0,some (rI l)),(1,some (rC M)),(2,some (rBn 3)),(3,some (rOn 1 n nx now))],4,33⟩) (fun k=>k+1≤l.length) l.length 0 ?_ (by omega) ?_
 ·rw [show (l.take (0+1)).drop 1=[] by simp]
  exact (by exact ah)
 intro k hk
 by_cases hk2:k+1<l.length
 ·have hx:l[k+1]? = some l[k+1]:=by simp [hk2]
  have hi1:=hin l[k+1] (List.getElem_mem _)
  have hs:(l.take (k+1+1)).drop 1=(l.take (k+1)).drop 1++[l[k+1]]:=by
   rw [List.take_add_one,hx,List.drop_append_of_le_length (by rw [List.length_take];omega)];rfl
  have hm1:jJ M ((l.take (k+1)).drop 1) i0<M.length:=wK (hin i0 (List.mem_of_getElem? h0)) fun i hi=>hin i (List.mem_of_mem_take (List.mem_of_mem_drop hi))
  have hsn:=FQ (M:=M) (l:=(l.take (k+1)).drop 1) (m:=i0) (i:=l[k+1])
  rw [← hs] at hsn
  generalize l[k+1]=i at *
  have ha:M[i]? = some M[i]:=by simp [hi1]
  generalize jJ M ((l.take (k+1)).drop 1) i0=m at *
  generalize hm2:jJ M ((l.take (k+1+1)).drop 1) i0=m2 at *
  have hb:M[m]? = some M[m]:=by simp [hm1]
  have c1:=aaQ (n:=n) (nx:=nx) (now:=now) ha hb hn
  have hlt:=ZY M[i] M[m]
  rw [ha,hb] at hsn
  dsimp only at hsn
  generalize VH M[i] M[m]=q at *
  have hmi:=bT (f:=nV) hx
  by_cases g:q<0
  ·rw [if_pos (hlt.1 g)] at hsn
   subst hsn
   repeat' (first|refine zt ?_|(refine isR ?_;first|refine zo ?_|refine cZ nV (k+1) af ?_|refine eZ [1,2,3] [] (c1 _) ?_|refine eZ [1,2,3] [] (c1) ?_|refine zX ?_)|exact ah)
   refine ⟨by omega,by omega,?_⟩
   exact (by exact x_len [0,1,2,3])
  ·rw [if_neg fun h=>g (hlt.2 h)] at hsn
   subst hsn
   repeat' (first|refine zt ?_|(refine isR ?_;first|refine zo ?_|refine cZ nV (k+1) af ?_|refine eZ [1,2,3] [] (c1 _) ?_|refine eZ [1,2,3] [] (c1) ?_|refine zX ?_)|exact ah)
   refine ⟨by omega,by omega,?_⟩
   exact (by exact x_len [0,1,2,3])
 ·obtain rfl:R=jJ M ((l.take (k+1)).drop 1) i0:=by rw [List.take_of_length_le (by omega),hR]
  generalize jJ M ((l.take (k+1)).drop 1) i0=m at *
  repeat' (first|refine zt ?_|(refine isR ?_;first|refine zo ?_|refine zX ?_)|refine aA [0,1,2,3] ?_ ?_|exact ah)
  ·rfl
  ·exact .on (.same (aT fun _=>rfl)) (.on (.same (aT fun _=>rfl)) (.on (.ren rfl) (.on (.ren rfl) .nil)))
theorem Kv {a:Nat} (hM:M.length≤1000) (ha:a<M.length):aK Tryz.prog 188 [.own 0 0 M.length,nV a,nV (a+1)] [rC M] (.own 0 0 (M.eraseIdx a).length) [some (rC (M.eraseIdx a))]:=by
 have hml:(M.map ai.v).length=M.length:=List.length_map _
 have he:M.eraseIdx a=M.take a++M.drop (a+1):=List.eraseIdx_eq_take_drop_succ M a
 have hel:(M.eraseIdx a).length=M.length-1:=List.length_eraseIdx_of_lt ha
 by_cases h:a+1<M.length
 ·have hq:a+(M.length-(a+1))=(M.eraseIdx a).length:=by rw [hel];omega
  have hz:M.take a++((M.drop (0+(a+1))).take (M.length-(a+1))++M.drop (a+(M.length-(a+1))))=M.eraseIdx a++M.drop (M.length-1):=by
   have h5:(M.drop (a+1)).take (M.length-(a+1))=M.drop (a+1):=List.take_of_length_le (by rw [List.length_drop];omega)
   rw [he,Nat.zero_add,h5,show a+(M.length-(a+1))=M.length-1 by omega,List.append_assoc]
  have hzl:(M.eraseIdx a++M.drop (M.length-1)).length=M.length:=by rw [List.length_append,hel,List.length_drop];omega
  have hcut:(M.eraseIdx a++M.drop (M.length-1)).take (0+(a+(M.length-(a+1))))=M.eraseIdx a:=by rw [Nat.zero_add,hq];exact List.take_left' rfl
  rw [← hq]
  generalize M.eraseIdx a=E at *
  generalize hZ:E++M.drop (M.length-1)=Z at *
  refine bP af Tryz.func188 rfl Tryz.ntmps188 Tryz.results188 rfl rfl rfl rfl fun N pl=>?_
  repeat' (first|refine zt ?_|(refine isR ?_;first|refine zo ?_|refine Z8 af ?_|refine OG af ?_|refine Wh af ?_|refine Yq ai.v Z af ?_|refine Wj af ?_|refine GH ai.v E af ?_|refine zX ?_)|refine aA [0] ?_ ?_|exact ah)
  all_goals first|rfl|exact .on (.same (aT fun _=>rfl)) .nil
 ·have ha1:a+1=M.length:=by omega
  have hcut:M.take (0+a)=M.eraseIdx a:=by rw [he,Nat.zero_add,List.drop_of_length_le (by omega),List.append_nil]
  have hq:a=(M.eraseIdx a).length:=by rw [hel];omega
  rw [← hq]
  generalize M.eraseIdx a=E at *
  refine bP af Tryz.func188 rfl Tryz.ntmps188 Tryz.results188 rfl rfl rfl rfl fun N pl=>?_
  repeat' (first|refine zt ?_|(refine isR ?_;first|refine zo ?_|refine Z8 af ?_|refine OG af ?_|refine abd af ?_|refine Y1 af ?_|refine Wj af ?_|refine GH ai.v E af ?_|refine zX ?_)|refine aA [0] ?_ ?_|exact ah)
  all_goals first|rfl|exact .on (.same (aT fun _=>rfl)) .nil
def idxs (p:ai→Bool) (M:List ai):Nat→List Nat
 | 0=>[]
 | k+1=>match M[k]? with
  | none=>idxs p M k
  | some c=>if p c=true then idxs p M k++[k] else idxs p M k
theorem mV {p:ai→Bool} {M:List ai}:∀ {k:Nat},(idxs p M k).length=(M.take k).countP p
 | 0=>rfl
 | k+1=>by
  rw [idxs,List.take_add_one]
  cases hc:M[k]? with
  | none=>simpa using mV (k:=k)
  | some c =>
   dsimp only
   rw [List.countP_append]
   by_cases h:p c=true
   ·rw [if_pos h,List.length_append,mV];simp [h]
   ·rw [if_neg h,mV];simp [h]
theorem uL {p:ai→Bool} {M:List ai}:∀ {k:Nat},∀ i∈idxs p M k,i<M.length
 | 0,i,h=>by simp [idxs] at h
 | k+1,i,h=>by
  rw [idxs] at h
  cases hc:M[k]? with
  | none=>rw [hc] at h;exact uL i h
  | some c =>
   rw [hc] at h
   dsimp only at h
   have hk:=(List.getElem?_eq_some_iff.1 hc).1
   split at h
   ·rcases List.mem_append.1 h with h|h
    ·exact uL i h
    ·rw [List.mem_singleton] at h;omega
   ·exact uL i h
theorem nk {p:ai→Bool} {M:List ai}:∀ {k:Nat},l5 p M k=match idxs p M k with
  | []=>none
  | i::r=>some (jJ M r i)
 | 0=>rfl
 | k+1=>by
  rw [l5,idxs]
  cases hc:M[k]? with
  | none=>exact nk
  | some c =>
   dsimp only
   by_cases h:p c=true
   ·rw [if_pos h,if_pos h,nk (k:=k)]
    have hlt:=uL (p:=p) (M:=M) (k:=k)
    generalize idxs p M k=l at *
    cases l with
    | nil=>rfl
    | cons i r =>
     show _=some (jJ M (r++[k]) i)
     have hm:jJ M r i<M.length:=wK (hlt i (by simp)) fun j hj=>hlt j (by simp [hj])
     have hg:M[jJ M r i]? = some M[jJ M r i]:=by simp [hm]
     rw [FQ,hc,hg]
     dsimp only
     rw [List.getD_eq_getElem?_getD,hg,Option.getD_some]
     split<;>rfl
   ·rw [if_neg h,if_neg h]
    exact nk
abbrev fnP (c:ai):Abs.V:=.fn (.func 142) [] [.fp c.v.cells 0]
abbrev fnA:Abs.V:=.fn (.func 143) [] []
theorem aa2:aj Tryz.prog 142 [x.v,.fp c.v.cells 0] (.bool (ofP c.domain false x)):=by
 unfold ofP
 by_cases h:x.domain=c.domain
 ·rw [decide_eq_true h]
  refine aW af Tryz.func142 rfl Tryz.ntmps142 Tryz.results142 rfl fun N=>?_
  repeat' (first|refine zt ?_|(refine isR ?_;first|refine zo ?_|refine zc5 ?_)|refine zr ?_|exact ah)
  all_goals rfl
 ·rw [decide_eq_false h]
  refine aW af Tryz.func142 rfl Tryz.ntmps142 Tryz.results142 rfl fun N=>?_
  repeat' (first|refine zt ?_|(refine isR ?_;first|refine zo ?_|refine zc5 ?_)|refine zr ?_|exact ah)
  all_goals rfl
theorem aaG:aj Tryz.prog 143 [x.v] (.bool (ofP [] true x)):=by
 refine aU af Tryz.func143 rfl Tryz.ntmps143 Tryz.results143 rfl fun N=>?_
 repeat' (first|refine zt ?_|(refine isR ?_;refine zo ?_)|refine zr ?_|exact ah)
 all_goals rfl
theorem JN (hb:L.length≤1000) (hE:evF most (ofP c.domain false) (L.length+1) L=E):aK Tryz.prog 141 [.loc 1 0 0,nV most,fnP c] [rC L,rO L.length nx now] (.tup []) [some (rC E),some (rO E.length nx now)]:=by
 refine bP af Tryz.func141 rfl Tryz.ntmps141 Tryz.results141 rfl rfl rfl rfl fun N pl=>?_
 repeat' (first|refine zt ?_|(refine isR ?_;first|refine dQ [3] af rfl ?_|refine zn ?_|refine zX ?_)|exact ah)
 refine pO (α:=List ai) (fun M=>⟨[(0,.loc 1 0 0),(1,nV most),(2,fnP c),(3,.loc 2 0 0)],[(0,some (rC M)),(1,some (rO M.length nx now)),(2,some (rBn 1))],3,49⟩) (fun M=>M.length≤1000∧∃ f,M.length<f∧evF most (ofP c.domain false) f M=E) (fun M=>M.length) L (by exact ah) ⟨hb,L.length+1,Nat.lt_succ_self _,hE⟩ ?_
 rintro M ⟨hM,f,hf,he⟩
 have hml:(M.map ai.v).length=M.length:=List.length_map _
 obtain ⟨f,rfl⟩:∃ q,f=q+1:=⟨f-1,by omega⟩
 rw [evF] at he
 repeat' (first|refine zt ?_|(refine isR ?_;first|refine zo ?_|refine zX ?_)|exact ah)
 refine kP (t:=6) TI 1 (by decide) rfl rfl ?_
 refine fq (fun k=>⟨[(0,.loc 1 0 0),(1,nV most),(2,fnP c),(3,.loc 2 0 0),(6,.own 3 0 (idxs (ofP c.domain false) M k).length),(14,.own 0 0 M.length),(15,nV M.length),(16,nV k)],[(0,some (rC M)),(1,some (rO M.length nx now)),(2,some (rBn 1)),(3,some (rI (idxs (ofP c.domain false) M k)))],4,49⟩) (fun k=>k≤M.length) M.length 0 (by exact ah) (Nat.zero_le _) ?_
 intro k hk
 by_cases hk2:k<M.length
 ·have hx:M[k]? = some M[k]:=by simp [hk2]
  have hi:idxs (ofP c.domain false) M (k+1)=if ofP c.domain false M[k]=true then idxs (ofP c.domain false) M k++[k] else idxs (ofP c.domain false) M k:=by rw [idxs,hx]
  have hil:(idxs (ofP c.domain false) M k).length≤1000:=by rw [mV];exact Nat.le_trans List.countP_le_length (by rw [List.length_take];omega)
  have c1:=aa2 (c:=c) (x:=M[k])
  generalize M[k]=x at *
  have hmx:=bT (f:=ai.v) hx
  generalize idxs (ofP c.domain false) M (k+1)=J at *
  generalize idxs (ofP c.domain false) M k=I at *
  by_cases h:ofP c.domain false x=true
  ·rw [if_pos h] at hi
   subst hi
   rw [h] at c1
   repeat' (first|refine zt ?_|(refine isR ?_;first|refine zo ?_|refine cZ ai.v k af ?_|refine ak (c1 _) ?_|refine ak (c1) ?_|refine kL nV (a1:=(k)) af ?_|refine zX ?_)|exact ah)
   refine ⟨by omega,by omega,?_⟩
   exact (by exact x_len [0,1,2,5])
  ·rw [if_neg h] at hi
   subst hi
   have h:ofP c.domain false x=false:=by simpa using h
   rw [h] at c1
   repeat' (first|refine zt ?_|(refine isR ?_;first|refine zo ?_|refine cZ ai.v k af ?_|refine ak (c1 _) ?_|refine ak (c1) ?_|refine zX ?_)|exact ah)
   refine ⟨by omega,by omega,?_⟩
   exact (by exact x_len [0,1,2,3])
 ·obtain rfl:k=M.length:=by omega
  have hlen:(idxs (ofP c.domain false) M M.length).length=M.countP (ofP c.domain false):=by rw [mV,List.take_length]
  have hil:(idxs (ofP c.domain false) M M.length).length≤1000:=by rw [hlen];exact Nat.le_trans List.countP_le_length hM
  have hlt:=uL (p:=ofP c.domain false) (M:=M) (k:=M.length)
  rw [nk,← hlen] at he
  generalize idxs (ofP c.domain false) M M.length=I at *
  by_cases g:I.length≤most
  ·rw [if_pos g] at he
   subst he
   repeat' (first|refine zt ?_|(refine isR ?_;first|refine zo ?_|refine zX ?_)|refine aA [0,1] ?_ ?_|exact ah)
   ·rfl
   ·exact .on (.same (aT fun _=>rfl)) (.on (.ren rfl) .nil)
  ·rw [if_neg g] at he
   cases I with
   | nil=>simp at g
   | cons i0 r =>
    dsimp only at he
    have c2:=FL (n:=M.length) (nx:=nx) (now:=now) hil hlt (i0:=i0) rfl rfl
    rw [show (i0::r).drop 1=r from rfl] at c2
    have ha:jJ M r i0<M.length:=wK (hlt i0 (by simp)) fun j hj=>hlt j (by simp [hj])
    have c3:=Kv hM ha
    have hel:(M.eraseIdx (jJ M r i0)).length=M.length-1:=List.length_eraseIdx_of_lt ha
    generalize hK:M.eraseIdx (jJ M r i0)=K at *
    generalize jJ M r i0=a at *
    generalize i0::r=I at *
    repeat' (first|refine zt ?_|(refine isR ?_;first|refine zo ?_|refine x_m [3,0,2,1] [] (c2 _) ?_|refine x_m [3,0,2,1] [] (c2) ?_|refine x_m [0] [] (c3 _) ?_|refine x_m [0] [] (c3) ?_|refine zX ?_)|exact ah)
    refine ⟨K,⟨by omega,f,by omega,he⟩,by omega,?_⟩
    exact (by exact x_len [0,1,2])
theorem LP (hb:L.length≤1000) (hE:evF most (ofP [] true) (L.length+1) L=E):aK Tryz.prog 141 [.loc 1 0 0,nV most,fnA] [rC L,rO L.length nx now] (.tup []) [some (rC E),some (rO E.length nx now)]:=by
 refine bP af Tryz.func141 rfl Tryz.ntmps141 Tryz.results141 rfl rfl rfl rfl fun N pl=>?_
 repeat' (first|refine zt ?_|(refine isR ?_;first|refine dQ [3] af rfl ?_|refine zn ?_|refine zX ?_)|exact ah)
 refine pO (α:=List ai) (fun M=>⟨[(0,.loc 1 0 0),(1,nV most),(2,fnA),(3,.loc 2 0 0)],[(0,some (rC M)),(1,some (rO M.length nx now)),(2,some (rBn 1))],3,49⟩) (fun M=>M.length≤1000∧∃ f,M.length<f∧evF most (ofP [] true) f M=E) (fun M=>M.length) L (by exact ah) ⟨hb,L.length+1,Nat.lt_succ_self _,hE⟩ ?_
 rintro M ⟨hM,f,hf,he⟩
 have hml:(M.map ai.v).length=M.length:=List.length_map _
 obtain ⟨f,rfl⟩:∃ q,f=q+1:=⟨f-1,by omega⟩
 rw [evF] at he
 repeat' (first|refine zt ?_|(refine isR ?_;first|refine zo ?_|refine zX ?_)|exact ah)
 refine kP (t:=6) TI 1 (by decide) rfl rfl ?_
 refine fq (fun k=>⟨[(0,.loc 1 0 0),(1,nV most),(2,fnA),(3,.loc 2 0 0),(6,.own 3 0 (idxs (ofP [] true) M k).length),(14,.own 0 0 M.length),(15,nV M.length),(16,nV k)],[(0,some (rC M)),(1,some (rO M.length nx now)),(2,some (rBn 1)),(3,some (rI (idxs (ofP [] true) M k)))],4,49⟩) (fun k=>k≤M.length) M.length 0 (by exact ah) (Nat.zero_le _) ?_
 intro k hk
 by_cases hk2:k<M.length
 ·have hx:M[k]? = some M[k]:=by simp [hk2]
  have hi:idxs (ofP [] true) M (k+1)=if ofP [] true M[k]=true then idxs (ofP [] true) M k++[k] else idxs (ofP [] true) M k:=by rw [idxs,hx]
  have hil:(idxs (ofP [] true) M k).length≤1000:=by rw [mV];exact Nat.le_trans List.countP_le_length (by rw [List.length_take];omega)
  have c1:=aaG (x:=M[k])
  generalize M[k]=x at *
  have hmx:=bT (f:=ai.v) hx
  generalize idxs (ofP [] true) M (k+1)=J at *
  generalize idxs (ofP [] true) M k=I at *
  by_cases h:ofP [] true x=true
  ·rw [if_pos h] at hi
   subst hi
   rw [h] at c1
   repeat' (first|refine zt ?_|(refine isR ?_;first|refine zo ?_|refine cZ ai.v k af ?_|refine ak (c1 _) ?_|refine ak (c1) ?_|refine kL nV (a1:=(k)) af ?_|refine zX ?_)|exact ah)
   refine ⟨by omega,by omega,?_⟩
   exact (by exact x_len [0,1,2,5])
  ·rw [if_neg h] at hi
   subst hi
   have h:ofP [] true x=false:=by simpa using h
   rw [h] at c1
   repeat' (first|refine zt ?_|(refine isR ?_;first|refine zo ?_|refine cZ ai.v k af ?_|refine ak (c1 _) ?_|refine ak (c1) ?_|refine zX ?_)|exact ah)
   refine ⟨by omega,by omega,?_⟩
   exact (by exact x_len [0,1,2,3])
 ·obtain rfl:k=M.length:=by omega
  have hlen:(idxs (ofP [] true) M M.length).length=M.countP (ofP [] true):=by rw [mV,List.take_length]
  have hil:(idxs (ofP [] true) M M.length).length≤1000:=by rw [hlen];exact Nat.le_trans List.countP_le_length hM
  have hlt:=uL (p:=ofP [] true) (M:=M) (k:=M.length)
  rw [nk,← hlen] at he
  generalize idxs (ofP [] true) M M.length=I at *
  by_cases g:I.length≤most
  ·rw [if_pos g] at he
   subst he
   repeat' (first|refine zt ?_|(refine isR ?_;first|refine zo ?_|refine zX ?_)|refine aA [0,1] ?_ ?_|exact ah)
   ·rfl
   ·exact .on (.same (aT fun _=>rfl)) (.on (.ren rfl) .nil)
  ·rw [if_neg g] at he
   cases I with
   | nil=>simp at g
   | cons i0 r =>
    dsimp only at he
    have c2:=FL (n:=M.length) (nx:=nx) (now:=now) hil hlt (i0:=i0) rfl rfl
    rw [show (i0::r).drop 1=r from rfl] at c2
    have ha:jJ M r i0<M.length:=wK (hlt i0 (by simp)) fun j hj=>hlt j (by simp [hj])
    have c3:=Kv hM ha
    have hel:(M.eraseIdx (jJ M r i0)).length=M.length-1:=List.length_eraseIdx_of_lt ha
    generalize hK:M.eraseIdx (jJ M r i0)=K at *
    generalize jJ M r i0=a at *
    generalize i0::r=I at *
    repeat' (first|refine zt ?_|(refine isR ?_;first|refine zo ?_|refine x_m [3,0,2,1] [] (c2 _) ?_|refine x_m [3,0,2,1] [] (c2) ?_|refine x_m [0] [] (c3 _) ?_|refine x_m [0] [] (c3) ?_|refine zX ?_)|exact ah)
    refine ⟨K,⟨by omega,f,by omega,he⟩,by omega,?_⟩
    exact (by exact x_len [0,1,2])
end XG
namespace ET
open Go.RowKit Mem Abs Scan fI gF iG iP iQ
end ET
namespace kY
open Go.RowKit Mem Abs Scan fI gF iG iP iQ ET qW
abbrev noJ:Abs.V:=.agg [.nils,.int .i64 0]
end kY
namespace IL
open Go.RowKit Mem Abs Scan fI gF iG iP iQ ET kY qW
abbrev TJ:Nat:=25
end IL
namespace acY
open Go.RowKit Mem Abs Scan fI gF iG iP iQ ET kY qW IL
end acY
namespace Oq
open Go.RowKit Mem Abs Scan fI gF iG iP iQ ET kY qW IL acY
theorem yx {L:List ai} {nx:Int} {c:ai} {now:Int} (h:iw L nx c now=0):dD L nx=0∧isJ now=true∧kF c=false∧nx≠1099511627776:=by
 unfold iw at h
 by_cases h1:dD L nx=0
 ·rw [if_neg (by rw [h1];simp)] at h
  by_cases h2:isJ now=false∨kF c=true
  ·rw [if_pos h2] at h;cases h
  ·rw [if_neg h2] at h
   by_cases h3:nx=1099511627776
   ·rw [if_pos h3] at h;cases h
   ·rw [not_or] at h2
    exact ⟨h1,by simpa using h2.1,by simpa using h2.2,h3⟩
 ·rw [if_pos h1] at h;exact absurd h h1
end Oq
namespace EO
open Go.RowKit Mem Abs Scan fI gF iG iP iQ ET kY qW
variable {now:Int} {L:List ai} {nx e:Int} {c:ai}
theorem NV (c1:aj Tryz.prog 32 [dL L nx] (.int .i64 e)) (he:e≠0):aj Tryz.prog 109 [dL L nx,c.v,.int .i64 now] (.tup [noJ,.int .i64 e]):=by
 refine vS af Tryz.func109 rfl Tryz.ntmps109 Tryz.results109 rfl fun N=>?_
 repeat' (first|refine zt ?_|(refine isR ?_;first|refine zo ?_|refine zk c1 ?_|refine zc6 ?_)|refine zr ?_|exact ah)
 all_goals first|rfl|(exfalso;omega)
theorem Md {f:From} (c1:aj Tryz.prog 32 [dL L nx] (.int .i64 0)) (c2:aj Tryz.prog 132 [f.v,.int .i64 now] (.int .i64 e)) (he:e≠0):aj Tryz.prog 110 [dL L nx,f.v,.int .i64 now] (.tup [noJ,.nils,.int .i64 e]):=by
 refine vS af Tryz.func110 rfl Tryz.ntmps110 Tryz.results110 rfl fun N=>?_
 repeat' (first|refine zt ?_|(refine isR ?_;first|refine zo ?_|refine zk c1 ?_|refine zk c2 ?_|refine zX ?_)|refine zr ?_|exact ah)
 all_goals first|rfl|(exfalso;omega)
theorem Mf (c1:aj Tryz.prog 32 [dL L nx] (.int .i64 0)) (h:iw L nx c now≠0) (h0:dD L nx=0):aj Tryz.prog 109 [dL L nx,c.v,.int .i64 now] (.tup [noJ,.int .i64 ((iw L nx c now:Nat):Int)]):=by
 have c2:=qP (n:=now)
 have c3:=uw (c:=c)
 unfold iw at h ⊢
 rw [if_neg (by rw [h0];simp)] at h ⊢
 by_cases h2:isJ now=false
 ·rw [if_pos (.inl h2)]
  rw [h2] at c2
  refine vS af Tryz.func109 rfl Tryz.ntmps109 Tryz.results109 rfl fun N=>?_
  repeat' (first|refine zt ?_|(refine isR ?_;first|refine zo ?_|refine zk c1 ?_|refine zk c2 ?_|refine zX ?_)|refine zr ?_|exact ah)
  all_goals first|rfl|(exfalso;omega)
 ·have h2:isJ now=true:=by simpa using h2
  rw [h2] at c2
  by_cases h3:kF c=true
  ·rw [if_pos (.inr h3)]
   rw [h3] at c3
   change aj _ _ _ (.bool false) at c3
   refine vS af Tryz.func109 rfl Tryz.ntmps109 Tryz.results109 rfl fun N=>?_
   repeat' (first|refine zt ?_|(refine isR ?_;first|refine zo ?_|refine zk c1 ?_|refine zk c2 ?_|refine zk c3 ?_|refine zX ?_)|refine zr ?_|exact ah)
   all_goals first|rfl|(exfalso;omega)
  ·rw [if_neg (fun q=>q.elim (fun q=>by rw [h2] at q;cases q) h3)] at h ⊢
   have h3:kF c=false:=by simpa using h3
   rw [h3] at c3
   change aj _ _ _ (.bool true) at c3
   by_cases h5:nx=1099511627776
   ·rw [if_pos h5]
    refine vS af Tryz.func109 rfl Tryz.ntmps109 Tryz.results109 rfl fun N=>?_
    repeat' (first|refine zt ?_|(refine isR ?_;first|refine zo ?_|refine zk c1 ?_|refine zk c2 ?_|refine zk c3 ?_|refine zX ?_)|refine zr ?_|exact ah)
    all_goals first|rfl|(exfalso;omega)
   ·rw [if_neg h5] at h
    exact absurd rfl h
end EO
namespace Kc
open Go.RowKit Mem Abs Scan fI gF iG iP iQ kY nu oZ XG
variable {E2:List ai} {now:Int} {L:List ai} {nx:Int} {M E1:List ai} {c:ai}
theorem Ju (hb:L.length≤1000):aK Tryz.prog 138 [dL L nx,.int .i64 now] [] (.loc 1 0 0) [some (rC L),some (rO L.length nx now)]:=by
 have c1:=zP.II (L:=L) (by omega)
 refine bP af Tryz.func138 rfl Tryz.ntmps138 Tryz.results138 rfl rfl rfl rfl fun N pl=>?_
 repeat' (first|refine zt ?_|(refine isR ?_;first|refine dQ [13] af rfl ?_|refine zn ?_|refine x_m [] [0] (c1 _) ?_|refine x_m [] [0] (c1) ?_)|refine aA [0,1] ?_ ?_|exact ah)
 ·rfl
 ·exact .on (.same (aT fun _=>rfl)) (.on (.ren rfl) .nil)
theorem O3 {n:Nat} {e:Int} (h:n=L.length):V.tup [.agg [.fro (List.take n (List.drop 0 (L.map ai.v))),.int .i64 nx],.int .i64 e] = .tup [dL L nx,.int .i64 e]:=by
 rw [List.drop_zero,List.take_of_length_le (by simp [h])]
theorem QD (hb:L.length≤12) (hn:0≤nx) (hn2:nx<1099511627776) (h1:isJ now=true) (h2:kF c=false) (h0:dD L nx=0) (hf:(aI now L).findIdx? (fun x=>bq x c)=none) (hM:aI now (aI now L++[{ c with no:=nx }])=M) (hE1:evF 4 (ofP c.domain false) (M.length+1) M=E1) (hE2:evF 12 (ofP [] true) (E1.length+1) E1=E2) (hb1:M.length≤100) (hb2:E1.length≤100):
  aj Tryz.prog 109 [dL L nx,c.v,.int .i64 now] (.tup [dL E2 (nx+1),.int .i64 0]):=by
 have c1:=og (L:=L) (nx:=nx)
 rw [h0] at c1
 have c2:=qP (n:=now)
 rw [h1] at c2
 have c3:=uw (c:=c)
 rw [h2] at c3
 change aj _ _ _ (.bool true) at c3
 have c4:=Ju (L:=L) (nx:=nx) (now:=now) (by omega)
 have c5:=yB (L:=L) (nx:=nx) (now:=now) (by omega)
 have hl:(aI now L).length≤12:=Nat.le_trans (List.length_filter_le _ _) hb
 have c6:=aa8.Tn (L:=aI now L) (c:=c) (nx:=nx) (now:=now) (by omega) hn (by omega) hf
 have hl2:(aI now L++[{ c with no:=nx }]).length≤1000:=by rw [List.length_append];simp;omega
 have c7:=yB (nx:=nx+1) (now:=now) hl2
 rw [hM] at c7
 have c8:=JN (c:=c) (most:=4) (nx:=nx+1) (now:=now) (by omega) hE1
 have c9:=LP (most:=12) (nx:=nx+1) (now:=now) (by omega) hE2
 generalize aI now L++[{ c with no:=nx }]=K at *
 generalize aI now L=A at *
 refine vS af Tryz.func109 rfl Tryz.ntmps109 Tryz.results109 rfl fun N=>?_
 repeat' (first|refine zt ?_|(refine isR ?_;first|refine zo ?_|refine zk c1 ?_|refine zk c2 ?_|refine zk c3 ?_|refine x_m [] [1,2] (c4 _) ?_|refine x_m [] [1,2] (c4) ?_|refine x_m [1,2] [] (c5 _) ?_|refine x_m [1,2] [] (c5) ?_|refine x_m [1,2] [3] (c6 _) ?_|refine x_m [1,2] [3] (c6) ?_|refine x_m [3,2] [] (c7 _) ?_|refine x_m [3,2] [] (c7) ?_|refine x_m [3,2] [] (c8 _) ?_|refine x_m [3,2] [] (c8) ?_|refine x_m [3,2] [] (c9 _) ?_|refine x_m [3,2] [] (c9) ?_|refine zX ?_)|refine zr ?_|exact ah)
 exact O3 rfl
theorem Nq {d:ai} {i:Nat} (hb:L.length≤12) (hn:0≤nx) (hn2:nx<1099511627776) (h1:isJ now=true) (h2:kF c=false) (h0:dD L nx=0) (hf:(aI now L).findIdx? (fun x=>bq x c)=some i) (hx:(aI now L)[i]? = some d) (hM:aI now ((aI now L).set i { c with created:=d.created,no:=d.no })=M) (hE1:evF 4 (ofP c.domain false) (M.length+1) M=E1) (hE2:evF 12 (ofP [] true) (E1.length+1) E1=E2) (hb1:M.length≤100) (hb2:E1.length≤100):
  aj Tryz.prog 109 [dL L nx,c.v,.int .i64 now] (.tup [dL E2 nx,.int .i64 0]):=by
 have c1:=og (L:=L) (nx:=nx)
 rw [h0] at c1
 have c2:=qP (n:=now)
 rw [h1] at c2
 have c3:=uw (c:=c)
 rw [h2] at c3
 change aj _ _ _ (.bool true) at c3
 have c4:=Ju (L:=L) (nx:=nx) (now:=now) (by omega)
 have c5:=yB (L:=L) (nx:=nx) (now:=now) (by omega)
 have hl:(aI now L).length≤12:=Nat.le_trans (List.length_filter_le _ _) hb
 have c6:=aa8.QY (L:=aI now L) (c:=c) (nx:=nx) (now:=now) (by omega) hf hx
 have hset:((aI now L).set i { c with created:=d.created,no:=d.no }).length=(aI now L).length:=List.length_set
 have c7:=yB (L:=(aI now L).set i { c with created:=d.created,no:=d.no }) (nx:=nx) (now:=now) (by omega)
 rw [hM,hset] at c7
 have c8:=JN (c:=c) (most:=4) (nx:=nx) (now:=now) (by omega) hE1
 have c9:=LP (most:=12) (nx:=nx) (now:=now) (by omega) hE2
 have hne:nx≠1099511627776:=by omega
 generalize (aI now L).set i { c with created:=d.created,no:=d.no }=K at *
 generalize aI now L=A at *
 refine vS af Tryz.func109 rfl Tryz.ntmps109 Tryz.results109 rfl fun N=>?_
 repeat' (first|refine zt ?_|(refine isR ?_;first|refine zo ?_|refine zk c1 ?_|refine zk c2 ?_|refine zk c3 ?_|refine x_m [] [1,2] (c4 _) ?_|refine x_m [] [1,2] (c4) ?_|refine x_m [1,2] [] (c5 _) ?_ (hst:=.cons (.same (aT fun _=>rfl)) (.cons (.ren rfl) .nil))|refine x_m [1,2] [] (c6 _) ?_|refine x_m [1,2] [] (c6) ?_|refine x_m [1,2] [] (c7 _) ?_ (hst:=.cons (.same (aT fun _=>rfl)) (.cons (.ren rfl) .nil))|refine x_m [1,2] [] (c8 _) ?_|refine x_m [1,2] [] (c8) ?_|refine x_m [1,2] [] (c9 _) ?_|refine x_m [1,2] [] (c9) ?_|refine zX ?_)|refine zr ?_|exact ah)
 exact O3 rfl
theorem MF (h:iw L nx c now=0):aj Tryz.prog 109 [dL L nx,c.v,.int .i64 now] (.tup [dL (sV L nx c now).1 (sV L nx c now).2,.int .i64 0]):=by
 obtain ⟨h1,h2,h3,h4⟩:=Oq.yx h
 have hr:Rj L nx:=dx.1 h1
 have hn:=hr.nx
 have hlen:=hr.len
 have ev:∀ most p f (M:List ai),(evF most p f M).length≤M.length:=fun most p f=>by
  induction f with
  | zero=>intro M;exact Nat.le_refl _
  | succ f ih =>
   intro M
   rw [evF]
   split
   ·exact Nat.le_refl _
   ·split
    ·exact Nat.le_refl _
    ·exact Nat.le_trans (ih _) (List.length_eraseIdx_le _ _)
 have hll:∀ M:List ai,(aI now M).length≤M.length:=fun M=>List.length_filter_le _ _
 have hl1:=hll L
 cases hf:(aI now L).findIdx? (fun x=>bq x c) with
 | none =>
  have e:mh (aI now L) nx c=(aI now L++[{ c with no:=nx }],nx+1):=by unfold mh;rw [hf]
  have e1:sV L nx c now=(evF 12 (ofP [] true) ((evF 4 (ofP c.domain false) ((aI now (aI now L++[{ c with no:=nx }])).length+1) (aI now (aI now L++[{ c with no:=nx }]))).length+1) (evF 4 (ofP c.domain false) ((aI now (aI now L++[{ c with no:=nx }])).length+1) (aI now (aI now L++[{ c with no:=nx }]))),nx+1):=by
   unfold sV
   rw [e]
   rfl
  rw [e1]
  have hb1:(aI now (aI now L++[{ c with no:=nx }])).length≤100:=by
   refine Nat.le_trans (hll _) ?_
   rw [List.length_append]
   simp
   omega
  exact QD hlen hn.1 (by omega) h2 h3 h1 hf rfl rfl rfl hb1 (Nat.le_trans (ev _ _ _ _) hb1)
 | some i0 =>
  obtain ⟨hi,_,_⟩:=List.findIdx?_eq_some_iff_getElem.1 hf
  have hx:(aI now L)[i0]? = some (aI now L)[i0]:=by simp [hi]
  have hg:(aI now L).getD i0 c=(aI now L)[i0]:=by rw [List.getD_eq_getElem?_getD,hx];rfl
  have e:mh (aI now L) nx c=((aI now L).set i0 { c with created:=((aI now L)[i0]).created,no:=((aI now L)[i0]).no },nx):=by
   unfold mh
   rw [hf]
   dsimp only
   rw [hg]
  have e1:sV L nx c now=(evF 12 (ofP [] true) ((evF 4 (ofP c.domain false) ((aI now (mh (aI now L) nx c).1).length+1) (aI now (mh (aI now L) nx c).1)).length+1) (evF 4 (ofP c.domain false) ((aI now (mh (aI now L) nx c).1).length+1) (aI now (mh (aI now L) nx c).1)),(mh (aI now L) nx c).2):=rfl
  rw [e1,e]
  have hb1:(aI now ((aI now L).set i0 { c with created:=((aI now L)[i0]).created,no:=((aI now L)[i0]).no })).length≤100:=by
   refine Nat.le_trans (hll _) ?_
   rw [List.length_set]
   omega
  exact Nq hlen hn.1 (by omega) h2 h3 h1 hf hx rfl rfl rfl hb1 (Nat.le_trans (ev _ _ _ _) hb1)
end Kc
namespace JU
open Go.RowKit Mem Abs Scan fI gF iG iP iQ ET kY qW IL
def jk (g:ai→Bool) (now:Int) (c:ai):ai:=if g c=true then { c with used:=now } else c
end JU
end Go.Proofs.YtlfdjpgghiemfaaGreatDoor
