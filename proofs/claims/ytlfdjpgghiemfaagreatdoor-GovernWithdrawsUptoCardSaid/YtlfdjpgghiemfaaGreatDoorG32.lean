/- Texts of the proof, joined: LineC, GovD, GovV. -/
import Derived.Test.YtlfdjpgghiemfaaGreatDoorG14
import Derived.Test.YtlfdjpgghiemfaaGreatDoorG23
import Derived.Test.YtlfdjpgghiemfaaGreatDoorG31
set_option maxHeartbeats 4000000
set_option maxRecDepth 100000
section
namespace Go.Proofs.YtlfdjpgghiemfaaGreatDoor.LineC
open Go.RowKit Mem Abs TreeW WordS PathT SortP SortW SortM SortN LineA LineP LineB Bld
theorem take_on {L:List Cookie} {k:Nat} {c:Cookie} (h:L[k]? = some c):lineT (L.take (k+1))=if k=0 then ckT c else (lineT (L.take k)++[59,32])++ckT c:=by
 obtain ⟨hk,rfl⟩:=List.getElem?_eq_some_iff.1 h
 rw [List.take_succ_eq_append_getElem hk,lineT_snoc]
 by_cases h0:k=0
 ·subst h0;simp
 ·rw [if_neg h0,if_neg (by intro e;have:=congrArg List.length e;rw [List.length_take,List.length_nil] at this;omega)]
theorem take_small {L:List Cookie} (h:SmallC L) (k:Nat):(lineT (L.take k)).length≤2199026401280:=by
 have h1:=lineT_len (L:=L.take k) fun c hc=>h.2 c (List.mem_of_mem_take hc)
 have h2:(L.take k).length≤1048576:=by have:=h.1;simp;omega
 have h3:(L.take k).length*2097155≤1048576*2097155:=Nat.mul_le_mul_right _ h2
 omega
def stW (L:List Cookie):Nat→S
 | 0=>⟨[(3,.loc 0 0 0),(6,.fro (L.map Cookie.v)),(7,.int .i64 (L.map Cookie.v).length),(8,.int .i64 ((0:Nat):Int))],[(0,some fresh)],1,25⟩
 | k+1=>⟨[(3,.loc 0 0 0),(6,.fro (L.map Cookie.v)),(7,.int .i64 (L.map Cookie.v).length),(8,.int .i64 ((k+1:Nat):Int))],[(0,some (used 0 1 (lineT (L.take (k+1))))),(1,some (bytesB (lineT (L.take (k+1)))))],2,25⟩
theorem write_v {L:List Cookie} (hs:SmallC L):ACalls Tryz.prog 111 [.fro (L.map Cookie.v)] (strT (lineT L)):=by
 have hx:((L.map Cookie.v).length:Int)=(L.length:Int):=by simp
 have hsz:=hs.1
 have hsm:=take_small hs
 have hall:=hs.2
 have hend:lineT (L.take L.length)=lineT L:=by rw [List.take_length]
 have hne:∀ k,k<L.length→lineT (L.take (k+1))≠[]:=fun k hk=>lineT_ne (by intro e;have:=congrArg List.length e;rw [List.length_take,List.length_nil] at this;omega)
 have hon:=fun k c=>take_on (L:=L) (k:=k) (c:=c)
 have hz:lineT (L.take 0)=[]:=by simp [lineT]
 rw [← hend]
 have hst:∀ k,stW L (k+1)=⟨[(3,.loc 0 0 0),(6,.fro (L.map Cookie.v)),(7,.int .i64 (L.map Cookie.v).length),(8,.int .i64 ((k+1:Nat):Int))],[(0,some (used 0 1 (lineT (L.take (k+1))))),(1,some (bytesB (lineT (L.take (k+1)))))],2,25⟩:=fun _=>rfl
 have hst0:stW L 0=⟨[(3,.loc 0 0 0),(6,.fro (L.map Cookie.v)),(7,.int .i64 (L.map Cookie.v).length),(8,.int .i64 ((0:Nat):Int))],[(0,some fresh)],1,25⟩:=rfl
 clear hs
 generalize hacc:(fun k=>lineT (L.take k))=acc at *
 have ha:∀ k,lineT (L.take k)=acc k:=fun k=>by rw [← hacc]
 simp only [ha] at *
 generalize stW L=st at *
 refine fun1 tb_ok Tryz.func111 rfl Tryz.ntmps111 Tryz.results111 rfl fun N=>?_
 repeat' (first|refine zt ?_|(refine isR ?_;first|refine x_far [3] tb_ok rfl ?_|refine zn ?_|refine zA ?_|refine zL ?_|refine zc1 ?_|refine zc3 ?_|refine zI ?_)|refine zr ?_|exact x_le)
 refine awp_forN st (fun k=>k≤L.length) L.length 0 (by rw [hst0];exact (by exact x_le)) (Nat.zero_le _) ?_
 intro k hk
 rcases k with _|k
 ·rw [hst0,hst 0]
  by_cases hk2:0<L.length
  ·have e1:(L.map Cookie.v)[0]? = some (L[0]).v:=by simp [hk2]
   have e2:L[0]? = some L[0]:=by simp [hk2]
   have e3:=hon 0 L[0] e2
   rw [if_pos rfl] at e3
   have s4:=hall L[0] (List.getElem_mem hk2)
   rw [e3]
   generalize L[0]=c at *
   obtain ⟨c1,c2,c3,c4,c5,c6,c7,c8,c9,c10,c11,c12,c13⟩:=c
   unfold ckT
   dsimp only at *
   have w0:=write0 (q:=(c1++[61])++c2) (by simp;omega)
   repeat' (first|refine zt ?_|(refine isR ?_;first|refine zo ?_|refine x_m [0] [2] (w0 _) ?_|refine x_m [0] [2] (w0) ?_|refine zA ?_|refine zL ?_|refine zc1 ?_|refine zc3 ?_|refine zI ?_)|refine zr ?_|exact x_le)
   refine ⟨by omega,hk2,?_⟩
   exact (by exact x_len [0,2])
  ·have hl:L.length=0:=by omega
   rw [hl,hz]
   have w3:=string0
   repeat' (first|refine zt ?_|(refine isR ?_;first|refine zo ?_|refine x_m [0] [] (w3 _) ?_|refine x_m [0] [] (w3) ?_|refine zA ?_|refine zL ?_|refine zc1 ?_|refine zc3 ?_|refine zI ?_)|refine zr ?_|exact x_le)
   rfl
 ·rw [hst k,hst (k+1)]
  have hlk:=hsm (k+1)
  by_cases hk2:k+1<L.length
  ·have e1:(L.map Cookie.v)[k+1]? = some (L[k+1]).v:=by simp [hk2]
   have e2:L[k+1]? = some L[k+1]:=by simp [hk2]
   have e3:=hon (k+1) L[k+1] e2
   rw [if_neg (by omega)] at e3
   have s4:=hall L[k+1] (List.getElem_mem hk2)
   rw [e3]
   generalize L[k+1]=c at *
   generalize acc (k+1)=p at *
   obtain ⟨c1,c2,c3,c4,c5,c6,c7,c8,c9,c10,c11,c12,c13⟩:=c
   unfold ckT
   dsimp only at *
   have w1:=write1 (p:=p) (q:=[59,32]) (by simp;omega)
   have w2:=write1 (p:=p++[59,32]) (q:=(c1++[61])++c2) (by simp;omega)
   repeat' (first|refine zt ?_|(refine isR ?_;first|refine zo ?_|refine x_m [0,1] [3] (w1 _) ?_|refine x_m [0,1] [3] (w1) ?_|refine x_m [0,3] [4] (w2 _) ?_|refine x_m [0,3] [4] (w2) ?_|refine zA ?_|refine zL ?_|refine zc1 ?_|refine zc3 ?_|refine zI ?_)|refine zr ?_|exact x_le)
   refine ⟨by omega,hk2,?_⟩
   exact (by exact x_len [0,4])
  ·have hl:L.length=k+1:=by omega
   have hn:=hne k (by omega)
   rw [hl]
   generalize acc (k+1)=p at *
   have w4:=string1 (p:=p) hn
   repeat' (first|refine zt ?_|(refine isR ?_;first|refine zo ?_|refine x_m [0,1] [] (w4 _) ?_|refine x_m [0,1] [] (w4) ?_|refine zA ?_|refine zL ?_|refine zc1 ?_|refine zc3 ?_|refine zI ?_)|refine zr ?_|exact x_le)
   rfl
theorem snoc_len {α:Type} (l:List α) (a:α):(l++[a]).length=l.length+1:=by simp
theorem go_end (k:Nat) (out:List Attr):goF k [] out=some out:=rfl
theorem go_on (k:Nat) (p:List UInt8) (r:List (List UInt8)) (out:List Attr):goF k (p::r) out=match pieceF k p with
  | none=>none
  | some a=>goF (k+1) r (out++[a]):=rfl
theorem piece0 (p:List UInt8):pieceF 0 p=if (cutF 61 p).2.2=false∨(cutF 61 p).1=[] then none else some ⟨(cutF 61 p).1,(cutF 61 p).2.1⟩:=by
 unfold pieceF
 simp only [Nat.lt_irrefl,if_false,false_and,false_or]
theorem piece1 (k:Nat) (p:List UInt8):pieceF (k+1) p=if (cutP p [32]).2=false∨(cutF 61 (cutP p [32]).1).2.2=false∨(cutF 61 (cutP p [32]).1).1=[] then none else some ⟨(cutF 61 (cutP p [32]).1).1,(cutF 61 (cutP p [32]).1).2.1⟩:=by
 unfold pieceF
 simp only [Nat.zero_lt_succ,if_true,true_and]
theorem read_v {s:List UInt8}:ACalls Tryz.prog 14 [strT s] (.tup [.fro ((pairsF s).1.map Attr.v),.int .i64 (pairsF s).2]):=by
 unfold pairsF
 by_cases h0:8000<s.length
 ·rw [if_pos h0]
  refine ACalls.nfd (r:=.tup [.nils,.int .i64 2]) ?_ rfl
  refine fun1 tb_ok Tryz.func14 rfl Tryz.ntmps14 Tryz.results14 rfl fun N=>?_
  repeat' (first|refine zt ?_|(refine isR ?_;first|refine zo ?_|refine x_bs tb_ok ?_|refine zA ?_|refine zL ?_|refine zc1 ?_|refine zc3 ?_|refine zc5 ?_|refine zI ?_)|refine zr ?_|exact x_le)
  rfl
 rw [if_neg h0]
 by_cases h1:s=[]
 ·rw [if_pos h1]
  refine ACalls.nfd (r:=.tup [.nils,.int .i64 0]) ?_ rfl
  refine fun1 tb_ok Tryz.func14 rfl Tryz.ntmps14 Tryz.results14 rfl fun N=>?_
  repeat' (first|refine zt ?_|(refine isR ?_;first|refine zo ?_|refine x_bs tb_ok ?_|refine zA ?_|refine zL ?_|refine zc1 ?_|refine zc3 ?_|refine zc5 ?_|refine zI ?_)|refine zr ?_|exact x_le)
  rfl
 rw [if_neg h1]
 have c1:=parts_v (u:=59) (l:=s) (by omega)
 have hlen:=split_len 59 s
 generalize split 59 s=ps at *
 have hx:((ps.map strT).length:Int)=(ps.length:Int):=by simp
 cases hG:goF 0 ps [] with
 | none =>
  refine ACalls.nfd (r:=.tup [.nils,.int .i64 1]) ?_ rfl
  refine fun1 tb_ok Tryz.func14 rfl Tryz.ntmps14 Tryz.results14 rfl fun N=>?_
  repeat' (first|refine zt ?_|(refine isR ?_;first|refine zo ?_|refine zk c1 ?_|refine x_bs tb_ok ?_|refine zA ?_|refine zL ?_|refine zc1 ?_|refine zc3 ?_|refine zc5 ?_|refine zI ?_)|refine zr ?_|exact x_le)
  refine awp_name (t:=2) 60 2 (by decide) rfl rfl ?_
  refine awp_whileN (α:=Nat × List Attr) (fun x=>⟨[(18,.fro (ps.map strT)),(19,.int .i64 (ps.map strT).length),(20,.int .i64 (x.1:Int)),(2,.own 0 0 x.2.length)],[(0,some (.els 60 2 (x.2.map Attr.v)))],1,56⟩) (fun x=>x.1≤ps.length∧x.2.length≤x.1∧goF x.1 (ps.drop x.1) x.2=none) (fun x=>ps.length-x.1) (0,[]) (by exact x_le) ⟨Nat.zero_le _,Nat.le_refl _,hG⟩ ?_
  rintro ⟨k,out⟩ ⟨g1,g2,g3⟩
  dsimp only at g1 g2 g3 ⊢
  by_cases hk:k<ps.length
  ·have f1:(ps.map strT)[k]? = some (strT ps[k]):=by simp [hk]
   rw [List.drop_eq_getElem_cons hk,go_on] at g3
   generalize ps[k]=p at *
   rcases k with _|k
   ·rw [piece0] at g3
    have d1:=cut_v (c:=61) (l:=p)
    generalize cutF 61 p=y at *
    obtain ⟨y1,y2,y3⟩:=y
    dsimp only at *
    cases y3 with
    | false =>
     repeat' (first|refine zt ?_|(refine isR ?_;first|refine zo ?_|refine zk d1 ?_|refine x_bs tb_ok ?_|refine zA ?_|refine zL ?_|refine zc1 ?_|refine zc3 ?_|refine zc5 ?_|refine zI ?_)|refine zr ?_|exact x_le)
     rfl
    | true =>
     by_cases hn:y1=[]
     ·skip
      repeat' (first|refine zt ?_|(refine isR ?_;first|refine zo ?_|refine zk d1 ?_|refine x_bs tb_ok ?_|refine zA ?_|refine zL ?_|refine zc1 ?_|refine zc3 ?_|refine zc5 ?_|refine zI ?_)|refine zr ?_|exact x_le)
      rfl
     ·rw [if_neg (by simp [hn])] at g3
      repeat' (first|refine zt ?_|(refine isR ?_;first|refine zo ?_|refine zk d1 ?_|refine x_app Attr.v (a1:=(⟨y1,y2⟩)) tb_ok ?_|refine x_bs tb_ok ?_|refine zA ?_|refine zL ?_|refine zc1 ?_|refine zc3 ?_|refine zc5 ?_|refine zI ?_)|refine zr ?_|exact x_le)
      refine ⟨(0+1,out++[⟨y1,y2⟩]),⟨by dsimp only;omega,by dsimp only;rw [snoc_len];omega,g3⟩,by dsimp only;omega,?_⟩
      exact (by exact x_len [1])
   ·rw [piece1] at g3
    have d0:=cutPrefix_v (l:=p) (m:=[32])
    have d1:=cut_v (c:=61) (l:=(cutP p [32]).1)
    generalize cutP p [32]=z at *
    obtain ⟨z1,z2⟩:=z
    dsimp only at *
    generalize cutF 61 z1=y at *
    obtain ⟨y1,y2,y3⟩:=y
    dsimp only at *
    cases z2 with
    | false =>
     repeat' (first|refine zt ?_|(refine isR ?_;first|refine zo ?_|refine zk d0 ?_|refine zk d1 ?_|refine x_bs tb_ok ?_|refine zA ?_|refine zL ?_|refine zc1 ?_|refine zc3 ?_|refine zc5 ?_|refine zI ?_)|refine zr ?_|exact x_le)
     rfl
    | true =>
     cases y3 with
     | false =>
      repeat' (first|refine zt ?_|(refine isR ?_;first|refine zo ?_|refine zk d0 ?_|refine zk d1 ?_|refine x_bs tb_ok ?_|refine zA ?_|refine zL ?_|refine zc1 ?_|refine zc3 ?_|refine zc5 ?_|refine zI ?_)|refine zr ?_|exact x_le)
      rfl
     | true =>
      by_cases hn:y1=[]
      ·skip
       repeat' (first|refine zt ?_|(refine isR ?_;first|refine zo ?_|refine zk d0 ?_|refine zk d1 ?_|refine x_bs tb_ok ?_|refine zA ?_|refine zL ?_|refine zc1 ?_|refine zc3 ?_|refine zc5 ?_|refine zI ?_)|refine zr ?_|exact x_le)
       rfl
      ·rw [if_neg (by simp [hn])] at g3
       repeat' (first|refine zt ?_|(refine isR ?_;first|refine zo ?_|refine zk d0 ?_|refine zk d1 ?_|refine x_app Attr.v (a1:=(⟨y1,y2⟩)) tb_ok ?_|refine x_bs tb_ok ?_|refine zA ?_|refine zL ?_|refine zc1 ?_|refine zc3 ?_|refine zc5 ?_|refine zI ?_)|refine zr ?_|exact x_le)
       refine ⟨(k+1+1,out++[⟨y1,y2⟩]),⟨by dsimp only;omega,by dsimp only;rw [snoc_len];omega,g3⟩,by dsimp only;omega,?_⟩
       exact (by exact x_len [1])
  ·rw [List.drop_eq_nil_of_le (by omega),go_end] at g3
   cases g3
 | some res =>
  refine fun1 tb_ok Tryz.func14 rfl Tryz.ntmps14 Tryz.results14 rfl fun N=>?_
  repeat' (first|refine zt ?_|(refine isR ?_;first|refine zo ?_|refine zk c1 ?_|refine x_bs tb_ok ?_|refine zA ?_|refine zL ?_|refine zc1 ?_|refine zc3 ?_|refine zc5 ?_|refine zI ?_)|refine zr ?_|exact x_le)
  refine awp_name (t:=2) 60 2 (by decide) rfl rfl ?_
  refine awp_whileN (α:=Nat × List Attr) (fun x=>⟨[(18,.fro (ps.map strT)),(19,.int .i64 (ps.map strT).length),(20,.int .i64 (x.1:Int)),(2,.own 0 0 x.2.length)],[(0,some (.els 60 2 (x.2.map Attr.v)))],1,56⟩) (fun x=>x.1≤ps.length∧x.2.length≤x.1∧goF x.1 (ps.drop x.1) x.2=some res) (fun x=>ps.length-x.1) (0,[]) (by exact x_le) ⟨Nat.zero_le _,Nat.le_refl _,hG⟩ ?_
  rintro ⟨k,out⟩ ⟨g1,g2,g3⟩
  dsimp only at g1 g2 g3 ⊢
  by_cases hk:k<ps.length
  ·have f1:(ps.map strT)[k]? = some (strT ps[k]):=by simp [hk]
   rw [List.drop_eq_getElem_cons hk,go_on] at g3
   generalize ps[k]=p at *
   rcases k with _|k
   ·rw [piece0] at g3
    have d1:=cut_v (c:=61) (l:=p)
    generalize cutF 61 p=y at *
    obtain ⟨y1,y2,y3⟩:=y
    dsimp only at *
    by_cases hn:y3=false∨y1=[]
    ·rw [if_pos hn] at g3;cases g3
    ·rw [if_neg hn] at g3
     obtain ⟨hn1,hn2⟩:=not_or.1 hn
     obtain rfl:y3=true:=by simpa using hn1
     clear hn hn1
     repeat' (first|refine zt ?_|(refine isR ?_;first|refine zo ?_|refine zk d1 ?_|refine x_app Attr.v (a1:=(⟨y1,y2⟩)) tb_ok ?_|refine x_bs tb_ok ?_|refine zA ?_|refine zL ?_|refine zc1 ?_|refine zc3 ?_|refine zc5 ?_|refine zI ?_)|refine zr ?_|exact x_le)
     refine ⟨(0+1,out++[⟨y1,y2⟩]),⟨by dsimp only;omega,by dsimp only;rw [snoc_len];omega,g3⟩,by dsimp only;omega,?_⟩
     exact (by exact x_len [1])
   ·rw [piece1] at g3
    have d0:=cutPrefix_v (l:=p) (m:=[32])
    have d1:=cut_v (c:=61) (l:=(cutP p [32]).1)
    generalize cutP p [32]=z at *
    obtain ⟨z1,z2⟩:=z
    dsimp only at *
    generalize cutF 61 z1=y at *
    obtain ⟨y1,y2,y3⟩:=y
    dsimp only at *
    by_cases hn:z2=false∨y3=false∨y1=[]
    ·rw [if_pos hn] at g3;cases g3
    ·rw [if_neg hn] at g3
     obtain ⟨hn0,hn⟩:=not_or.1 hn
     obtain ⟨hn1,hn2⟩:=not_or.1 hn
     obtain rfl:y3=true:=by simpa using hn1
     obtain rfl:z2=true:=by simpa using hn0
     clear hn hn1 hn0
     repeat' (first|refine zt ?_|(refine isR ?_;first|refine zo ?_|refine zk d0 ?_|refine zk d1 ?_|refine x_app Attr.v (a1:=(⟨y1,y2⟩)) tb_ok ?_|refine x_bs tb_ok ?_|refine zA ?_|refine zL ?_|refine zc1 ?_|refine zc3 ?_|refine zc5 ?_|refine zI ?_)|refine zr ?_|exact x_le)
     refine ⟨(k+1+1,out++[⟨y1,y2⟩]),⟨by dsimp only;omega,by dsimp only;rw [snoc_len];omega,g3⟩,by dsimp only;omega,?_⟩
     exact (by exact x_len [1])
  ·rw [List.drop_eq_nil_of_le (by omega),go_end] at g3
   have e:out=res:=Option.some.inj g3
   subst e
   repeat' (first|refine zt ?_|(refine isR ?_;first|refine zo ?_|refine x_bs tb_ok ?_|refine zA ?_|refine zL ?_|refine zc1 ?_|refine zc3 ?_|refine zc5 ?_|refine zI ?_)|refine zr ?_|exact x_le)
   show V.tup [V.fro (List.take out.length (List.drop 0 (out.map Attr.v))),_]=_
   rw [List.drop_zero,List.take_of_length_le (by simp)];rfl
end Go.Proofs.YtlfdjpgghiemfaaGreatDoor.LineC
end
section
namespace Go.Proofs.YtlfdjpgghiemfaaGreatDoor.GovD
open Go.RowKit Mem Abs Globs HostP HostC PathT Rdy Scan JarP JarQ JarA JarB JarC JarE JarK JarL JarM JarT JarI PolP PolA PolB PurA RjP GovP GovA GovB GovC GoesW SortP SortW LineP LineB LineA Bld
open ConC (conI intsV)
theorem few {g:Int} {U:List Int} (h:GrantP.check g U=0):U.length≤40:=by
 obtain ⟨n,V,rfl,rfl,_,hV⟩:=ConQ.check_nat h
 exact Nat.le_trans (Nat.le_of_eq (List.length_map _)) (ConP.right_few hV)
theorem own_at {S:List Suffix} {L:List Cookie} {nx:Int} {p:Pol} {g:Int} {P:Nat→Bool} {U:List Int} {t:Int} (h:OkS S L nx p g P U t):ACalls Tryz.prog 44 [stV S L nx p g P U t] (stV S L nx p g P U t):=by
 have h1:=(SufP.check_rules h.suf).2
 have h2:Rj L nx:=check_zero.1 h.jar
 have h2:=h2.len
 have h3:=(check_ok h.pol).len
 have h4:=few h.con
 exact own_v (by omega) (by omega) (by omega) (by omega)
theorem get_ok {L:List Cookie} {nx now:Int} {f:From} (hd:∀ c∈L,c.domain.length≤140737488355327) (h0:checkJ L nx=0) (h1:readyF f now=0) :
  ACallsG Tryz.prog gStr 110 [jarV L nx,f.v,.int .i64 now] (.tup [jarV (L.map (useF (fun c=>goesF c f now) now)) nx,.fro ((toldF f now L).map Cookie.v),.int .i64 0]):=by
 have c1:=jcheck_v (L:=L) (nx:=nx)
 rw [h0] at c1
 have c2:=ready_v (f:=f) (now:=now)
 rw [h1] at c2
 have hr:Rj L nx:=check_zero.1 h0
 have hl:=hr.len
 refine pGet_v c1 c2 (fun c hc=>goes_v (hd c hc) (ready_host h1)) hl (LineA.lineSort_v ?_)
 have:=List.length_filter_le (fun c=>goesF c f now) L
 rw [List.length_map]
 omega
def SmallT (L:List Cookie):Prop:=∀ c∈L,(c.name.length≤1048576∧c.value.length≤1048576)∧c.domain.length≤1048576
theorem SmallT.dom {L:List Cookie} (h:SmallT L):∀ c∈L,c.domain.length≤4398046511104:=fun c hc=>by have:=(h c hc).2;omega
theorem told_small {L:List Cookie} {f:From} {now:Int} (h:SmallT L) (hl:L.length≤12):SmallC (toldF f now L):=by
 refine ⟨Nat.le_trans told_len (by omega),fun c hc=>?_⟩
 obtain ⟨d,hd,_,rfl⟩:=told_at hc
 exact (h d hd).1
theorem live_right {L:List Cookie} {nx now:Int} (h:checkJ L nx=0):checkJ (liveF now L) nx=0:=check_zero.2 (Rj.sub (check_zero.1 h) (live_sub now L))
theorem SmallT.live {L:List Cookie} (h:SmallT L) (now:Int):SmallT (liveF now L):=fun c hc=>h c ((live_sub now L).subset hc)
theorem purged_at {S:List Suffix} {L:List Cookie} {nx:Int} {p:Pol} {g:Int} {P:Nat→Bool} {U:List Int} {t:Int} (h:OkS S L nx p g P U t) (hs:SmallT L) (now:Int):ACallsG Tryz.prog gStr 39 [stV S L nx p g P U now] (jarV (liveF now L) nx):=by
 have hr:Rj L nx:=check_zero.1 h.jar
 have:=purged_v (S:=S) (nx:=nx) (g:=g) (P:=P) (U:=U) (t:=now) (check_ok h.pol) hr.len hs.dom (mom_of hr)
 rw [kept_now h.kept] at this
 exact this
abbrev askedL (f:From) (now:Int) (L:List Cookie):List Cookie:=(liveF now L).map (useF (fun c=>goesF c f now) now)
theorem ask_ok {S:List Suffix} {L:List Cookie} {nx:Int} {p:Pol} {g:Int} {P:Nat→Bool} {U:List Int} {t now:Int} {f:From} (h:OkS S L nx p g P U t) (hs:SmallT L) (hE:codeE [] f=0) (hn:isJ now=true) (ht:t≤now) (hr:readyF f now=0) :
  ACallsG Tryz.prog gStr 16 [stV S L nx p g P U t,evV 2 now [] f] (.tup [stV S (askedL f now L) nx p g P U now,strT (lineT (toldF f now L)),.int .i64 0]):=by
 have ce:=echeck_v (k:=2) (named2_v (now:=now) (f:=f)) (by decide) (by decide)
 rw [hE] at ce
 have cp:=purged_at h hs now
 have cg:=get_ok (L:=liveF now L) (f:=f) (fun c hc=>by have:=((hs.live now) c hc).2;omega) (live_right h.jar) hr
 have cw:=LineC.write_v (told_small (f:=f) (now:=now) hs (Rj.len (check_zero.1 h.jar)))
 rw [show toldF f now (liveF now L)=toldF f now L by unfold toldF;rw [go_live]] at cg
 exact apply_ok ce hn ht (own_at h) (do2_m cp (askOk_m cg cw))
theorem ask_bad {S:List Suffix} {L:List Cookie} {nx:Int} {p:Pol} {g:Int} {P:Nat→Bool} {U:List Int} {t now:Int} {f:From} (h:OkS S L nx p g P U t) (hs:SmallT L) (hE:codeE [] f=0) (hn:isJ now=true) (ht:t≤now) (hr:readyF f now≠0) :
  ACallsG Tryz.prog gStr 16 [stV S L nx p g P U t,evV 2 now [] f] (.tup [st0,strT [],.int .i64 (readyF f now)]):=by
 have ce:=echeck_v (k:=2) (named2_v (now:=now) (f:=f)) (by decide) (by decide)
 rw [hE] at ce
 have cp:=purged_at h hs now
 have c1:=jcheck_v (L:=liveF now L) (nx:=nx)
 rw [live_right h.jar] at c1
 have cg:=pGetBad2_v c1 (ready_v (f:=f) (now:=now)) hr
 exact apply_bad ce hn ht (own_at h) (do2_m cp (askNo_m (cg gStr) hr)) hr
theorem okS:OkS S0 [] 0 pR 1000 PA UA 1000:=code_ok (by kernel_rfl)
theorem ok1:OkS S0 [k1] 1 pR 1000 PA UA 1000:=code_ok (by kernel_rfl)
abbrev fA:From:=⟨([97,46,115,104,111,112,46,99,111,109]:List UInt8),([47,99,97,114,116,47,120]:List UInt8),true,false,false⟩
abbrev k2:Cookie:=⟨([105,100]:List UInt8),([55]:List UInt8),([115,104,111,112,46,99,111,109]:List UInt8),([47,99,97,114,116]:List UInt8),false,true,false,false,0,1100,1000,1001,0⟩
theorem ok2:OkS S0 [k2] 1 pR 1000 PA UA 1001:=code_ok (by kernel_rfl)
theorem ok3:OkS S0 [] 1 pR 1000 PA UA 1100:=code_ok (by kernel_rfl)
theorem sm0:SmallT []:=fun c hc=>by cases hc
theorem sm1:SmallT [k1]:=fun c hc=>by obtain rfl:=List.mem_singleton.1 hc;exact ⟨⟨by decide,by decide⟩,by decide⟩
theorem sm2:SmallT [k2]:=fun c hc=>by obtain rfl:=List.mem_singleton.1 hc;exact ⟨⟨by decide,by decide⟩,by decide⟩
theorem p1:ACallsG Tryz.prog gStr 16 [stV S0 [] 0 pR 1000 PA UA 1000,evV 1 1000 tX fX] (.tup [stV S0 [k1] 1 pR 1000 PA UA 1000,strT [],.int .i64 0]):=by
 have ce:=echeck_v (k:=1) (named1_v (now:=1000) (s:=tX) (f:=fX)) (by decide) (by decide)
 rw [show codeE tX fX=0 by decide] at ce
 exact apply_ok ce rfl (by decide) (own_at okS) do1_m
theorem p2:ACallsG Tryz.prog gStr 16 [stV S0 [k1] 1 pR 1000 PA UA 1000,evV 2 1001 [] fA] (.tup [stV S0 [k2] 1 pR 1000 PA UA 1001,strT ([105,100,61,55]:List UInt8),.int .i64 0]):=by
 have h:=ask_ok (now:=1001) (f:=fA) ok1 sm1 (by decide) rfl (by decide) (by kernel_rfl)
 rw [show askedL fA 1001 [k1]=[k2] by kernel_rfl,show lineT (toldF fA 1001 [k1])=([105,100,61,55]:List UInt8) by kernel_rfl] at h
 exact h
theorem tick_at {S:List Suffix} {L:List Cookie} {nx:Int} {p:Pol} {g:Int} {P:Nat→Bool} {U:List Int} {t now:Int} (h:OkS S L nx p g P U t) (hs:SmallT L) (hn:isJ now=true) (ht:t≤now) :
  ACallsG Tryz.prog gStr 16 [stV S L nx p g P U t,evV 5 now [] f0] (.tup [stV S (liveF now L) nx p g P U now,strT [],.int .i64 0]):=by
 have ce:=echeck_v (k:=5) (named5_v (now:=now)) (by decide) (by decide)
 rw [show codeE [] f0=0 by decide] at ce
 exact apply_ok ce hn ht (own_at h) (do5_m (purged_at h hs now))
theorem tick_no {S:List Suffix} {L:List Cookie} {nx:Int} {p:Pol} {g:Int} {P:Nat→Bool} {U:List Int} {t now:Int} (h:OkS S L nx p g P U t) (hn:isJ now=true) (ht:now<t) :
  ACalls Tryz.prog 16 [stV S L nx p g P U t,evV 5 now [] f0] (.tup [st0,strT [],.int .i64 4]):=by
 have ce:=echeck_v (k:=5) (named5_v (now:=now)) (by decide) (by decide)
 rw [show codeE [] f0=0 by decide] at ce
 exact apply_no3 ce hn ht (own_at h)
theorem p3:ACallsG Tryz.prog gStr 16 [stV S0 [k2] 1 pR 1000 PA UA 1001,evV 5 999 [] f0] (.tup [st0,strT [],.int .i64 4]):=tick_no ok2 rfl (by decide) gStr
theorem p4:ACallsG Tryz.prog gStr 16 [stV S0 [k2] 1 pR 1000 PA UA 1001,evV 5 1100 [] f0] (.tup [stV S0 [] 1 pR 1000 PA UA 1100,strT [],.int .i64 0]):=by
 have h:=tick_at (now:=1100) ok2 sm2 rfl (by decide)
 rw [show liveF 1100 [k2]=[] by kernel_rfl] at h
 exact h
theorem p5:ACallsG Tryz.prog gStr 16 [stV S0 [] 1 pR 1000 PA UA 1100,evV 2 1100 [] fA] (.tup [stV S0 [] 1 pR 1000 PA UA 1100,strT [],.int .i64 0]):=by
 have h:=ask_ok (now:=1100) (f:=fA) ok3 sm0 (by decide) rfl (by decide) (by kernel_rfl)
 rw [show askedL fA 1100 []=[] by kernel_rfl,show lineT (toldF fA 1100 [])=[] by kernel_rfl] at h
 exact h
theorem gc0:ACallsG Tryz.prog gStr 12 [stV S0 [] 0 pR 1000 PA UA 1000] (.int .i64 0):=by
 have h:=gcheck_v (S:=S0) (L:=[]) (nx:=0) (p:=pR) (g:=1000) (P:=PA) (U:=UA) (t:=1000) sm0.dom
 rw [show codeS S0 [] 0 pR 1000 PA UA 1000=0 by kernel_rfl] at h
 exact h
theorem gc1:ACallsG Tryz.prog gStr 12 [stV S0 [k1] 1 pR 1000 PA UA 1000] (.int .i64 0):=by
 have h:=gcheck_v (S:=S0) (L:=[k1]) (nx:=1) (p:=pR) (g:=1000) (P:=PA) (U:=UA) (t:=1000) sm1.dom
 rw [show codeS S0 [k1] 1 pR 1000 PA UA 1000=0 by kernel_rfl] at h
 exact h
abbrev bV:Abs.V:=.agg (.fro (S0.map Suffix.v) :: .nils::(stC S0 [] 0 pR 1000 PA UA 1000).drop 2)
theorem gcB:ACallsG Tryz.prog gStr 12 [bV] (.int .i64 0):=gc0.nf rfl
theorem owB:ACalls Tryz.prog 44 [bV] (stV S0 [] 0 pR 1000 PA UA 1000):=(own_at okS).nf rfl
theorem rules_v:ACalls Tryz.prog 47 [] (polV pR):=by
 refine fun0 tb_ok Tryz.func47 rfl Tryz.ntmps47 Tryz.results47 fun N=>?_
 repeat' (first|refine zt ?_|(refine isR ?_;first|refine zo ?_|refine x_bs tb_ok ?_)|refine zr ?_|exact x_le)
 all_goals rfl
theorem agreed_v:ACalls Tryz.prog 48 [] (conI 1000 PA UA):=by
 refine fun0 tb_ok Tryz.func48 rfl Tryz.ntmps48 Tryz.results48 fun N=>?_
 repeat' (first|refine zt ?_|(refine isR ?_;first|refine zo ?_|refine x_bs tb_ok ?_)|refine zr ?_|exact x_le)
 all_goals rfl
theorem sufs_v:ACalls Tryz.prog 46 [] (.fro (S0.map Suffix.v)):=by
 refine fun0 tb_ok Tryz.func46 rfl Tryz.ntmps46 Tryz.results46 fun N=>?_
 repeat' (first|refine zt ?_|(refine isR ?_;first|refine zo ?_|refine x_bs tb_ok ?_)|refine zr ?_|exact x_le)
 all_goals rfl
theorem begin_v:ACalls Tryz.prog 18 [] bV:=by
 have c1:=rules_v
 have c2:=agreed_v
 have c3:=sufs_v
 refine fun0 tb_ok Tryz.func18 rfl Tryz.ntmps18 Tryz.results18 fun N=>?_
 repeat' (first|refine zt ?_|(refine isR ?_;first|refine zo ?_|refine zk c1 ?_|refine zk c2 ?_|refine zk c3 ?_)|refine zr ?_|exact x_le)
 all_goals rfl
theorem shopX_v:ACalls Tryz.prog 17 [] fX.v:=by
 refine fun0 tb_ok Tryz.func17 rfl Tryz.ntmps17 Tryz.results17 fun N=>?_
 repeat' (first|refine zt ?_|(refine isR ?_;first|refine zo ?_)|refine zr ?_|exact x_le)
 rfl
theorem tickE_v {n:Int}:ACalls Tryz.prog 13 [.int .i64 n] (evN 5 n [] f0):=by
 refine fun1 tb_ok Tryz.func13 rfl Tryz.ntmps13 Tryz.results13 rfl fun N=>?_
 repeat' (first|refine zt ?_|(refine isR ?_;first|refine zo ?_)|refine zr ?_|exact x_le)
 rfl
abbrev outT:List UInt8:=[10,105,100,61,55,10,101,114,114,111,114,32,52,10,10,10]
theorem play_c:ACallsG Tryz.prog gStr 19 [bV,.fro [evN 1 1000 tX fX,evN 2 1001 [] fA,evN 5 999 [] f0,evN 5 1100 [] f0,evN 2 1100 [] fA]] (.tup [stV S0 [] 1 pR 1000 PA UA 1100,strT outT,.int .i64 0]):=by
 have c0:=gcB
 have c1:=owB
 have q1:ACallsG Tryz.prog gStr _ [stV S0 [] 0 pR 1000 PA UA 1000,evN 1 1000 tX fX] _:=p1.nf rfl
 have q2:ACallsG Tryz.prog gStr _ [stV S0 [k1] 1 pR 1000 PA UA 1000,evN 2 1001 [] fA] _:=p2.nf rfl
 have q3:ACallsG Tryz.prog gStr _ [stV S0 [k2] 1 pR 1000 PA UA 1001,evN 5 999 [] f0] _:=p3.nf rfl
 have q4:ACallsG Tryz.prog gStr _ [stV S0 [k2] 1 pR 1000 PA UA 1001,evN 5 1100 [] f0] _:=p4.nf rfl
 have q5:ACallsG Tryz.prog gStr _ [stV S0 [] 1 pR 1000 PA UA 1100,evN 2 1100 [] fA] _:=p5.nf rfl
 have ci:ACallsG Tryz.prog gStr 50 [.int .i64 4] (strT [52]):=by
  have h:=itoa_v (n:=4)
  rw [show digits 4=[52] by kernel_rfl] at h
  exact h
 have w1:=write0 (q:=[10]) (by decide)
 have w2:=write1 (p:=[10]) (q:=[105,100,61,55,10]) (by decide)
 have w3:=write1 (p:=[10,105,100,61,55,10]) (q:=[101,114,114,111,114,32,52,10]) (by decide)
 have w4:=write1 (p:=[10,105,100,61,55,10,101,114,114,111,114,32,52,10]) (q:=[10]) (by decide)
 have w5:=write1 (p:=[10,105,100,61,55,10,101,114,114,111,114,32,52,10,10]) (q:=[10]) (by decide)
 have w6:=string1 (p:=outT) (by decide)
 have hl:([evN 1 1000 tX fX,evN 2 1001 [] fA,evN 5 999 [] f0,evN 5 1100 [] f0,evN 2 1100 [] fA]:List Abs.V).length=5:=rfl
 refine funG2 tb_ok Tryz.func19 rfl Tryz.ntmps19 Tryz.results19 rfl fun N=>?_
 repeat' (first|with_reducible refine rounds_on ?_|with_reducible refine awp_rounds 6 ?_|refine zt ?_|(refine isR ?_;first|refine x_far [2] tb_ok rfl ?_|refine zn ?_|refine zk c0 ?_|refine zk c1 ?_|refine zk q1 ?_|refine zk q2 ?_|refine zk q3 ?_|refine zk q4 ?_|refine zk q5 ?_|refine zk ci ?_|refine x_m [2] [5] (w1 _) ?_|refine x_m [2] [5] (w1) ?_|refine x_m [2,5] [8] (w2 _) ?_|refine x_m [2,5] [8] (w2) ?_|refine x_m [2,8] [11] (w3 _) ?_|refine x_m [2,8] [11] (w3) ?_|refine x_m [2,11] [14] (w4 _) ?_|refine x_m [2,11] [14] (w4) ?_|refine x_m [2,14] [17] (w5 _) ?_|refine x_m [2,14] [17] (w5) ?_|refine x_m [2,17] [] (w6 _) ?_|refine x_m [2,17] [] (w6) ?_|refine zA ?_|refine zL ?_|refine zc1 ?_|refine zc3 ?_|refine zc5 ?_|refine zc6 ?_|refine zI ?_)|refine zr ?_|exact x_le)
 all_goals first|rfl|(exfalso;omega)
theorem begun_v:ACallsG Tryz.prog gStr 7 [] (.bool true):=by
 have b0:=begin_v
 have b1:=shopX_v
 have b2:=tickE_v (n:=999)
 have b3:=tickE_v (n:=1100)
 have x1:ACallsG Tryz.prog gStr 6 [bV,evN 1 1000 tX fX] _:=(Apply_ok gc0 p1).nf rfl
 have x2:ACallsG Tryz.prog gStr 6 [stV S0 [k1] 1 pR 1000 PA UA 1000,evN 2 1001 [] fA] _:=(Apply_ok gc1 p2).nf rfl
 have x3:ACallsG Tryz.prog gStr 6 [stV S0 [k1] 1 pR 1000 PA UA 1000,evN 5 999 [] f0] _:=(Apply_bad gc1 (tick_no ok1 rfl (by decide) gStr)).nf rfl
 have x4:=play_c
 have x5:=gcB
 have e1:k1.expiry=1100:=rfl
 have e2:k2.used=1001:=rfl
 refine funG0 tb_ok Tryz.func7 rfl Tryz.ntmps7 Tryz.results7 fun N=>?_
 repeat' (first|refine zt ?_|(refine isR ?_;first|refine zo ?_|refine zk b0 ?_|refine zk b1 ?_|refine zk b2 ?_|refine zk b3 ?_|refine zk x1 ?_|refine zk x2 ?_|refine zk x3 ?_|refine zk x4 ?_|refine zk x5 ?_|refine x_bs tb_ok ?_|refine zL ?_|refine zc5 ?_|refine zI ?_|(refine zs5 ?_ ?_<;>intro hc))|refine zr ?_|exact x_le)
 all_goals first|rfl|(exfalso;omega)|(exfalso;simp_all;done)
end Go.Proofs.YtlfdjpgghiemfaaGreatDoor.GovD
end
section
namespace Go.Proofs.YtlfdjpgghiemfaaGreatDoor.GovV
open Go.RowKit Mem Abs Globs HostP HostC PathT Rdy Scan JarP JarQ JarA JarB JarC JarE JarL JarM PolP PolA PolB PurA RjP GovP GovA GovB GovD GoesW SortP SortW LineP LineB TreeW WordP WordS
open ConC (conI intsV)
theorem giveOk_m {Γ:Glob} {S:List Suffix} {L K:List Cookie} {nx:Int} {p:Pol} {g g2:Int} {P P2:Nat→Bool} {U U2:List Int} {t now:Int} {s T:List UInt8} (cr:ACalls Tryz.prog 112 [strT s] (.tup [conI g2 P2 U2,.int .i64 0])) (hg:g≤g2) (cp:ACallsG Tryz.prog Γ 39 [stV S L nx p g2 P2 U2 t] (jarV K nx)) :
  MCallsG Tryz.prog Γ 84 [.loc 0 0 0,evV 3 now s f0] [rG S L nx p g P U t T] (.int .i64 0) [some (rG S K nx p g2 P2 U2 t T)]:=by
 refine mfunG tb_ok Tryz.func84 rfl Tryz.ntmps84 Tryz.results84 rfl rfl rfl rfl fun N pl=>?_
 repeat' (first|refine zt ?_|(refine isR ?_;first|refine zo ?_|refine zk cr ?_|refine zk cp ?_|refine zc1 ?_|refine zc6 ?_)|refine x_mret [0] ?_ ?_|exact x_le)
 all_goals first|rfl|exact .on (.ren rfl) .nil|(exfalso;omega)
theorem giveNo_m {Γ:Glob} {S:List Suffix} {L:List Cookie} {nx:Int} {p:Pol} {g g2:Int} {P P2:Nat→Bool} {U U2:List Int} {t now e:Int} {s T:List UInt8} (cr:ACalls Tryz.prog 112 [strT s] (.tup [conI g2 P2 U2,.int .i64 e])) (he:e≠0) :
  MCallsG Tryz.prog Γ 84 [.loc 0 0 0,evV 3 now s f0] [rG S L nx p g P U t T] (.int .i64 e) [some (rG S L nx p g P U t T)]:=by
 refine mfunG tb_ok Tryz.func84 rfl Tryz.ntmps84 Tryz.results84 rfl rfl rfl rfl fun N pl=>?_
 repeat' (first|refine zt ?_|(refine isR ?_;first|refine zo ?_|refine zk cr ?_|refine zc6 ?_)|refine x_mret [0] ?_ ?_|exact x_le)
 all_goals first|rfl|exact .on (.ren rfl) .nil|(exfalso;omega)
theorem giveLess_m {Γ:Glob} {S:List Suffix} {L:List Cookie} {nx:Int} {p:Pol} {g g2:Int} {P P2:Nat→Bool} {U U2:List Int} {t now:Int} {s T:List UInt8} (cr:ACalls Tryz.prog 112 [strT s] (.tup [conI g2 P2 U2,.int .i64 0])) (hg:g2<g) :
  MCallsG Tryz.prog Γ 84 [.loc 0 0 0,evV 3 now s f0] [rG S L nx p g P U t T] (.int .i64 4) [some (rG S L nx p g P U t T)]:=by
 refine mfunG tb_ok Tryz.func84 rfl Tryz.ntmps84 Tryz.results84 rfl rfl rfl rfl fun N pl=>?_
 repeat' (first|refine zt ?_|(refine isR ?_;first|refine zo ?_|refine zk cr ?_|refine zc1 ?_|refine zc6 ?_)|refine x_mret [0] ?_ ?_|exact x_le)
 all_goals first|rfl|exact .on (.ren rfl) .nil|(exfalso;omega)
theorem do3_m {Γ:Glob} {S:List Suffix} {L K L2:List Cookie} {nx:Int} {p:Pol} {g g2:Int} {P P2:Nat→Bool} {U U2:List Int} {t now e:Int} {s T:List UInt8} (cp:ACallsG Tryz.prog Γ 39 [stV S L nx p g P U now] (jarV K nx)) (ca:MCallsG Tryz.prog Γ 84 [.loc 0 0 0,evV 3 now s f0] [rG S K nx p g P U now T] (.int .i64 e) [some (rG S L2 nx p g2 P2 U2 now T)]) :
  MCallsG Tryz.prog Γ 45 [.loc 0 0 0,evV 3 now s f0] [rG S L nx p g P U t T] (.int .i64 e) [some (rG S L2 nx p g2 P2 U2 now T)]:=by
 refine mfunG tb_ok Tryz.func45 rfl Tryz.ntmps45 Tryz.results45 rfl rfl rfl rfl fun N pl=>?_
 repeat' (first|refine zt ?_|(refine isR ?_;first|refine zo ?_|refine zk cp ?_|refine x_mv [0] [] (ca _) ?_|refine x_mv [0] [] (ca) ?_|refine zI ?_)|refine x_mret [0] ?_ ?_|exact x_le)
 all_goals first|rfl|exact .on (.ren rfl) .nil
theorem no1_v {S:List Suffix} {L:List Cookie} {nx:Int} {p:Pol} {g:Int} {P:Nat→Bool} {U:List Int} {t now later e:Int} {s:List UInt8} {f:From} (c:ACallsG Tryz.prog gStr 6 [stV S L nx p g P U t,evV 3 now s f0] (.tup [st0,strT [],.int .i64 e])) (he:e≠0) :
  ACallsG Tryz.prog gStr 5 [stV S L nx p g P U t,strT s,.int .i64 now,f.v,.int .i64 later] (.bool true):=by
 have c1:ACallsG Tryz.prog gStr _ [stV S L nx p g P U t,evN 3 now s f0] _:=c.nf rfl
 have c2:=begun_v
 refine funG5 tb_ok Tryz.func5 rfl Tryz.ntmps5 Tryz.results5 rfl fun N=>?_
 repeat' (first|refine zt ?_|(refine isR ?_;first|refine zo ?_|refine zk c1 ?_|refine zk c2 ?_|refine zc6 ?_)|refine zr ?_|exact x_le)
 all_goals first|rfl|(exfalso;omega)
theorem no2_v {S:List Suffix} {L L1:List Cookie} {nx:Int} {p:Pol} {g g2:Int} {P P2:Nat→Bool} {U U2:List Int} {t now later e:Int} {s:List UInt8} {f:From} (c:ACallsG Tryz.prog gStr 6 [stV S L nx p g P U t,evV 3 now s f0] (.tup [stV S L1 nx p g2 P2 U2 now,strT [],.int .i64 0]))
  (d:ACallsG Tryz.prog gStr 6 [stV S L1 nx p g2 P2 U2 now,evV 2 later [] f] (.tup [st0,strT [],.int .i64 e])) (he:e≠0) :
  ACallsG Tryz.prog gStr 5 [stV S L nx p g P U t,strT s,.int .i64 now,f.v,.int .i64 later] (.bool true):=by
 have c1:ACallsG Tryz.prog gStr _ [stV S L nx p g P U t,evN 3 now s f0] _:=c.nf rfl
 have d1:ACallsG Tryz.prog gStr _ [stV S L1 nx p g2 P2 U2 now,evN 2 later [] f] _:=d.nf rfl
 have c2:=begun_v
 refine funG5 tb_ok Tryz.func5 rfl Tryz.ntmps5 Tryz.results5 rfl fun N=>?_
 repeat' (first|refine zt ?_|(refine isR ?_;first|refine zo ?_|refine zk c1 ?_|refine zk d1 ?_|refine zk c2 ?_|refine zc5 ?_|refine zc6 ?_)|refine zr ?_|exact x_le)
 all_goals first|rfl|(exfalso;omega)|(exfalso;simp_all;done)
abbrev TS:Nat:=35
abbrev rS (S:List Suffix) (L:List Cookie) (nx:Int) (p:Pol) (g:Int) (P:Nat→Bool) (U:List Int) (t:Int):Blk:=.els TS 29 [stV S L nx p g P U t]
def hit (q:Attr) (x:Cookie):Bool:=decide (x.name=q.name)&&decide (x.value=q.value)
theorem any_on {B:List Cookie} {q:Attr} {k:Nat} {x:Cookie} (h:B[k]? = some x):(B.take (k+1)).any (hit q)=((B.take k).any (hit q)||hit q x):=by
 rw [List.take_add_one,h,List.any_append]
 simp
theorem pos_no {c:UInt8} {l:List UInt8}:¬ 0≤posB c l↔l.contains c=false:=by
 rw [← pos_none]
 omega
theorem yes_v {S:List Suffix} {L L1 B:List Cookie} {Q:List Attr} {nx:Int} {p:Pol} {g g2:Int} {P P2:Nat→Bool} {U U2:List Int} {t now later h:Int} {s T:List UInt8} {f:From} (c:ACallsG Tryz.prog gStr 6 [stV S L nx p g P U t,evV 3 now s f0] (.tup [stV S L1 nx p g2 P2 U2 now,strT [],.int .i64 0]))
  (d:ACallsG Tryz.prog gStr 6 [stV S L1 nx p g2 P2 U2 now,evV 2 later [] f] (.tup [stV S B nx p g2 P2 U2 later,strT T,.int .i64 0]))
  (cr:ACalls Tryz.prog 14 [strT T] (.tup [.fro (Q.map Attr.v),.int .i64 h])) (hB:B.length≤100)
  (hF:(∀ x∈B,FairC x)→h=2∨(h=0∧Q.length≤100∧∀ q∈Q,B.any (hit q)=true)) (hl:∀ x∈B,ACallsG Tryz.prog gStr 10 [polV p,conI g2 P2 U2,x.v] (.bool true)) :
  ACallsG Tryz.prog gStr 5 [stV S L nx p g P U t,strT s,.int .i64 now,f.v,.int .i64 later] (.bool true):=by
 have c1:ACallsG Tryz.prog gStr _ [stV S L nx p g P U t,evN 3 now s f0] _:=c.nf rfl
 have d1:ACallsG Tryz.prog gStr _ [stV S L1 nx p g2 P2 U2 now,evN 2 later [] f] _:=d.nf rfl
 have c2:=begun_v
 have hmb:(B.map Cookie.v).length=B.length:=List.length_map _
 have hmq:(Q.map Attr.v).length=Q.length:=List.length_map _
 refine funG5 tb_ok Tryz.func5 rfl Tryz.ntmps5 Tryz.results5 rfl fun N=>?_
 repeat' (first|refine zt ?_|(refine isR ?_;first|refine zo ?_|refine zk c1 ?_|refine zk d1 ?_|refine zk c2 ?_|refine zk cr ?_|refine zA ?_|refine zL ?_|refine zc1 ?_|refine zc4 ?_|refine zc5 ?_|refine zc6 ?_|refine zI ?_)|refine zr ?_|exact x_le)
 refine awp_forN (fun i=>⟨[(11,.loc 0 0 0),(14,.loc 1 0 0),(17,.fro (Q.map Attr.v)),(18,.int .i64 h),(19,nV i)],[(0,some (rS S L1 nx p g2 P2 U2 now)),(1,some (rS S B nx p g2 P2 U2 later))],2,146⟩) (fun i=>i≤B.length∧∀ j x,j<i→B[j]? = some x→FairC x) B.length 0 (by exact x_le) ⟨Nat.zero_le _,fun j x hj=>by omega⟩ ?_
 rintro i ⟨hi,hf⟩
 by_cases hi2:i<B.length
 ·have hx:B[i]? = some B[i]:=by simp [hi2]
  generalize B[i]=x at *
  have hm:=at_map (f:=Cookie.v) hx
  have e1:=placeOf_v (c:=59) (l:=x.name)
  have e2:=placeOf_v (c:=61) (l:=x.name)
  have e3:=placeOf_v (c:=59) (l:=x.value)
  have p1:=pos_no (c:=59) (l:=x.name)
  have p2:=pos_no (c:=61) (l:=x.name)
  have p3:=pos_no (c:=59) (l:=x.value)
  generalize posB 59 x.name=q1 at *
  generalize posB 61 x.name=q2 at *
  generalize posB 59 x.value=q3 at *
  by_cases n0:x.name=[]
  ·skip
   repeat' (first|refine zt ?_|(refine isR ?_;first|refine zo ?_|refine zk e1 ?_|refine zk e2 ?_|refine zk e3 ?_|refine zA ?_|refine zL ?_|refine zc1 ?_|refine zc4 ?_|refine zc5 ?_|refine zc6 ?_|refine zI ?_)|refine zr ?_|exact x_le)
   all_goals first|rfl|(exfalso;omega)
  by_cases n1:0≤q1
  ·skip
   repeat' (first|refine zt ?_|(refine isR ?_;first|refine zo ?_|refine zk e1 ?_|refine zk e2 ?_|refine zk e3 ?_|refine zA ?_|refine zL ?_|refine zc1 ?_|refine zc4 ?_|refine zc5 ?_|refine zc6 ?_|refine zI ?_)|refine zr ?_|exact x_le)
   all_goals first|rfl|(exfalso;omega)
  by_cases n2:0≤q2
  ·skip
   repeat' (first|refine zt ?_|(refine isR ?_;first|refine zo ?_|refine zk e1 ?_|refine zk e2 ?_|refine zk e3 ?_|refine zA ?_|refine zL ?_|refine zc1 ?_|refine zc4 ?_|refine zc5 ?_|refine zc6 ?_|refine zI ?_)|refine zr ?_|exact x_le)
   all_goals first|rfl|(exfalso;omega)
  by_cases n3:0≤q3
  ·skip
   repeat' (first|refine zt ?_|(refine isR ?_;first|refine zo ?_|refine zk e1 ?_|refine zk e2 ?_|refine zk e3 ?_|refine zA ?_|refine zL ?_|refine zc1 ?_|refine zc4 ?_|refine zc5 ?_|refine zc6 ?_|refine zI ?_)|refine zr ?_|exact x_le)
   all_goals first|rfl|(exfalso;omega)
  repeat' (first|refine zt ?_|(refine isR ?_;first|refine zo ?_|refine zk e1 ?_|refine zk e2 ?_|refine zk e3 ?_|refine zA ?_|refine zL ?_|refine zc1 ?_|refine zc4 ?_|refine zc5 ?_|refine zc6 ?_|refine zI ?_)|refine zr ?_|exact x_le)
  refine ⟨⟨by omega,fun j y hj hy=>?_⟩,hi2,?_⟩
  ·by_cases ej:j=i
   ·subst ej
    rw [hx] at hy
    cases hy
    exact ⟨n0,p1.1 n1,p2.1 n2,p3.1 n3⟩
   ·exact hf j y (by omega) hy
  ·exact (by exact x_len [0,1])
 obtain rfl:i=B.length:=by omega
 have hF2:=hF fun x hx=>by
  obtain ⟨j,hj,rfl⟩:=List.mem_iff_getElem.1 hx
  exact hf j _ hj (by simp [hj])
 clear hf hi hi2 hF
 rcases hF2 with rfl|⟨rfl,hQ,hF2⟩
 ·skip
  repeat' (first|refine zt ?_|(refine isR ?_;first|refine zo ?_|refine zA ?_|refine zL ?_|refine zc1 ?_|refine zc4 ?_|refine zc5 ?_|refine zc6 ?_|refine zI ?_)|refine zr ?_|exact x_le)
  all_goals first|rfl|(exfalso;omega)
 repeat' (first|refine zt ?_|(refine isR ?_;first|refine zo ?_|refine zA ?_|refine zL ?_|refine zc1 ?_|refine zc4 ?_|refine zc5 ?_|refine zc6 ?_|refine zI ?_)|refine zr ?_|exact x_le)
 refine awp_forN (fun i=>⟨[(11,.loc 0 0 0),(14,.loc 1 0 0),(17,.fro (Q.map Attr.v)),(21,nV i)],[(0,some (rS S L1 nx p g2 P2 U2 now)),(1,some (rS S B nx p g2 P2 U2 later))],2,146⟩) (fun i=>i≤Q.length) Q.length 0 (by exact x_le) (Nat.zero_le _) ?_
 intro i hi
 by_cases hi2:i<Q.length
 ·have hq:Q[i]? = some Q[i]:=by simp [hi2]
  have hany:=hF2 Q[i] (List.getElem_mem hi2)
  generalize Q[i]=q at *
  have hmi:=at_map (f:=Attr.v) hq
  repeat' (first|refine zt ?_|(refine isR ?_;first|refine zo ?_|refine zA ?_|refine zL ?_|refine zc1 ?_|refine zc4 ?_|refine zc5 ?_|refine zc6 ?_|refine zI ?_)|refine zr ?_|exact x_le)
  refine awp_forN (fun k=>⟨[(11,.loc 0 0 0),(14,.loc 1 0 0),(17,.fro (Q.map Attr.v)),(21,nV i),(22,.bool ((B.take k).any (hit q))),(23,nV k)],[(0,some (rS S L1 nx p g2 P2 U2 now)),(1,some (rS S B nx p g2 P2 U2 later))],2,146⟩) (fun k=>k≤B.length) B.length 0 (by exact x_le) (Nat.zero_le _) ?_
  intro k hk
  by_cases hk2:k<B.length
  ·have hx:B[k]? = some B[k]:=by simp [hk2]
   have hlx:=hl B[k] (List.getElem_mem hk2)
   have hon:=any_on (q:=q) hx
   generalize B[k]=x at *
   have hm:=at_map (f:=Cookie.v) hx
   generalize (B.take (k+1)).any (hit q)=w2 at *
   generalize (B.take k).any (hit q)=w at *
   subst hon
   cases w with
   | true =>
    repeat' (first|refine zt ?_|(refine isR ?_;first|refine zo ?_|refine zA ?_|refine zL ?_|refine zc1 ?_|refine zc4 ?_|refine zc5 ?_|refine zc6 ?_|refine zI ?_)|refine zr ?_|exact x_le)
    refine ⟨by omega,hk2,?_⟩
    exact (by exact x_len [0,1])
   | false =>
    unfold hit
    by_cases n1:x.name=q.name
    ·rw [decide_eq_true n1]
     by_cases n2:x.value=q.value
     ·rw [decide_eq_true n2]
      repeat' (first|refine zt ?_|(refine isR ?_;first|refine zo ?_|refine zk hlx ?_|refine zA ?_|refine zL ?_|refine zc1 ?_|refine zc4 ?_|refine zc5 ?_|refine zc6 ?_|refine zI ?_)|refine zr ?_|exact x_le)
      refine ⟨by omega,hk2,?_⟩
      exact (by exact x_len [0,1])
     ·rw [decide_eq_false n2]
      repeat' (first|refine zt ?_|(refine isR ?_;first|refine zo ?_|refine zk hlx ?_|refine zA ?_|refine zL ?_|refine zc1 ?_|refine zc4 ?_|refine zc5 ?_|refine zc6 ?_|refine zI ?_)|refine zr ?_|exact x_le)
      refine ⟨by omega,hk2,?_⟩
      exact (by exact x_len [0,1])
    ·rw [decide_eq_false n1]
     repeat' (first|refine zt ?_|(refine isR ?_;first|refine zo ?_|refine zk hlx ?_|refine zA ?_|refine zL ?_|refine zc1 ?_|refine zc4 ?_|refine zc5 ?_|refine zc6 ?_|refine zI ?_)|refine zr ?_|exact x_le)
     refine ⟨by omega,hk2,?_⟩
     exact (by exact x_len [0,1])
  ·obtain rfl:k=B.length:=by omega
   rw [List.take_length,hany]
   repeat' (first|refine zt ?_|(refine isR ?_;first|refine zo ?_|refine zA ?_|refine zL ?_|refine zc1 ?_|refine zc4 ?_|refine zc5 ?_|refine zc6 ?_|refine zI ?_)|refine zr ?_|exact x_le)
   refine ⟨by omega,hi2,?_⟩
   exact (by exact x_len [0,1])
 ·obtain rfl:i=Q.length:=by omega
  repeat' (first|refine zt ?_|(refine isR ?_;first|refine zo ?_|refine zA ?_|refine zL ?_|refine zc1 ?_|refine zc4 ?_|refine zc5 ?_|refine zc6 ?_|refine zI ?_)|refine zr ?_|exact x_le)
  all_goals rfl
end Go.Proofs.YtlfdjpgghiemfaaGreatDoor.GovV
end
