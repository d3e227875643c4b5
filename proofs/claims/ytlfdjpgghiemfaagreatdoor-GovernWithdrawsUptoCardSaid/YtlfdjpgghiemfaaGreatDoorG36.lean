/- Texts of the proof, joined: CoX. -/
import Derived.Test.YtlfdjpgghiemfaaGreatDoorG14
import Derived.Test.YtlfdjpgghiemfaaGreatDoorG34
import Derived.Test.YtlfdjpgghiemfaaGreatDoorG19
set_option maxHeartbeats 4000000
set_option maxRecDepth 100000
section
namespace Go.Proofs.YtlfdjpgghiemfaaGreatDoor.ConX
open Go.RowKit Mem Abs BitsP BitsS BitsT ConP ConQ ConC ConA ConS ConG ConW
abbrev runV (p:Nat × Nat):Abs.V:=.agg [natV p.1,natV p.2]
abbrev TR:Nat:=248
theorem set_last {α:Type} (d:List α) (x y:α):(d++[x]).set d.length y=d++[y]:=by simp
theorem at_last {α:Type} (d:List α) (x:α):(d++[x])[d.length]? = some x:=by simp
theorem nil_or_last {α:Type} (l:List α):l=[]∨∃ d x,l=d++[x]:=by
 rcases List.eq_nil_or_concat l with h|⟨d,x,h⟩
 ·exact .inl h
 ·exact .inr ⟨d,x,by rw [h,List.concat_eq_append]⟩
theorem runs_v {U:List Nat} (hU:RightN U):ACalls Tryz.prog 201 [natsV U] (.fro ((runsF U).map runV)):=by
 have hf:=right_few hU
 have hml:(U.map natV).length=U.length:=List.length_map _
 refine fun1 tb_ok Tryz.func201 rfl Tryz.ntmps201 Tryz.results201 rfl fun N=>?_
 repeat' (first|refine zt ?_|(refine isR ?_;first|refine zo ?_|refine x_bs tb_ok ?_|refine zA ?_|refine zL ?_|refine zc1 ?_|refine zc3 ?_|refine zc5 ?_|refine zI ?_)|refine zr ?_|exact x_le)
 refine awp_name (t:=2) TR 2 (by decide) rfl rfl ?_
 refine awp_forN (fun k=>⟨[(2,.own 0 0 (runsF (U.take k)).length),(6,natsV U),(7,.int .i64 ((U.map natV).length:Int)),(8,.int .i64 (k:Int))],[(0,some (.els TR 2 ((runsF (U.take k)).map runV)))],1,41⟩) (fun k=>k≤U.length) U.length 0 (by exact x_le) (Nat.zero_le _) ?_
 intro k hk
 by_cases hk2:k<U.length
 ·have hx:U[k]? = some U[k]:=by simp [hk2]
  have hr:=runs_take hx
  have hb:=hU.2 _ (List.getElem_mem hk2)
  have hn:=runs_len (U.take k)
  rw [List.length_take] at hn
  have hall:=runs_all (p:=(· ≤ 40)) (U.take k) fun v hv=>(hU.2 v (List.mem_of_mem_take hv)).2
  generalize U[k]=v at *
  have hm:=at_map (f:=natV) hx
  generalize runsF (U.take k)=r at *
  rcases nil_or_last r with rfl|⟨d,⟨a,b⟩,rfl⟩
  ·have h0:([]:List (Nat × Nat)).length=0:=rfl
   repeat' (first|refine zt ?_|(refine isR ?_;first|refine zo ?_|refine x_app runV (L:=[]) (a1:=(v,v)) tb_ok ?_ (hby:=by show _*(_:Nat)≤_;simp)|refine x_bs tb_ok ?_|refine zA ?_|refine zL ?_|refine zc1 ?_|refine zc3 ?_|refine zc5 ?_|refine zI ?_)|refine zr ?_|exact x_le)
   refine ⟨by omega,hk2,?_⟩
   rw [hr]
   exact (by exact x_len [1])
  ·have hl:(d++[(a,b)]).length=d.length+1:=by simp
   have hlast:=snocR_last d a b v
   have hat:=at_last d (a,b)
   obtain ⟨ha,hb2⟩:=hall (a,b) (by simp)
   have hset:=set_last d (a,b) (a,v)
   have hi:((d.length:Int)+1-1)=(d.length:Int):=by omega
   have hd:d.length≤40:=by omega
   by_cases h:b+1=v
   ·rw [if_pos h] at hlast
    rw [hlast] at hr
    repeat' (first|(refine isR ?_;refine r_val rfl rfl rfl (law_fieldAddr tb_ok rfl rfl rfl rfl rfl) (hT rfl Abs.h0) ?_)|refine zt ?_|(refine isR ?_;first|refine zo ?_|refine x_ldO runV d.length tb_ok ?_|refine x_stO runV (a1:=(a,v)) d.length tb_ok ?_|refine x_bs tb_ok ?_|refine zA ?_|refine zL ?_|refine zc1 ?_|refine zc3 ?_|refine zc5 ?_|refine zI ?_)|refine zr ?_|exact x_le)
    refine ⟨by omega,hk2,?_⟩
    rw [hr,← hset,List.length_set]
    exact (by exact x_len [0])
   ·rw [if_neg h] at hlast
    rw [hlast] at hr
    repeat' (first|(refine isR ?_;refine r_val rfl rfl rfl (law_fieldAddr tb_ok rfl rfl rfl rfl rfl) (hT rfl Abs.h0) ?_)|refine zt ?_|(refine isR ?_;first|refine zo ?_|refine x_ldO runV d.length tb_ok ?_|refine x_app runV (a1:=((v,v))) tb_ok ?_|refine x_bs tb_ok ?_|refine zA ?_|refine zL ?_|refine zc1 ?_|refine zc3 ?_|refine zc5 ?_|refine zI ?_)|refine zr ?_|exact x_le)
    refine ⟨by omega,hk2,?_⟩
    rw [hr]
    exact (by exact x_len [1])
 ·obtain rfl:k=U.length:=by omega
  rw [List.take_length]
  repeat' (first|refine zt ?_|(refine isR ?_;first|refine zo ?_|refine x_bs tb_ok ?_|refine zA ?_|refine zL ?_|refine zc1 ?_|refine zc3 ?_|refine zc5 ?_|refine zI ?_)|refine zr ?_|exact x_le)
  exact fro_all rfl
theorem wruns_v {T:Nat} {r:List (Nat × Nat)} {l:List Nat} (hl:Bin l) (hs:l.length≤1000000) (hr:r.length≤40) (hall:∀ x∈r,x.1≤40∧x.2≤40) :
  MCalls Tryz.prog 203 [.loc 0 0 0,.fro (r.map runV)] [sinkB T 1 l,rowB l] (.tup []) [some (sinkB T 2 ((l++bitsOf r.length 6)++runsBits r)),none,some (rowB ((l++bitsOf r.length 6)++runsBits r))]:=by
 have hmr:(r.map runV).length=r.length:=List.length_map _
 have c0:=number_v (T:=T) (n:=(r.map runV).length) (W:=6) (l:=l) (by omega) (by omega) hl (by omega)
 have e:l++bitsOf r.length 6=l++bitsOf (r.map runV).length 6:=by rw [hmr]
 rw [e]
 have hb6:=bitsOf_len (r.map runV).length 6
 have hl6:Bin (l++bitsOf (r.map runV).length 6):=hl.app (bitsOf_bin _ _)
 have hs6:(l++bitsOf (r.map runV).length 6).length≤1000006:=by rw [List.length_append,hb6];omega
 clear e
 generalize l++bitsOf (r.map runV).length 6=m at *
 have e0:m=m++runsBits (r.take 0):=by rw [List.take_zero];simp [runsBits]
 refine mfun tb_ok Tryz.func203 rfl Tryz.ntmps203 Tryz.results203 rfl rfl rfl rfl fun N pl=>?_
 repeat' (first|refine zt ?_|(refine isR ?_;first|refine zo ?_|refine x_m [0,1] [2] (c0 _) ?_|refine x_m [0,1] [2] (c0) ?_|refine zA ?_|refine zL ?_|refine zc1 ?_|refine zc6 ?_|refine zI ?_)|exact x_le)
 refine awp_whileM (fun k:Nat=>⟨[(0,.loc 0 0 0),(11,.fro (r.map runV)),(12,.int .i64 ((r.map runV).length:Int)),(13,.int .i64 (k:Int))],[(0,some (sinkB T 2 (m++runsBits (r.take k)))),(2,some (rowB (m++runsBits (r.take k))))],3,35⟩) (fun k=>k≤r.length) (fun k=>r.length-k) 0 ?_ (Nat.zero_le _) ?_
 ·rw [← e0]
  exact (by exact x_len [0,1,2])
 intro k hk
 have hbk:Bin (m++runsBits (r.take k)):=hl6.app (runsBits_bin _)
 have hsk:(m++runsBits (r.take k)).length≤1000526:=by
  have h1:=sizes_le (r.take k)
  rw [List.length_append,runsBits_len]
  rw [List.length_take] at h1
  omega
 by_cases hk2:k<r.length
 ·have hx:r[k]? = some r[k]:=by simp [hk2]
  obtain ⟨ha,hb⟩:=hall _ (List.getElem_mem hk2)
  have hst:m++runsBits (r.take (k+1))=(m++runsBits (r.take k))++runBits r[k]:=by
   rw [List.take_add_one,hx,List.append_assoc]
   congr 1
   exact runsBits_snoc _ _
  generalize r[k]=p at *
  obtain ⟨a,b⟩:=p
  have hm:=at_map (f:=runV) hx
  generalize m++runsBits (r.take k)=q at *
  rw [runBits] at hst
  change m++runsBits (r.take (k+1))=q++((!decide (a=b)).toNat::(bitsOf a 6++if a=b then [] else bitsOf b 6)) at hst
  have ha:a≤40:=ha
  have hb:b≤40:=hb
  have c1:=mark_v (T:=T) (b := !decide (a=b)) (l:=q) hbk (by omega)
  have hq1:Bin (q++[(!decide (a=b)).toNat]):=hbk.app (cons_bin (toNat_bin _) bin_nil)
  have hl1:(q++[(!decide (a=b)).toNat]).length≤1000527:=by simp;omega
  have c2:=number_v (T:=T) (n:=a) (W:=6) (l:=q++[(!decide (a=b)).toNat]) (by omega) (by omega) hq1 (by omega)
  have hq2:Bin ((q++[(!decide (a=b)).toNat])++bitsOf a 6):=hq1.app (bitsOf_bin _ _)
  have hl2:((q++[(!decide (a=b)).toNat])++bitsOf a 6).length≤1000533:=by rw [List.length_append,bitsOf_len];omega
  have c3:=number_v (T:=T) (n:=b) (W:=6) (l:=(q++[(!decide (a=b)).toNat])++bitsOf a 6) (by omega) (by omega) hq2 (by omega)
  by_cases hab:a=b
  ·subst hab
   have h1:(a:Int)=(a:Int):=rfl
   rw [if_pos rfl,List.append_nil] at hst
   rw [show q++(!decide (a=a)).toNat::bitsOf a 6=(q++[(!decide (a=a)).toNat])++bitsOf a 6 from by simp] at hst
   simp only [decide_true,Bool.not_true] at *
   generalize q++[false.toNat]=q1 at *
   generalize q1++bitsOf a 6=q2 at *
   repeat' (first|refine zt ?_|(refine isR ?_;first|refine zo ?_|refine x_m [0,2] [4] (c1 _) ?_|refine x_m [0,2] [4] (c1) ?_|refine x_m [0,4] [5] (c2 _) ?_|refine x_m [0,4] [5] (c2) ?_|refine zA ?_|refine zL ?_|refine zc1 ?_|refine zc6 ?_|refine zI ?_)|exact x_le)
   refine ⟨k+1,by omega,by omega,?_⟩
   rw [hst]
   exact (by exact x_len [0,1,5])
  ·have h1:(a:Int)≠(b:Int):=by omega
   rw [if_neg hab] at hst
   rw [show q++(!decide (a=b)).toNat::(bitsOf a 6++bitsOf b 6)=((q++[(!decide (a=b)).toNat])++bitsOf a 6)++bitsOf b 6 from by simp] at hst
   simp only [hab,decide_false,Bool.not_false] at *
   generalize q++[true.toNat]=q1 at *
   generalize q1++bitsOf a 6=q2 at *
   generalize q2++bitsOf b 6=q3 at *
   repeat' (first|refine zt ?_|(refine isR ?_;first|refine zo ?_|refine x_m [0,2] [4] (c1 _) ?_|refine x_m [0,2] [4] (c1) ?_|refine x_m [0,4] [5] (c2 _) ?_|refine x_m [0,4] [5] (c2) ?_|refine x_m [0,5] [6] (c3 _) ?_|refine x_m [0,5] [6] (c3) ?_|refine zA ?_|refine zL ?_|refine zc1 ?_|refine zc6 ?_|refine zI ?_)|exact x_le)
   refine ⟨k+1,by omega,by omega,?_⟩
   rw [hst]
   exact (by exact x_len [0,1,6])
 ·obtain rfl:k=r.length:=by omega
  rw [List.take_length] at *
  generalize m++runsBits r=q at *
  repeat' (first|refine zt ?_|(refine isR ?_;first|refine zo ?_|refine zA ?_|refine zL ?_|refine zc1 ?_|refine zc6 ?_|refine zI ?_)|refine x_mret [0,1,2] ?_ ?_|exact x_le)
  ·rfl
  ·exact .on (.ren rfl) (.no (.on (.same (nl_map fun _=>rfl)) .nil))
theorem number0_v {T n W:Nat} (hn:n<9223372036854775808) (hW:W≤64) :
  MCalls Tryz.prog 199 [.loc 0 0 0,.int .i64 (n:Int),.int .i64 (W:Int)] [.els T 2 [.agg [.nils,.int .i64 0]]] (.tup []) [some (sinkB T 1 (bitsOf n W)),some (rowB (bitsOf n W))]:=by
 have c:=put_v (T:=T) (n:=n) (W:=W) (l:=[]) (by omega) hW bin_nil (by simp)
 have hcv:IntKind.u64.wrap (n:Int)=(n:Int):=by
  simp [IntKind.wrap,IntKind.bits,IntKind.signed];omega
 rw [List.nil_append] at c
 generalize bitsOf n W=m at *
 refine mfun tb_ok Tryz.func199 rfl Tryz.ntmps199 Tryz.results199 rfl rfl rfl rfl fun N pl=>?_
 refine awp_nameR 0 0 5 1 rfl rfl (by decide) rfl ?_
 repeat' (first|refine zt ?_|(refine isR ?_;first|refine zo ?_|refine x_cv .u64 tb_ok ?_|refine x_m [0,1] [2] (c _) ?_|refine x_m [0,1] [2] (c) ?_)|refine x_mret [0,2] ?_ ?_|exact x_le)
 ·rfl
 ·exact .on (.ren rfl) (.on (.same (nl_map fun _=>rfl)) .nil)
theorem size_v {p:Nat × Nat}:ACalls Tryz.prog 202 [runV p] (.int .i64 ((sizeR p:Nat):Int)):=by
 have h:=bits_v (a:=(p.1:Int)) (b:=(p.2:Int))
 have e:(if (p.1:Int)=(p.2:Int) then (7:Int) else 13)=((sizeR p:Nat):Int):=by
  unfold sizeR
  by_cases hp:p.1=p.2
  ·rw [if_pos (by omega),if_pos hp];rfl
  ·rw [if_neg (by omega),if_neg hp];rfl
 rw [e] at h
 exact h
theorem pur_at (P:Nat→Bool) {k:Nat} (h:k<10):subV (purV P) (((k:Nat):Int).toNat*1) false 1=some (.bool (P k)):=by
 have:k=0∨k=1∨k=2∨k=3∨k=4∨k=5∨k=6∨k=7∨k=8∨k=9:=by omega
 rcases this with rfl|rfl|rfl|rfl|rfl|rfl|rfl|rfl|rfl|rfl<;>rfl
abbrev TW:Nat:=242
def lastK (r:List (Nat × Nat)):Nat:=(r.getLast?.map Prod.snd).getD 0
theorem lastK_snoc (r:List (Nat × Nat)) (p:Nat × Nat):lastK (r++[p])=p.2:=by simp [lastK]
end Go.Proofs.YtlfdjpgghiemfaaGreatDoor.ConX
namespace Go.Proofs.YtlfdjpgghiemfaaGreatDoor.ConZ
open Go.RowKit Mem Abs BitsP BitsS BitsT SixtyP SixtyQ SixtyW ConP ConQ ConC ConA ConS ConG ConW ConX
abbrev rawT (g:Nat) (P:Nat→Bool) (U:List Nat) (h:List Nat) (tm:List (Nat × V)):S:=⟨[(1,.fp (V.cells (conN g P U)) 0),(3,.loc 0 0 0)]++tm,[(0,some (sinkB TW 1 h)),(1,some (rowB h))],2,89⟩
theorem raw_core {g:Nat} {P:Nat→Bool} {U h2 p10:List Nat} {TX:List UInt8} {e:Int} {h3:Nat→List Nat} (hU:RightN U)
  (c0:MCalls Tryz.prog 199 [.loc 0 0 0,.int .i64 1,.int .i64 6] [.els TW 2 [.agg [.nils,.int .i64 0]]] (.tup []) [some (sinkB TW 1 p10),some (rowB p10)])
  (c1:MCalls Tryz.prog 199 [.loc 0 0 0,.int .i64 (g:Int),.int .i64 36] [sinkB TW 1 p10,rowB p10] (.tup []) [some (sinkB TW 2 h2),none,some (rowB h2)])
  (e0:h3 0=h2) (c2:∀ k,k<10→MCalls Tryz.prog 200 [.loc 0 0 0,.bool (P k)] [sinkB TW 1 (h3 k),rowB (h3 k)] (.tup []) [some (sinkB TW 2 (h3 (k+1))),none,some (rowB (h3 (k+1)))])
  (cr:ACalls Tryz.prog 201 [natsV U] (.fro ((runsF U).map runV)))
  {h4 h5:List Nat} (c3:MCalls Tryz.prog 199 [.loc 0 0 0,natV (lastOf U),.int .i64 6] [sinkB TW 1 (h3 10),rowB (h3 10)] (.tup []) [some (sinkB TW 2 h4),none,some (rowB h4)])
  (c4:MCalls Tryz.prog 200 [.loc 0 0 0,.bool (short U)] [sinkB TW 1 h4,rowB h4] (.tup []) [some (sinkB TW 2 h5),none,some (rowB h5)])
  {h6:List Nat} (c5:short U=true→MCalls Tryz.prog 203 [.loc 0 0 0,.fro ((runsF U).map runV)] [sinkB TW 1 h5,rowB h5] (.tup []) [some (sinkB TW 2 h6),none,some (rowB h6)])
  {h7:Nat→List Nat} (e7:h7 0=h5) (c6:∀ k,k<lastOf U→MCalls Tryz.prog 200 [.loc 0 0 0,.bool (U.contains (k+1))] [sinkB TW 1 (h7 k),rowB (h7 k)] (.tup []) [some (sinkB TW 2 (h7 (k+1))),none,some (rowB (h7 (k+1)))])
  (e8:short U=false→h7 (lastOf U)=h6) {tx:List UInt8} (cx:MCalls Tryz.prog 196 [.loc 0 0 0] [sinkB TW 1 h6,rowB h6] (strT tx) [some (sinkB TW 1 h6),some (rowB h6)])
  (cw:ACalls Tryz.prog 204 [strT tx] (.tup [strT TX,.int .i64 e])):ACalls Tryz.prog 149 [conN g P U] (strT TX):=by
 have hf:=right_few hU
 have hl40:=lastOf_le hU
 have hmr:((runsF U).map runV).length=(runsF U).length:=List.length_map _
 have hn:=runs_len U
 have hlast:lastK (runsF U)=lastOf U:=runs_last U
 have hsz:=sizes_le (runsF U)
 refine fun1 tb_ok Tryz.func149 rfl Tryz.ntmps149 Tryz.results149 rfl fun N=>?_
 repeat' (first|refine zt ?_|(refine isR ?_;first|refine zo ?_|refine x_m [0] [1] (c0 _) ?_|refine x_m [0] [1] (c0) ?_|refine x_m [0,1] [2] (c1 _) ?_|refine x_m [0,1] [2] (c1) ?_|refine zA ?_|refine zL ?_|refine zc1 ?_|refine zc2 ?_|refine zc5 ?_|refine zI ?_)|refine zr ?_|exact x_le)
 refine awp_whileM (fun k:Nat=>rawT g P U (h3 k) [(24,.agg (purV P)),(25,natV k)]) (fun k=>k≤10) (fun k=>10-k) 0 ?_ (Nat.zero_le _) ?_
 ·rw [e0]
  exact (by exact x_len [0,2])
 intro k hk
 by_cases hk2:k<10
 ·have c2:=c2 k hk2
  have hpk:=pur_at P hk2
  generalize hq1:h3 (k+1)=q1 at *
  generalize h3 k=q at *
  repeat' (first|refine zt ?_|(refine isR ?_;first|refine zo ?_|refine x_ixA (w:=.bool (P k)) (hv:=hpk) tb_ok ?_|refine x_m [0,1] [2] (c2 _) ?_|refine x_m [0,1] [2] (c2) ?_|refine zA ?_|refine zL ?_|refine zc1 ?_|refine zc2 ?_|refine zc5 ?_|refine zI ?_)|refine zr ?_|exact x_le)
  refine ⟨k+1,by omega,by omega,?_⟩
  rw [hq1]
  exact (by exact x_len [0,2])
 ·obtain rfl:k=10:=by omega
  clear c0 c1 c2 e0
  generalize h3 10=q at *
  generalize hr:runsF U=r at *
  repeat' (first|refine zt ?_|(refine isR ?_;first|refine zo ?_|refine zk cr ?_|refine zA ?_|refine zL ?_|refine zc1 ?_|refine zc2 ?_|refine zc5 ?_|refine zI ?_)|refine zr ?_|exact x_le)
  refine awp_whileM (fun k:Nat=>rawT g P U q [(6,natV (lastK (r.take k))),(7,.fro (r.map runV)),(8,.int .i64 ((6+sizes (r.take k):Nat):Int)),(35,.fro (r.map runV)),(36,.int .i64 ((r.map runV).length:Int)),(37,natV k)]) (fun k=>k≤r.length) (fun k=>r.length-k) 0 ?_ (Nat.zero_le _) ?_
  ·exact (by exact x_len [0,1])
  intro k hk
  by_cases hk2:k<r.length
  ·have hx:r[k]? = some r[k]:=by simp [hk2]
   have ht:r.take (k+1)=r.take k++[r[k]]:=by rw [List.take_add_one,hx];rfl
   have e1:lastK (r.take (k+1))=(r[k]).2:=by rw [ht,lastK_snoc]
   have e2:((6+sizes (r.take (k+1)):Nat):Int)=((6+sizes (r.take k):Nat):Int)+((sizeR r[k]:Nat):Int):=by rw [ht,sizes_snoc];omega
   have hs1:=sizes_le (r.take k)
   rw [List.length_take] at hs1
   have cs:=size_v (p:=r[k])
   have hs2:sizeR r[k]≤13:=by unfold sizeR;split<;>omega
   generalize r[k]=p at *
   have hm:=at_map (f:=runV) hx
   generalize sizeR p=z at *
   generalize hA:6+sizes (r.take k)=A at *
   repeat' (first|refine zt ?_|(refine isR ?_;first|refine zo ?_|refine zk cs ?_|refine zA ?_|refine zL ?_|refine zc1 ?_|refine zc2 ?_|refine zc5 ?_|refine zI ?_)|refine zr ?_|exact x_le)
   refine ⟨k+1,by omega,by omega,?_⟩
   rw [e1,e2]
   exact (by exact x_len [0,1])
  ·obtain rfl:k=r.length:=by omega
   rw [List.take_length,hlast]
   have hsh:short U=decide (6+sizes r<lastOf U):=by rw [← hr];rfl
   generalize sizes r=sz at *
   by_cases hc:6+sz<lastOf U
   ·rw [hsh,decide_eq_true hc] at c4
    have c5:=c5 (by rw [hsh,decide_eq_true hc])
    clear hsh c6 e7 e8 hr
    generalize lastOf U=la at *
    generalize hA:6+sz=A at *
    repeat' (first|refine zt ?_|(refine isR ?_;first|refine zo ?_|refine x_m [0,1] [2] (c3 _) ?_|refine x_m [0,1] [2] (c3) ?_|refine x_m [0,2] [3] (c4 _) ?_|refine x_m [0,2] [3] (c4) ?_|refine x_m [0,3] [4] (c5 _) ?_|refine x_m [0,3] [4] (c5) ?_|refine x_m [0,4] [] (cx _) ?_|refine x_m [0,4] [] (cx) ?_|refine zk cw ?_|refine zA ?_|refine zL ?_|refine zc1 ?_|refine zc2 ?_|refine zc5 ?_|refine zI ?_)|refine zr ?_|exact x_le)
    rfl
   ·rw [hsh,decide_eq_false hc] at c4
    have e8:=e8 (by rw [hsh,decide_eq_false hc])
    clear hsh c5 hr
    generalize hA:6+sz=A at *
    repeat' (first|refine zt ?_|(refine isR ?_;first|refine zo ?_|refine x_m [0,1] [2] (c3 _) ?_|refine x_m [0,1] [2] (c3) ?_|refine x_m [0,2] [3] (c4 _) ?_|refine x_m [0,2] [3] (c4) ?_|refine zA ?_|refine zL ?_|refine zc1 ?_|refine zc2 ?_|refine zc5 ?_|refine zI ?_)|refine zr ?_|exact x_le)
    refine awp_whileM (fun i:Nat=>rawT g P U (h7 i) [(6,natV (lastOf U)),(11,natV (U.takeWhile (fun x=>decide (x≤i))).length),(12,.int .i64 ((i:Int)+1))]) (fun i=>i≤lastOf U) (fun i=>lastOf U-i) 0 ?_ (Nat.zero_le _) ?_
    ·have e0:(U.takeWhile (fun x=>decide (x≤0))).length=0:=by
      cases U with
      | nil=>rfl
      | cons x U=>have:=hU.2 x (List.mem_cons_self ..);rw [List.takeWhile_cons_of_neg (by simp;omega)];rfl
     rw [e0,e7]
     exact (by exact x_len [0,3])
    intro i hi
    by_cases hi2:i<lastOf U
    ·obtain ⟨h,g1,g2,g3⟩:=tw_step U i hU.1 hi2
     have c6:=c6 i hi2
     have hle:(U.takeWhile (fun x=>decide (x≤i))).length≤40:=Nat.le_trans (List.takeWhile_sublist _).length_le hf
     have hgm:=at_map (f:=natV) g1
     have hh:=(hU.2 h (List.mem_of_getElem? g1)).2
     generalize hq1:h7 (i+1)=q1 at *
     generalize h7 i=q2 at *
     have hi1:(((i+1:Nat):Int)+1)=(i:Int)+1+1:=by omega
     generalize hK:(U.takeWhile (fun x=>decide (x≤i))).length=K at *
     by_cases he:h=i+1
     ·rw [decide_eq_true he] at g2 g3
      rw [← g2] at c6
      have hK1:natV (K+1) = .int .i64 ((K:Int)+1):=rfl
      change _=K+1 at g3
      have he':(h:Int)=(i:Int)+1:=by omega
      repeat' (first|refine zt ?_|(refine isR ?_;first|refine zo ?_|refine x_m [0,1] [2] (c6 _) ?_|refine x_m [0,1] [2] (c6) ?_|refine zA ?_|refine zL ?_|refine zc1 ?_|refine zc2 ?_|refine zc5 ?_|refine zI ?_)|refine zr ?_|exact x_le)
      refine ⟨i+1,by omega,by omega,?_⟩
      rw [g3,hq1,hK1,hi1]
      exact (by exact x_len [0,2])
     ·rw [decide_eq_false he] at g2 g3
      rw [← g2] at c6
      change _=K at g3
      have he':¬ (h:Int)=(i:Int)+1:=by omega
      repeat' (first|refine zt ?_|(refine isR ?_;first|refine zo ?_|refine x_m [0,1] [2] (c6 _) ?_|refine x_m [0,1] [2] (c6) ?_|refine zA ?_|refine zL ?_|refine zc1 ?_|refine zc2 ?_|refine zc5 ?_|refine zI ?_)|refine zr ?_|exact x_le)
      refine ⟨i+1,by omega,by omega,?_⟩
      rw [g3,hq1,hi1]
      exact (by exact x_len [0,2])
    ·obtain rfl:i=lastOf U:=by omega
     rw [e8]
     generalize lastOf U=la at *
     repeat' (first|refine zt ?_|(refine isR ?_;first|refine zo ?_|refine x_m [0,1] [] (cx _) ?_|refine x_m [0,1] [] (cx) ?_|refine zk cw ?_|refine zA ?_|refine zL ?_|refine zc1 ?_|refine zc2 ?_|refine zc5 ?_|refine zI ?_)|refine zr ?_|exact x_le)
     rfl
theorem raw_v {g:Nat} {P:Nat→Bool} {U:List Nat} (hg:g≤68719476735) (hU:RightN U):ACalls Tryz.prog 149 [conN g P U] (strT (conText g P U)):=by
 have hl40:=lastOf_le hU
 have hf:=right_few hU
 have hn:=runs_len U
 have hl:=conBits_len g P U
 have hB2:Bin (bitsOf 1 6++bitsOf g 36):=(bitsOf_bin _ _).app (bitsOf_bin _ _)
 have hL2:(bitsOf 1 6++bitsOf g 36).length=42:=by rw [List.length_append,bitsOf_len,bitsOf_len]
 have hB3:∀ k,Bin ((bitsOf 1 6++bitsOf g 36)++purpBits P k):=fun k=>hB2.app (purpBits_bin _ _)
 have hL3:∀ k,((bitsOf 1 6++bitsOf g 36)++purpBits P k).length=42+k:=fun k=>by rw [List.length_append,hL2,purpBits_len]
 have hB4:Bin (((bitsOf 1 6++bitsOf g 36)++purpBits P 10)++bitsOf (lastOf U) 6):=(hB3 10).app (bitsOf_bin _ _)
 have hL4:(((bitsOf 1 6++bitsOf g 36)++purpBits P 10)++bitsOf (lastOf U) 6).length=58:=by rw [List.length_append,hL3,bitsOf_len]
 have hB5:Bin ((((bitsOf 1 6++bitsOf g 36)++purpBits P 10)++bitsOf (lastOf U) 6)++[(short U).toNat]):=hB4.app (cons_bin (toNat_bin _) bin_nil)
 have hL5:((((bitsOf 1 6++bitsOf g 36)++purpBits P 10)++bitsOf (lastOf U) 6)++[(short U).toNat]).length=59:=by rw [List.length_append,hL4];rfl
 have hwr:writeF (packT (conBits g P U))=(conText g P U,0):=by
  unfold writeF
  rw [if_neg (by rw [packT_len];omega)]
  rfl
 have cw:=sixW_v (l:=packT (conBits g P U)) (by rw [packT_len];omega)
 rw [hwr] at cw
 have cx:=text_v (T:=TW) (l:=conBits g P U) (conBits_bin g P U) (by omega)
 refine raw_core (h3:=fun k=>(bitsOf 1 6++bitsOf g 36)++purpBits P k) (h7:=fun k=>((((bitsOf 1 6++bitsOf g 36)++purpBits P 10)++bitsOf (lastOf U) 6)++[(short U).toNat])++eachBit U k) hU (number0_v (T:=TW) (n:=1) (W:=6) (by omega) (by omega)) (number_v (T:=TW) (n:=g) (W:=36) (by omega) (by omega) (bitsOf_bin _ _) (by rw [bitsOf_len];omega)) (by simp [purpBits]) (fun k hk=>?_) (runs_v hU)
  (number_v (T:=TW) (n:=lastOf U) (W:=6) (by omega) (by omega) (hB3 10) (by rw [hL3];omega)) (mark_v (T:=TW) (b:=short U) hB4 (by rw [hL4];omega)) (h6:=conBits g P U) (fun hs=>?_) (by simp [eachBit]) (fun k hk=>?_) (fun hs=>?_) cx cw
 ·have c:=mark_v (T:=TW) (b:=P k) (hB3 k) (by rw [hL3];omega)
  rw [show ∀ h:List Nat,h++purpBits P k++[(P k).toNat]=h++purpBits P (k+1) from fun h=>by rw [purpBits_succ,List.append_assoc]] at c
  exact c
 ·have c:=wruns_v (T:=TW) (r:=runsF U) hB5 (by rw [hL5];omega) (by omega) (runs_all (p:=(· ≤ 40)) U fun v hv=>(hU.2 v hv).2)
  have e:conBits g P U=(((((bitsOf 1 6++bitsOf g 36)++purpBits P 10)++bitsOf (lastOf U) 6)++[(short U).toNat])++bitsOf (runsF U).length 6)++runsBits (runsF U):=by
   simp [conBits,headBits,vendBits,hs,byRuns]
  rw [← e] at c
  exact c
 ·have c:=mark_v (T:=TW) (b:=U.contains (k+1)) (hB5.app (eachBit_bin U k)) (by rw [List.length_append,hL5,eachBit_len];omega)
  rw [show ∀ h:List Nat,h++eachBit U k++[(U.contains (k+1)).toNat]=h++eachBit U (k+1) from fun h=>by rw [eachBit_succ,List.append_assoc]] at c
  exact c
 ·simp [conBits,headBits,vendBits,hs,byEach]
def writeC (g:Int) (P:Nat→Bool) (L:List Int):List UInt8 × Nat:=if GrantP.check g L=0 then (conText g.toNat P (L.map Int.toNat),0) else ([],GrantP.check g L)
end Go.Proofs.YtlfdjpgghiemfaaGreatDoor.ConZ
end
