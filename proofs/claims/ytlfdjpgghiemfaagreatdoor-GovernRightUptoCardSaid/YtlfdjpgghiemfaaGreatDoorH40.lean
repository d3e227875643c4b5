/- Texts of the proof, joined: CoX. -/
import Derived.Test.YtlfdjpgghiemfaaGreatDoorH38
set_option maxHeartbeats 4000000
set_option maxRecDepth 100000
namespace Go.Proofs.YtlfdjpgghiemfaaGreatDoor
section
namespace adw
open Go.RowKit Mem Abs gT eu jL Ji E8 lG EM IZ Jp abH
variable {α:Type} {T:Nat}
abbrev kI (p:Nat × Nat):Abs.V:=.agg [fC p.1,fC p.2]
abbrev TR:Nat:=248
theorem Te (d:List α) (x y:α):(d++[x]).set d.length y=d++[y]:=by simp
theorem YN (d:List α) (x:α):(d++[x])[d.length]? = some x:=by simp
theorem Lb (l:List α):l=[]∨∃ d x,l=d++[x]:=by
 rcases List.eq_nil_or_concat l with h|⟨d,x,h⟩
 ·exact .inl h
 ·exact .inr ⟨d,x,by rw [h,List.concat_eq_append]⟩
theorem abG {U:List Nat} (hU:qm U):aj Tryz.prog 201 [Gu U] (.fro ((eB U).map kI)):=by
 have hf:=uO hU
 have hml:(U.map fC).length=U.length:=List.length_map _
 refine aU af Tryz.func201 rfl Tryz.ntmps201 Tryz.results201 rfl fun N=>?_
 repeat' (first|refine zt ?_|(refine isR ?_;first|refine zo ?_|refine zX ?_)|refine zr ?_|exact ah)
 refine kP (t:=2) TR 2 (by decide) rfl rfl ?_
 refine fq (fun k=>⟨[(2,.own 0 0 (eB (U.take k)).length),(6,Gu U),(7,.int .i64 ((U.map fC).length:Int)),(8,.int .i64 (k:Int))],[(0,some (.els TR 2 ((eB (U.take k)).map kI)))],1,41⟩) (fun k=>k≤U.length) U.length 0 (by exact ah) (Nat.zero_le _) ?_
 intro k hk
 by_cases hk2:k<U.length
 ·have hx:U[k]? = some U[k]:=by simp [hk2]
  have hr:=Sy hx
  have hb:=hU.2 _ (List.getElem_mem hk2)
  have hn:=yE (U.take k)
  rw [List.length_take] at hn
  have hall:=Jt (p:=(· ≤ 40)) (U.take k) fun v hv=>(hU.2 v (List.mem_of_mem_take hv)).2
  generalize U[k]=v at *
  have hm:=bT (f:=fC) hx
  generalize eB (U.take k)=r at *
  rcases Lb r with rfl|⟨d,⟨a,b⟩,rfl⟩
  ·have h0:([]:List (Nat × Nat)).length=0:=rfl
   repeat' (first|refine zt ?_|(refine isR ?_;first|refine zo ?_|refine kL kI (L:=[]) (a1:=(v,v)) af ?_ (hby:=by show _*(_:Nat)≤_;simp)|refine zX ?_)|refine zr ?_|exact ah)
   refine ⟨by omega,hk2,?_⟩
   rw [hr]
   exact (by exact x_len [1])
  ·have hl:(d++[(a,b)]).length=d.length+1:=by simp
   have hlast:=Dc d a b v
   have hat:=YN d (a,b)
   obtain ⟨ha,hb2⟩:=hall (a,b) (by simp)
   have hset:=Te d (a,b) (a,v)
   have hi:((d.length:Int)+1-1)=(d.length:Int):=by omega
   have hd:d.length≤40:=by omega
   by_cases h:b+1=v
   ·rw [if_pos h] at hlast
    rw [hlast] at hr
    repeat' (first|(refine isR ?_;refine aJ rfl rfl rfl (gX af rfl rfl rfl rfl rfl) (hT rfl Abs.h0) ?_)|refine zt ?_|(refine isR ?_;first|refine zo ?_|refine Ta kI d.length af ?_|refine aak kI (a1:=(a,v)) d.length af ?_|refine zX ?_)|refine zr ?_|exact ah)
    refine ⟨by omega,hk2,?_⟩
    rw [hr,← hset,List.length_set]
    exact (by exact x_len [0])
   ·rw [if_neg h] at hlast
    rw [hlast] at hr
    repeat' (first|(refine isR ?_;refine aJ rfl rfl rfl (gX af rfl rfl rfl rfl rfl) (hT rfl Abs.h0) ?_)|refine zt ?_|(refine isR ?_;first|refine zo ?_|refine Ta kI d.length af ?_|refine kL kI (a1:=((v,v))) af ?_|refine zX ?_)|refine zr ?_|exact ah)
    refine ⟨by omega,hk2,?_⟩
    rw [hr]
    exact (by exact x_len [1])
 ·obtain rfl:k=U.length:=by omega
  rw [List.take_length]
  repeat' (first|refine zt ?_|(refine isR ?_;first|refine zo ?_|refine zX ?_)|refine zr ?_|exact ah)
  exact Zt rfl
theorem Xp {r:List (Nat × Nat)} {l:List Nat} (hl:Bin l) (hs:l.length≤1000000) (hr:r.length≤40) (hall:∀ x∈r,x.1≤40∧x.2≤40):
  aK Tryz.prog 203 [.loc 0 0 0,.fro (r.map kI)] [sinkB T 1 l,iF l] (.tup []) [some (sinkB T 2 ((l++bitsOf r.length 6)++dh r)),none,some (iF ((l++bitsOf r.length 6)++dh r))]:=by
 have hmr:(r.map kI).length=r.length:=List.length_map _
 have c0:=l9 (T:=T) (n:=(r.map kI).length) (W:=6) (l:=l) (by omega) (by omega) hl (by omega)
 have e:l++bitsOf r.length 6=l++bitsOf (r.map kI).length 6:=by rw [hmr]
 rw [e]
 have hb6:=bG (r.map kI).length 6
 have hl6:Bin (l++bitsOf (r.map kI).length 6):=hl.app (bY _ _)
 have hs6:(l++bitsOf (r.map kI).length 6).length≤1000006:=by rw [List.length_append,hb6];omega
 clear e
 generalize l++bitsOf (r.map kI).length 6=m at *
 have e0:m=m++dh (r.take 0):=by rw [List.take_zero];simp [dh]
 refine bP af Tryz.func203 rfl Tryz.ntmps203 Tryz.results203 rfl rfl rfl rfl fun N pl=>?_
 repeat' (first|refine zt ?_|(refine isR ?_;first|refine zo ?_|refine x_m [0,1] [2] (c0 _) ?_|refine x_m [0,1] [2] (c0) ?_|refine zX ?_)|exact ah)
 refine fB (fun k:Nat=>⟨[(0,.loc 0 0 0),(11,.fro (r.map kI)),(12,.int .i64 ((r.map kI).length:Int)),(13,.int .i64 (k:Int))],[(0,some (sinkB T 2 (m++dh (r.take k)))),(2,some (iF (m++dh (r.take k))))],3,35⟩) (fun k=>k≤r.length) (fun k=>r.length-k) 0 ?_ (Nat.zero_le _) ?_
 ·rw [← e0]
  exact (by exact x_len [0,1,2])
 intro k hk
 have hbk:Bin (m++dh (r.take k)):=hl6.app (yA _)
 have hsk:(m++dh (r.take k)).length≤1000526:=by
  have h1:=CG (r.take k)
  rw [List.length_append,xA]
  rw [List.length_take] at h1
  omega
 by_cases hk2:k<r.length
 ·have hx:r[k]? = some r[k]:=by simp [hk2]
  obtain ⟨ha,hb⟩:=hall _ (List.getElem_mem hk2)
  have hst:m++dh (r.take (k+1))=(m++dh (r.take k))++nJ r[k]:=by
   rw [List.take_add_one,hx,List.append_assoc]
   congr 1
   exact u6 _ _
  generalize r[k]=p at *
  obtain ⟨a,b⟩:=p
  have hm:=bT (f:=kI) hx
  generalize m++dh (r.take k)=q at *
  rw [nJ] at hst
  change m++dh (r.take (k+1))=q++((!decide (a=b)).toNat::(bitsOf a 6++if a=b then [] else bitsOf b 6)) at hst
  have ha:a≤40:=ha
  have hb:b≤40:=hb
  have c1:=Jd (T:=T) (b := !decide (a=b)) (l:=q) hbk (by omega)
  have hq1:Bin (q++[(!decide (a=b)).toNat]):=hbk.app (sS (oG _) wM)
  have hl1:(q++[(!decide (a=b)).toNat]).length≤1000527:=by simp;omega
  have c2:=l9 (T:=T) (n:=a) (W:=6) (l:=q++[(!decide (a=b)).toNat]) (by omega) (by omega) hq1 (by omega)
  have hq2:Bin ((q++[(!decide (a=b)).toNat])++bitsOf a 6):=hq1.app (bY _ _)
  have hl2:((q++[(!decide (a=b)).toNat])++bitsOf a 6).length≤1000533:=by rw [List.length_append,bG];omega
  have c3:=l9 (T:=T) (n:=b) (W:=6) (l:=(q++[(!decide (a=b)).toNat])++bitsOf a 6) (by omega) (by omega) hq2 (by omega)
  by_cases hab:a=b
  ·subst hab
   have h1:(a:Int)=(a:Int):=rfl
   rw [if_pos rfl,List.append_nil] at hst
   rw [show q++(!decide (a=a)).toNat::bitsOf a 6=(q++[(!decide (a=a)).toNat])++bitsOf a 6 from by simp] at hst
   simp only [decide_true,Bool.not_true] at *
   generalize q++[false.toNat]=q1 at *
   generalize q1++bitsOf a 6=q2 at *
   repeat' (first|refine zt ?_|(refine isR ?_;first|refine zo ?_|refine x_m [0,2] [4] (c1 _) ?_|refine x_m [0,2] [4] (c1) ?_|refine x_m [0,4] [5] (c2 _) ?_|refine x_m [0,4] [5] (c2) ?_|refine zX ?_)|exact ah)
   refine ⟨k+1,by omega,by omega,?_⟩
   rw [hst]
   exact (by exact x_len [0,1,5])
  ·have h1:(a:Int)≠(b:Int):=by omega
   rw [if_neg hab] at hst
   rw [show q++(!decide (a=b)).toNat::(bitsOf a 6++bitsOf b 6)=((q++[(!decide (a=b)).toNat])++bitsOf a 6)++bitsOf b 6 from by simp] at hst
   simp only [hab,decide_false,Bool.not_false] at *
   generalize q++[true.toNat]=q1 at *
   generalize q1++bitsOf a 6=q2 at *
   generalize q2++bitsOf b 6=q3 at *
   repeat' (first|refine zt ?_|(refine isR ?_;first|refine zo ?_|refine x_m [0,2] [4] (c1 _) ?_|refine x_m [0,2] [4] (c1) ?_|refine x_m [0,4] [5] (c2 _) ?_|refine x_m [0,4] [5] (c2) ?_|refine x_m [0,5] [6] (c3 _) ?_|refine x_m [0,5] [6] (c3) ?_|refine zX ?_)|exact ah)
   refine ⟨k+1,by omega,by omega,?_⟩
   rw [hst]
   exact (by exact x_len [0,1,6])
 ·obtain rfl:k=r.length:=by omega
  rw [List.take_length] at *
  generalize m++dh r=q at *
  repeat' (first|refine zt ?_|(refine isR ?_;first|refine zo ?_|refine zX ?_)|refine aA [0,1,2] ?_ ?_|exact ah)
  ·rfl
  ·exact .on (.ren rfl) (.no (.on (.same (aT fun _=>rfl)) .nil))
theorem Ry {n W:Nat} (hn:n<9223372036854775808) (hW:W≤64):
  aK Tryz.prog 199 [.loc 0 0 0,.int .i64 (n:Int),.int .i64 (W:Int)] [.els T 2 [.agg [.nils,.int .i64 0]]] (.tup []) [some (sinkB T 1 (bitsOf n W)),some (iF (bitsOf n W))]:=by
 have c:=aas (T:=T) (n:=n) (W:=W) (l:=[]) (by omega) hW wM (by simp)
 have hcv:IntKind.u64.wrap (n:Int)=(n:Int):=by
  simp [IntKind.wrap,IntKind.bits,IntKind.signed];omega
 rw [List.nil_append] at c
 generalize bitsOf n W=m at *
 refine bP af Tryz.func199 rfl Tryz.ntmps199 Tryz.results199 rfl rfl rfl rfl fun N pl=>?_
 refine jS 0 0 5 1 rfl rfl (by decide) rfl ?_
 repeat' (first|refine zt ?_|(refine isR ?_;first|refine zo ?_|refine ny .u64 af ?_|refine x_m [0,1] [2] (c _) ?_|refine x_m [0,1] [2] (c) ?_)|refine aA [0,2] ?_ ?_|exact ah)
 ·rfl
 ·exact .on (.ren rfl) (.on (.same (aT fun _=>rfl)) .nil)
theorem ace {p:Nat × Nat}:aj Tryz.prog 202 [kI p] (.int .i64 ((oz p:Nat):Int)):=by
 have h:=aa5 (a:=(p.1:Int)) (b:=(p.2:Int))
 have e:(if (p.1:Int)=(p.2:Int) then (7:Int) else 13)=((oz p:Nat):Int):=by
  unfold oz
  by_cases hp:p.1=p.2
  ·rw [if_pos (by omega),if_pos hp];rfl
  ·rw [if_neg (by omega),if_neg hp];rfl
 rw [e] at h
 exact h
theorem Mv (P:Nat→Bool) {k:Nat} (h:k<10):lJ (Xv P) (((k:Nat):Int).toNat*1) false 1=some (.bool (P k)):=by
 have:k=0∨k=1∨k=2∨k=3∨k=4∨k=5∨k=6∨k=7∨k=8∨k=9:=by omega
 rcases this with rfl|rfl|rfl|rfl|rfl|rfl|rfl|rfl|rfl|rfl<;>rfl
abbrev TW:Nat:=242
def Ll (r:List (Nat × Nat)):Nat:=(r.getLast?.map Prod.snd).getD 0
theorem MR (r:List (Nat × Nat)) (p:Nat × Nat):Ll (r++[p])=p.2:=by simp [Ll]
end adw
namespace acw
open Go.RowKit Mem Abs gT eu jL jZ mr pG Ji E8 lG EM IZ Jp abH adw
variable {U:List Nat} {P:Nat→Bool} {g:Nat}
abbrev abt (g:Nat) (P:Nat→Bool) (U:List Nat) (h:List Nat) (tm:List (Nat × V)):S:=⟨[(1,.fp (V.cells (Jh g P U)) 0),(3,.loc 0 0 0)]++tm,[(0,some (sinkB TW 1 h)),(1,some (iF h))],2,89⟩
theorem VP {h2 p10:List Nat} {TX:List UInt8} {e:Int} {h3:Nat→List Nat} (hU:qm U) (c0:aK Tryz.prog 199 [.loc 0 0 0,.int .i64 1,.int .i64 6] [.els TW 2 [.agg [.nils,.int .i64 0]]] (.tup []) [some (sinkB TW 1 p10),some (iF p10)]) (c1:aK Tryz.prog 199 [.loc 0 0 0,.int .i64 (g:Int),.int .i64 36] [sinkB TW 1 p10,iF p10] (.tup []) [some (sinkB TW 2 h2),none,some (iF h2)]) (e0:h3 0=h2) (c2:∀ k,k<10→aK Tryz.prog 200 [.loc 0 0 0,.bool (P k)] [sinkB TW 1 (h3 k),iF (h3 k)] (.tup []) [some (sinkB TW 2 (h3 (k+1))),none,some (iF (h3 (k+1)))]) (cr:aj Tryz.prog 201 [Gu U] (.fro ((eB U).map kI))) {h4 h5:List Nat} (c3:aK Tryz.prog 199 [.loc 0 0 0,fC (lastOf U),.int .i64 6] [sinkB TW 1 (h3 10),iF (h3 10)] (.tup []) [some (sinkB TW 2 h4),none,some (iF h4)]) (c4:aK Tryz.prog 200 [.loc 0 0 0,.bool (short U)] [sinkB TW 1 h4,iF h4] (.tup []) [some (sinkB TW 2 h5),none,some (iF h5)]) {h6:List Nat} (c5:short U=true→aK Tryz.prog 203 [.loc 0 0 0,.fro ((eB U).map kI)] [sinkB TW 1 h5,iF h5] (.tup []) [some (sinkB TW 2 h6),none,some (iF h6)]) {h7:Nat→List Nat} (e7:h7 0=h5) (c6:∀ k,k<lastOf U→aK Tryz.prog 200 [.loc 0 0 0,.bool (U.contains (k+1))] [sinkB TW 1 (h7 k),iF (h7 k)] (.tup []) [some (sinkB TW 2 (h7 (k+1))),none,some (iF (h7 (k+1)))]) (e8:short U=false→h7 (lastOf U)=h6) {tx:List UInt8} (cx:aK Tryz.prog 196 [.loc 0 0 0] [sinkB TW 1 h6,iF h6] (au tx) [some (sinkB TW 1 h6),some (iF h6)]) (cw:aj Tryz.prog 204 [au tx] (.tup [au TX,.int .i64 e])):aj Tryz.prog 149 [Jh g P U] (au TX):=by
 have hf:=uO hU
 have hl40:=Gn hU
 have hmr:((eB U).map kI).length=(eB U).length:=List.length_map _
 have hn:=yE U
 have hlast:Ll (eB U)=lastOf U:=QZ U
 have hsz:=CG (eB U)
 refine aU af Tryz.func149 rfl Tryz.ntmps149 Tryz.results149 rfl fun N=>?_
 repeat' (first|refine zt ?_|(refine isR ?_;first|refine zo ?_|refine x_m [0] [1] (c0 _) ?_|refine x_m [0] [1] (c0) ?_|refine x_m [0,1] [2] (c1 _) ?_|refine x_m [0,1] [2] (c1) ?_|refine zX ?_)|refine zr ?_|exact ah)
 refine fB (fun k:Nat=>abt g P U (h3 k) [(24,.agg (Xv P)),(25,fC k)]) (fun k=>k≤10) (fun k=>10-k) 0 ?_ (Nat.zero_le _) ?_
 ·rw [e0]
  exact (by exact x_len [0,2])
 intro k hk
 by_cases hk2:k<10
 ·have c2:=c2 k hk2
  have hpk:=Mv P hk2
  generalize hq1:h3 (k+1)=q1 at *
  generalize h3 k=q at *
  repeat' (first|refine zt ?_|(refine isR ?_;first|refine zo ?_|refine aah (w:=.bool (P k)) (hv:=hpk) af ?_|refine x_m [0,1] [2] (c2 _) ?_|refine x_m [0,1] [2] (c2) ?_|refine zX ?_)|refine zr ?_|exact ah)
  refine ⟨k+1,by omega,by omega,?_⟩
  rw [hq1]
  exact (by exact x_len [0,2])
 ·obtain rfl:k=10:=by omega
  clear c0 c1 c2 e0
  generalize h3 10=q at *
  generalize hr:eB U=r at *
  repeat' (first|refine zt ?_|(refine isR ?_;first|refine zo ?_|refine zk cr ?_|refine zX ?_)|refine zr ?_|exact ah)
  refine fB (fun k:Nat=>abt g P U q [(6,fC (Ll (r.take k))),(7,.fro (r.map kI)),(8,.int .i64 ((6+sizes (r.take k):Nat):Int)),(35,.fro (r.map kI)),(36,.int .i64 ((r.map kI).length:Int)),(37,fC k)]) (fun k=>k≤r.length) (fun k=>r.length-k) 0 ?_ (Nat.zero_le _) ?_
  ·exact (by exact x_len [0,1])
  intro k hk
  by_cases hk2:k<r.length
  ·have hx:r[k]? = some r[k]:=by simp [hk2]
   have ht:r.take (k+1)=r.take k++[r[k]]:=by rw [List.take_add_one,hx];rfl
   have e1:Ll (r.take (k+1))=(r[k]).2:=by rw [ht,MR]
   have e2:((6+sizes (r.take (k+1)):Nat):Int)=((6+sizes (r.take k):Nat):Int)+((oz r[k]:Nat):Int):=by rw [ht,wu];omega
   have hs1:=CG (r.take k)
   rw [List.length_take] at hs1
   have cs:=ace (p:=r[k])
   have hs2:oz r[k]≤13:=by unfold oz;split<;>omega
   generalize r[k]=p at *
   have hm:=bT (f:=kI) hx
   generalize oz p=z at *
   generalize hA:6+sizes (r.take k)=A at *
   repeat' (first|refine zt ?_|(refine isR ?_;first|refine zo ?_|refine zk cs ?_|refine zX ?_)|refine zr ?_|exact ah)
   refine ⟨k+1,by omega,by omega,?_⟩
   rw [e1,e2]
   exact (by exact x_len [0,1])
  ·obtain rfl:k=r.length:=by omega
   rw [List.take_length,hlast]
   have hsh:short U=decide (6+sizes r<lastOf U):=by rw [← hr];rfl
   generalize sizes r=sz at *
   by_cases hc:6+sz<lastOf U
   ·rw [hsh,decide_eq_true hc] at c4
    have c5:=c5 (by rw [hsh,decide_eq_true hc])
    clear hsh c6 e7 e8 hr
    generalize lastOf U=la at *
    generalize hA:6+sz=A at *
    repeat' (first|refine zt ?_|(refine isR ?_;first|refine zo ?_|refine x_m [0,1] [2] (c3 _) ?_|refine x_m [0,1] [2] (c3) ?_|refine x_m [0,2] [3] (c4 _) ?_|refine x_m [0,2] [3] (c4) ?_|refine x_m [0,3] [4] (c5 _) ?_|refine x_m [0,3] [4] (c5) ?_|refine x_m [0,4] [] (cx _) ?_|refine x_m [0,4] [] (cx) ?_|refine zk cw ?_|refine zX ?_)|refine zr ?_|exact ah)
    rfl
   ·rw [hsh,decide_eq_false hc] at c4
    have e8:=e8 (by rw [hsh,decide_eq_false hc])
    clear hsh c5 hr
    generalize hA:6+sz=A at *
    repeat' (first|refine zt ?_|(refine isR ?_;first|refine zo ?_|refine x_m [0,1] [2] (c3 _) ?_|refine x_m [0,1] [2] (c3) ?_|refine x_m [0,2] [3] (c4 _) ?_|refine x_m [0,2] [3] (c4) ?_|refine zX ?_)|refine zr ?_|exact ah)
    refine fB (fun i:Nat=>abt g P U (h7 i) [(6,fC (lastOf U)),(11,fC (U.takeWhile (fun x=>decide (x≤i))).length),(12,.int .i64 ((i:Int)+1))]) (fun i=>i≤lastOf U) (fun i=>lastOf U-i) 0 ?_ (Nat.zero_le _) ?_
    ·have e0:(U.takeWhile (fun x=>decide (x≤0))).length=0:=by
      cases U with
      | nil=>rfl
      | cons x U=>have:=hU.2 x (List.mem_cons_self ..);rw [List.takeWhile_cons_of_neg (by simp;omega)];rfl
     rw [e0,e7]
     exact (by exact x_len [0,3])
    intro i hi
    by_cases hi2:i<lastOf U
    ·obtain ⟨h,g1,g2,g3⟩:=OL U i hU.1 hi2
     have c6:=c6 i hi2
     have hle:(U.takeWhile (fun x=>decide (x≤i))).length≤40:=Nat.le_trans (List.takeWhile_sublist _).length_le hf
     have hgm:=bT (f:=fC) g1
     have hh:=(hU.2 h (List.mem_of_getElem? g1)).2
     generalize hq1:h7 (i+1)=q1 at *
     generalize h7 i=q2 at *
     have hi1:(((i+1:Nat):Int)+1)=(i:Int)+1+1:=by omega
     generalize hK:(U.takeWhile (fun x=>decide (x≤i))).length=K at *
     by_cases he:h=i+1
     ·rw [decide_eq_true he] at g2 g3
      rw [← g2] at c6
      have hK1:fC (K+1) = .int .i64 ((K:Int)+1):=rfl
      change _=K+1 at g3
      have he':(h:Int)=(i:Int)+1:=by omega
      repeat' (first|refine zt ?_|(refine isR ?_;first|refine zo ?_|refine x_m [0,1] [2] (c6 _) ?_|refine x_m [0,1] [2] (c6) ?_|refine zX ?_)|refine zr ?_|exact ah)
      refine ⟨i+1,by omega,by omega,?_⟩
      rw [g3,hq1,hK1,hi1]
      exact (by exact x_len [0,2])
     ·rw [decide_eq_false he] at g2 g3
      rw [← g2] at c6
      change _=K at g3
      have he':¬ (h:Int)=(i:Int)+1:=by omega
      repeat' (first|refine zt ?_|(refine isR ?_;first|refine zo ?_|refine x_m [0,1] [2] (c6 _) ?_|refine x_m [0,1] [2] (c6) ?_|refine zX ?_)|refine zr ?_|exact ah)
      refine ⟨i+1,by omega,by omega,?_⟩
      rw [g3,hq1,hi1]
      exact (by exact x_len [0,2])
    ·obtain rfl:i=lastOf U:=by omega
     rw [e8]
     generalize lastOf U=la at *
     repeat' (first|refine zt ?_|(refine isR ?_;first|refine zo ?_|refine x_m [0,1] [] (cx _) ?_|refine x_m [0,1] [] (cx) ?_|refine zk cw ?_|refine zX ?_)|refine zr ?_|exact ah)
     rfl
theorem Gr (hg:g≤68719476735) (hU:qm U):aj Tryz.prog 149 [Jh g P U] (au (qy g P U)):=by
 have hl40:=Gn hU
 have hf:=uO hU
 have hn:=yE U
 have hl:=Ky g P U
 have hB2:Bin (bitsOf 1 6++bitsOf g 36):=(bY _ _).app (bY _ _)
 have hL2:(bitsOf 1 6++bitsOf g 36).length=42:=by rw [List.length_append,bG,bG]
 have hB3:∀ k,Bin ((bitsOf 1 6++bitsOf g 36)++dz P k):=fun k=>hB2.app (xV _ _)
 have hL3:∀ k,((bitsOf 1 6++bitsOf g 36)++dz P k).length=42+k:=fun k=>by rw [List.length_append,hL2,xK]
 have hB4:Bin (((bitsOf 1 6++bitsOf g 36)++dz P 10)++bitsOf (lastOf U) 6):=(hB3 10).app (bY _ _)
 have hL4:(((bitsOf 1 6++bitsOf g 36)++dz P 10)++bitsOf (lastOf U) 6).length=58:=by rw [List.length_append,hL3,bG]
 have hB5:Bin ((((bitsOf 1 6++bitsOf g 36)++dz P 10)++bitsOf (lastOf U) 6)++[(short U).toNat]):=hB4.app (sS (oG _) wM)
 have hL5:((((bitsOf 1 6++bitsOf g 36)++dz P 10)++bitsOf (lastOf U) 6)++[(short U).toNat]).length=59:=by rw [List.length_append,hL4];rfl
 have hwr:kT (JK (jv g P U))=(qy g P U,0):=by
  unfold kT
  rw [if_neg (by rw [Fx];omega)]
  rfl
 have cw:=acy (l:=JK (jv g P U)) (by rw [Fx];omega)
 rw [hwr] at cw
 have cx:=ab0 (T:=TW) (l:=jv g P U) (J4 g P U) (by omega)
 refine VP (h3:=fun k=>(bitsOf 1 6++bitsOf g 36)++dz P k) (h7:=fun k=>((((bitsOf 1 6++bitsOf g 36)++dz P 10)++bitsOf (lastOf U) 6)++[(short U).toNat])++jH U k) hU (Ry (T:=TW) (n:=1) (W:=6) (by omega) (by omega)) (l9 (T:=TW) (n:=g) (W:=36) (by omega) (by omega) (bY _ _) (by rw [bG];omega)) (by simp [dz]) (fun k hk=>?_) (abG hU)
  (l9 (T:=TW) (n:=lastOf U) (W:=6) (by omega) (by omega) (hB3 10) (by rw [hL3];omega)) (Jd (T:=TW) (b:=short U) hB4 (by rw [hL4];omega)) (h6:=jv g P U) (fun hs=>?_) (by simp [jH]) (fun k hk=>?_) (fun hs=>?_) cx cw
 ·have c:=Jd (T:=TW) (b:=P k) (hB3 k) (by rw [hL3];omega)
  rw [show ∀ h:List Nat,h++dz P k++[(P k).toNat]=h++dz P (k+1) from fun h=>by rw [EJ,List.append_assoc]] at c
  exact c
 ·have c:=Xp (T:=TW) (r:=eB U) hB5 (by rw [hL5];omega) (by omega) (Jt (p:=(· ≤ 40)) U fun v hv=>(hU.2 v hv).2)
  have e:jv g P U=(((((bitsOf 1 6++bitsOf g 36)++dz P 10)++bitsOf (lastOf U) 6)++[(short U).toNat])++bitsOf (eB U).length 6)++dh (eB U):=by
   simp [jv,oV,mU,hs,I5]
  rw [← e] at c
  exact c
 ·have c:=Jd (T:=TW) (b:=U.contains (k+1)) (hB5.app (Ao U k)) (by rw [List.length_append,hL5,Ak];omega)
  rw [show ∀ h:List Nat,h++jH U k++[(U.contains (k+1)).toNat]=h++jH U (k+1) from fun h=>by rw [Hw,List.append_assoc]] at c
  exact c
 ·simp [jv,oV,mU,hs,He]
end acw
end
end Go.Proofs.YtlfdjpgghiemfaaGreatDoor
