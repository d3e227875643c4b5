/- Texts of the proof, joined: ConC, Min, PolA, PolB. -/
import Derived.Test.YtlfdjpgghiemfaaGreatDoorG24
import Derived.Test.YtlfdjpgghiemfaaGreatDoorG19
import Derived.Test.YtlfdjpgghiemfaaGreatDoorG11
import Derived.Test.YtlfdjpgghiemfaaGreatDoorG14
import Derived.Test.YtlfdjpgghiemfaaGreatDoorG18
set_option maxHeartbeats 4000000
set_option maxRecDepth 100000
section
namespace Go.Proofs.YtlfdjpgghiemfaaGreatDoor.ConC
open Go.RowKit Mem Abs Scan BitsP ConP ConQ
abbrev natV (n:Nat):V:=.int .i64 (n:Int)
abbrev natsV (l:List Nat):V:=.fro (l.map natV)
abbrev intsV (L:List Int):V:=.fro (L.map (V.int .i64))
abbrev purV (P:Nat→Bool):List V:=[.bool (P 0),.bool (P 1),.bool (P 2),.bool (P 3),.bool (P 4),.bool (P 5),.bool (P 6),.bool (P 7),.bool (P 8),.bool (P 9)]
abbrev conI (g:Int) (P:Nat→Bool) (L:List Int):V:=.agg [.int .i64 g,.bool (P 0),.bool (P 1),.bool (P 2),.bool (P 3),.bool (P 4),.bool (P 5),.bool (P 6),.bool (P 7),.bool (P 8),.bool (P 9),intsV L]
abbrev conN (g:Nat) (P:Nat→Bool) (U:List Nat):V:=.agg [.int .i64 (g:Int),.bool (P 0),.bool (P 1),.bool (P 2),.bool (P 3),.bool (P 4),.bool (P 5),.bool (P 6),.bool (P 7),.bool (P 8),.bool (P 9),natsV U]
theorem natsV_int (U:List Nat):natsV U=intsV (toI U):=by unfold natsV intsV toI;rw [List.map_map];rfl
theorem conN_int (g:Nat) (P:Nat→Bool) (U:List Nat):conN g P U=conI (g:Int) P (toI U):=by rw [conN,conI,natsV_int]
theorem ints_len {L:List Int} (h:(intsV L).Lim):L.length≤140737488355328:=by
 rw [intsV,V.Lim,List.length_map] at h
 exact h.1
theorem con_len {g:Int} {P:Nat→Bool} {L:List Int} (h:(conI g P L).Lim):L.length≤140737488355328:=by
 rw [conI,V.Lim] at h
 exact ints_len h.2.2.2.2.2.2.2.2.2.2.2.1
theorem at_map {α:Type} {f:α→V} {L:List α} {k:Nat} {x:α} (h:L[k]? = some x):(L.map f)[k]? = some (f x):=by rw [List.getElem?_map,h];rfl
theorem getD_at {L:List Int} {k:Nat} {x:Int} (h:L[k]? = some x):L.getD k 0=x:=by rw [List.getD_eq_getElem?_getD,h];rfl
theorem check_v {g:Int} {P:Nat→Bool} {L:List Int}:ACalls Tryz.prog 36 [conI g P L] (.int .i64 ((GrantP.check g L:Nat):Int)):=ACalls.lim fun hl=>by
 have hlen:=con_len hl.1
 clear hl
 have hml:(L.map (V.int .i64)).length=L.length:=List.length_map _
 unfold GrantP.check GrantP.codeG
 by_cases hg:g<0∨68719476735<g
 ·rw [if_pos hg,if_neg (by decide)]
  refine fun1 tb_ok Tryz.func36 rfl Tryz.ntmps36 Tryz.results36 rfl fun N=>?_
  repeat' (first|refine zt ?_|(refine isR ?_;first|refine zo ?_|refine zA ?_|refine zL ?_|refine zc1 ?_|refine zc2 ?_|refine zc3 ?_|refine zI ?_|(refine zs1 ?_ ?_<;>intro hc))|refine zr ?_|exact x_le)
  all_goals first|rfl|(exfalso;omega)
 ·rw [if_neg hg,if_pos rfl]
  have hg1:¬ g<0:=by omega
  have hg2:¬ 68719476735<g:=by omega
  refine fun1 tb_ok Tryz.func36 rfl Tryz.ntmps36 Tryz.results36 rfl fun N=>?_
  repeat' (first|refine zt ?_|(refine isR ?_;first|refine zo ?_|refine zA ?_|refine zL ?_|refine zc1 ?_|refine zc2 ?_|refine zc3 ?_|refine zI ?_|(refine zs1 ?_ ?_<;>intro hc))|refine zr ?_|exact x_le)
  refine awp_for (fun k=>⟨[(1,.fp (V.cells (conI g P L)) 0),(14,intsV L),(15,.int .i64 ((L.map (V.int .i64)).length:Int)),(16,.int .i64 (k:Int))],[],0,42⟩) (fun k=>k≤L.length∧scan (GrantP.codeV L) k=0) L.length 0 (by exact x_le) ⟨Nat.zero_le _,rfl⟩ ?_
  rintro k ⟨hk,hs⟩
  by_cases hk2:k<L.length
  ·have hx:L[k]? = some L[k]:=by simp [hk2]
   have hd:=getD_at hx
   have hst:=scan_stop (f:=GrantP.codeV L) (k:=k) (n:=L.length) hs
   have hnx:=scan_next (f:=GrantP.codeV L) (k:=k) hs
   generalize L[k]=x at *
   have hm:=at_map (f:=V.int .i64) hx
   by_cases h1:x<1∨40<x
   ·have hc:GrantP.codeV L k=3:=by unfold GrantP.codeV;rw [hd,if_pos h1]
    rw [hst (by rw [hc];decide) hk2,hc]
    repeat' (first|refine zt ?_|(refine isR ?_;first|refine zo ?_|refine zA ?_|refine zL ?_|refine zc1 ?_|refine zc2 ?_|refine zc3 ?_|refine zI ?_|(refine zs1 ?_ ?_<;>intro hc))|refine zr ?_|exact x_le)
    all_goals first|rfl|(exfalso;omega)
   ·have h2:¬ x<1:=by omega
    have h3:¬ 40<x:=by omega
    rcases Nat.eq_zero_or_pos k with rfl|hk0
    ·have hc:GrantP.codeV L 0=0:=by unfold GrantP.codeV;rw [hd,if_neg h1,if_neg (by omega)]
     have hn0:=hnx hc
     repeat' (first|refine zt ?_|(refine isR ?_;first|refine zo ?_|refine zA ?_|refine zL ?_|refine zc1 ?_|refine zc2 ?_|refine zc3 ?_|refine zI ?_|(refine zs1 ?_ ?_<;>intro hc))|refine zr ?_|exact x_le)
     exact ⟨⟨by omega,hn0⟩,hk2,(by exact x_le)⟩
    ·have hk1:((k:Int)-1)=((k-1:Nat):Int):=by omega
     have hx':L[k-1]? = some (L[k-1]'(by omega)):=by simp [show k-1<L.length by omega]
     have hd':=getD_at hx'
     generalize L[k-1]'(by omega)=y at *
     have hm':=at_map (f:=V.int .i64) hx'
     by_cases h4:x≤y
     ·have hc:GrantP.codeV L k=4:=by unfold GrantP.codeV;rw [hd,hd',if_neg h1,if_pos ⟨hk0,h4⟩]
      rw [hst (by rw [hc];decide) hk2,hc]
      repeat' (first|refine zt ?_|(refine isR ?_;first|refine zo ?_|refine zA ?_|refine zL ?_|refine zc1 ?_|refine zc2 ?_|refine zc3 ?_|refine zI ?_|(refine zs1 ?_ ?_<;>intro hc))|refine zr ?_|exact x_le)
      all_goals first|rfl|(exfalso;omega)
     ·have hc:GrantP.codeV L k=0:=by unfold GrantP.codeV;rw [hd,hd',if_neg h1,if_neg (fun h=>h4 h.2)]
      have hn0:=hnx hc
      repeat' (first|refine zt ?_|(refine isR ?_;first|refine zo ?_|refine zA ?_|refine zL ?_|refine zc1 ?_|refine zc2 ?_|refine zc3 ?_|refine zI ?_|(refine zs1 ?_ ?_<;>intro hc))|refine zr ?_|exact x_le)
      exact ⟨⟨by omega,hn0⟩,hk2,(by exact x_le)⟩
  ·obtain rfl:k=L.length:=by omega
   rw [hs]
   repeat' (first|refine zt ?_|(refine isR ?_;first|refine zo ?_|refine zA ?_|refine zL ?_|refine zc1 ?_|refine zc2 ?_|refine zc3 ?_|refine zI ?_|(refine zs1 ?_ ?_<;>intro hc))|refine zr ?_|exact x_le)
   all_goals first|rfl|(exfalso;omega)
abbrev noC:V:=.agg [.int .i64 0,.bool false,.bool false,.bool false,.bool false,.bool false,.bool false,.bool false,.bool false,.bool false,.bool false,.nils]
end Go.Proofs.YtlfdjpgghiemfaaGreatDoor.ConC
end
section
namespace Go.Proofs.YtlfdjpgghiemfaaGreatDoor.Abs
open Go.RowKit Mem Facts
section
variable {P:Program} {N:Env} {M:Nat→Prop} {o:Oper} {s:S} {a:Act} {x y:Operand} {w:World}
theorem law_min {t t':TypeId} {m n q:Int} (ho:o.op = .call { callee:=.builtin .min,args := #[x,y],argTypes := #[t,t'] }) (h:(if n<m then n else m)=q) (hq:InR .i64 q):OpLaw P N o ⟨[(x,.int .i64 m),(y,.int .i64 n)],[]⟩ (.int .i64 q) [] []:=law_pure fun s M A φ ac w hh hr=>by
 refine ⟨.int .i64 q,?_,.fz (.int hq)⟩
 unfold execOp
 simp only [ho,resolve,Sem.run_bind,Sem.run_pure,Result.andThen_ok,invoke,builtin,List.map_toArray,List.map_cons,List.map_nil,hr.int hh.a,hr.int hh.b]
 subst h
 simp [Builtin.min_,Builtin.min2]
end
section
variable {P:Program} {N:Env} {l r:List Oper} {o:Oper} {tm:List (Nat × V)} {st:List (Nat × Option Blk)} {nx nt:Nat} {tr:List Tr} {K:S→List Tr→Prop} {d:Nat} {t t':TypeId} {x y:Operand} {a b:Int}
theorem x_min (q:Int) (k:ARun P N l K r ⟨(d,.int .i64 q)::tm,st,nx,nt⟩ (tr++[trOf l o ⟨[(x,.int .i64 a),(y,.int .i64 b)],[]⟩ []])) (ho:o.op = .call { callee:=.builtin .min,args := #[x,y],argTypes := #[t,t'] }:=by rfl) (hx:S.ev ⟨tm,st,nx,nt⟩ x=some (.int .i64 a):=by rfl) (hy:S.ev ⟨tm,st,nx,nt⟩ y=some (.int .i64 b):=by rfl) (hg:guardV l o ⟨tm,st,nx,nt⟩=some true:=by rfl) (hd:o.dst=some d:=by rfl) (hlt:Nat.blt d nt=true:=by rfl) (h:(if b<a then b else a)=q:=by first|assumption|omega) (hq : -9223372036854775808≤q∧q≤9223372036854775807:=by omega):ARun P N l K (o::r) ⟨tm,st,nx,nt⟩ tr:=r_val hg hd hlt (law_min ho h ⟨by simp only [rng];omega,by simp only [rng];omega⟩) (hT hx (hT hy h0)) k
end
end Go.Proofs.YtlfdjpgghiemfaaGreatDoor.Abs
end
section
namespace Go.Proofs.YtlfdjpgghiemfaaGreatDoor.PolA
open Go.RowKit Mem Abs Globs HostP HostC PathT Rdy JarP JarB JarC PolP
theorem purpose_v {n:Int}:ACalls Tryz.prog 65 [.int .i64 n] (.bool (purp n)):=by
 unfold purp
 by_cases h1:0≤n
 ·rw [decide_eq_true h1]
  by_cases h2:n≤10
  ·rw [decide_eq_true h2]
   refine fun1 tb_ok Tryz.func65 rfl Tryz.ntmps65 Tryz.results65 rfl fun N=>?_
   repeat' (first|refine zt ?_|(refine isR ?_;first|refine zo ?_|refine zc2 ?_|refine zc4 ?_)|refine zr ?_|exact x_le)
   all_goals first|rfl|(exfalso;omega)
  ·rw [decide_eq_false h2]
   refine fun1 tb_ok Tryz.func65 rfl Tryz.ntmps65 Tryz.results65 rfl fun N=>?_
   repeat' (first|refine zt ?_|(refine isR ?_;first|refine zo ?_|refine zc2 ?_|refine zc4 ?_)|refine zr ?_|exact x_le)
   all_goals first|rfl|(exfalso;omega)
 ·rw [decide_eq_false h1]
  refine fun1 tb_ok Tryz.func65 rfl Tryz.ntmps65 Tryz.results65 rfl fun N=>?_
  repeat' (first|refine zt ?_|(refine isR ?_;first|refine zo ?_|refine zc2 ?_|refine zc4 ?_)|refine zr ?_|exact x_le)
  all_goals first|rfl|(exfalso;omega)
abbrev fnC:Abs.V:=.fn (.func 67) [] []
theorem badC_v {n:Int}:ACalls Tryz.prog 67 [.int .i64 n] (.bool (badC n)):=by
 unfold badC
 by_cases h1:n<1
 ·rw [decide_eq_true h1]
  refine fun1 tb_ok Tryz.func67 rfl Tryz.ntmps67 Tryz.results67 rfl fun N=>?_
  repeat' (first|refine zt ?_|(refine isR ?_;first|refine zo ?_|refine zc1 ?_|refine zc3 ?_)|refine zr ?_|exact x_le)
  all_goals first|rfl|(exfalso;omega)
 ·rw [decide_eq_false h1]
  by_cases h2:1000000000<n
  ·rw [decide_eq_true h2]
   refine fun1 tb_ok Tryz.func67 rfl Tryz.ntmps67 Tryz.results67 rfl fun N=>?_
   repeat' (first|refine zt ?_|(refine isR ?_;first|refine zo ?_|refine zc1 ?_|refine zc3 ?_)|refine zr ?_|exact x_le)
   all_goals first|rfl|(exfalso;omega)
  ·rw [decide_eq_false h2]
   refine fun1 tb_ok Tryz.func67 rfl Tryz.ntmps67 Tryz.results67 rfl fun N=>?_
   repeat' (first|refine zt ?_|(refine isR ?_;first|refine zo ?_|refine zc1 ?_|refine zc3 ?_)|refine zr ?_|exact x_le)
   all_goals first|rfl|(exfalso;omega)
theorem idxC_v {L:List Int} (hb:L.length≤1000):ACalls Tryz.prog 98 [.fro (L.map (Abs.V.int .i64)),fnC] (.int .i64 (minI (L.findIdx? badC))):=by
 have hml:(L.map (Abs.V.int .i64)).length=L.length:=List.length_map _
 generalize hR:minI (L.findIdx? badC)=R
 refine fun2 tb_ok Tryz.func98 rfl Tryz.ntmps98 Tryz.results98 rfl fun N=>?_
 repeat' (first|refine zt ?_|(refine isR ?_;first|refine zo ?_|refine zA ?_|refine zL ?_|refine zc1 ?_|refine zI ?_)|refine zr ?_|exact x_le)
 refine awp_for (fun k=>⟨[(0,.fro (L.map (Abs.V.int .i64))),(1,fnC),(7,nV L.length),(8,nV k)],[],0,19⟩) (fun k=>k≤L.length∧∀ j x,j<k→L[j]? = some x→badC x=false) L.length 0 (by exact x_le) ⟨Nat.zero_le _,fun j x h=>by omega⟩ ?_
 rintro k ⟨hk,hd⟩
 by_cases hk2:k<L.length
 ·have hx:L[k]? = some L[k]:=by simp [hk2]
  have hfi:badC L[k]=true→L.findIdx? badC=some k:=fun h=>by
   rw [List.findIdx?_eq_some_iff_getElem]
   exact ⟨hk2,h,fun j hj=>by simp [hd j (L[j]'(by omega)) hj (by simp [show j<L.length by omega])]⟩
  generalize L[k]=c at *
  have hm:=at_map (f:=Abs.V.int .i64) hx
  have c1:=badC_v (n:=c)
  by_cases h:badC c=true
  ·rw [hfi h] at hR
   have hR:(k:Int)=R:=hR
   rw [h] at c1
   repeat' (first|refine zt ?_|(refine isR ?_;first|refine zo ?_|refine x_callv (c1 _) ?_|refine x_callv (c1) ?_|refine zA ?_|refine zL ?_|refine zc1 ?_|refine zI ?_)|refine zr ?_|exact x_le)
   rw [← hR];rfl
  ·have h:badC c=false:=by simpa using h
   rw [h] at c1
   repeat' (first|refine zt ?_|(refine isR ?_;first|refine zo ?_|refine x_callv (c1 _) ?_|refine x_callv (c1) ?_|refine zA ?_|refine zL ?_|refine zc1 ?_|refine zI ?_)|refine zr ?_|exact x_le)
   refine ⟨⟨by omega,fun j x hj hx2=>?_⟩,hk2,(by exact x_le)⟩
   by_cases e:j=k
   ·subst e;rw [hx] at hx2;cases hx2;exact h
   ·exact hd j x (by omega) hx2
 ·obtain rfl:k=L.length:=by omega
  have hn:L.findIdx? badC=none:=by
   rw [List.findIdx?_eq_none_iff]
   intro x hx
   obtain ⟨j,hj⟩:=List.mem_iff_getElem?.1 hx
   rw [hd j x (List.getElem?_eq_some_iff.1 hj).1 hj]
  rw [hn] at hR
  subst hR
  repeat' (first|refine zt ?_|(refine isR ?_;first|refine zo ?_|refine zA ?_|refine zL ?_|refine zc1 ?_|refine zI ?_)|refine zr ?_|exact x_le)
  all_goals rfl
theorem anyC_v {L:List Int} (hb:L.length≤1000):ACalls Tryz.prog 66 [.fro (L.map (Abs.V.int .i64)),fnC] (.bool (L.any badC)):=by
 have c1:=idxC_v hb
 cases hf:L.findIdx? badC with
 | none =>
  rw [hf] at c1
  change ACalls _ _ _ (.int .i64 (-1)) at c1
  have e:L.any badC=false:=by
   rw [List.any_eq_false]
   intro x hx
   rw [List.findIdx?_eq_none_iff] at hf
   simp [hf x hx]
  rw [e]
  refine fun2 tb_ok Tryz.func66 rfl Tryz.ntmps66 Tryz.results66 rfl fun N=>?_
  repeat' (first|refine zt ?_|(refine isR ?_;first|refine zo ?_|refine zk c1 ?_|refine zc4 ?_)|refine zr ?_|exact x_le)
  all_goals first|rfl|(exfalso;omega)
 | some i =>
  rw [hf] at c1
  change ACalls _ _ _ (.int .i64 (i:Int)) at c1
  obtain ⟨hi,hd,_⟩:=List.findIdx?_eq_some_iff_getElem.1 hf
  have e:L.any badC=true:=List.any_eq_true.2 ⟨_,List.getElem_mem hi,hd⟩
  rw [e]
  refine fun2 tb_ok Tryz.func66 rfl Tryz.ntmps66 Tryz.results66 rfl fun N=>?_
  repeat' (first|refine zt ?_|(refine isR ?_;first|refine zo ?_|refine zk c1 ?_|refine zc4 ?_)|refine zr ?_|exact x_le)
  all_goals first|rfl|(exfalso;omega)
abbrev stK (p:Pol) (k:Nat):S:=⟨[(1,.fp (V.cells (polV p)) 0),(10,.fro (p.rules.map Rule.v)),(11,nV p.rules.length),(12,nV k)],[],0,65⟩
theorem drop_at {L:List Rule} {k:Nat} {r:Rule} (h:L[k]? = some r):L.drop k=r::L.drop (k+1):=by
 obtain ⟨hk,e⟩:=List.getElem?_eq_some_iff.1 h
 rw [List.drop_eq_getElem_cons hk,e]
theorem pcheck_v {p:Pol}:ACalls Tryz.prog 34 [polV p] (.int .i64 ((checkP p:Nat):Int)):=by
 have hml:(p.rules.map Rule.v).length=p.rules.length:=List.length_map _
 have c3:=anyC_v (L:=capsL p.caps) (show 11≤1000 by decide)
 have c2:=purpose_v (n:=p.dflt)
 unfold checkP badCs
 by_cases h0:12<p.rules.length
 ·rw [if_pos h0]
  refine fun1 tb_ok Tryz.func34 rfl Tryz.ntmps34 Tryz.results34 rfl fun N=>?_
  repeat' (first|refine zt ?_|(refine isR ?_;first|refine zo ?_|refine zA ?_|refine zL ?_|refine zc1 ?_|refine zc3 ?_|refine zc5 ?_|refine zI ?_|(refine zs1 ?_ ?_<;>intro hc)|(refine zs5 ?_ ?_<;>intro hc))|refine zr ?_|exact x_le)
  all_goals first|rfl|(exfalso;omega)
 rw [if_neg h0]
 generalize hR:(if codeRs p.rules≠0 then codeRs p.rules else if purp p.dflt=false∨(capsL p.caps).any badC=true then 3 else 0)=R
 refine fun1 tb_ok Tryz.func34 rfl Tryz.ntmps34 Tryz.results34 rfl fun N=>?_
 repeat' (first|refine zt ?_|(refine isR ?_;first|refine zo ?_|refine zA ?_|refine zL ?_|refine zc1 ?_|refine zc3 ?_|refine zc5 ?_|refine zI ?_|(refine zs1 ?_ ?_<;>intro hc)|(refine zs5 ?_ ?_<;>intro hc))|refine zr ?_|exact x_le)
 refine awp_for (fun k=>stK p k) (fun k=>k≤p.rules.length∧codeRs (p.rules.drop k)=codeRs p.rules) p.rules.length 0 (by exact x_le) ⟨Nat.zero_le _,rfl⟩ ?_
 rintro k ⟨hk,hcd⟩
 by_cases hk2:k<p.rules.length
 ·have hx:p.rules[k]? = some p.rules[k]:=by simp [hk2]
  generalize p.rules[k]=r at *
  have hm:=at_map (f:=Rule.v) hx
  rw [drop_at hx,codeRs] at hcd
  have c1:=purpose_v (n:=r.purpose)
  have c4:=host_v (l:=r.text)
  have bad:codeR r≠0→codeR r=R:=fun h=>by rw [if_neg h] at hcd;rw [← hcd,if_pos h] at hR;exact hR
  by_cases h1:r.kind<1∨4<r.kind
  ·have e:codeR r=7:=by unfold codeR;rw [if_pos h1]
   rw [e] at bad
   rw [← bad (by decide)]
   repeat' (first|refine zt ?_|(refine isR ?_;first|refine zo ?_|refine zA ?_|refine zL ?_|refine zc1 ?_|refine zc3 ?_|refine zc5 ?_|refine zI ?_|(refine zs1 ?_ ?_<;>intro hc)|(refine zs5 ?_ ?_<;>intro hc))|refine zr ?_|exact x_le)
   all_goals first|rfl|(exfalso;omega)
  by_cases h2:r.text=[]
  ·have e:codeR r=1:=by unfold codeR;rw [if_neg h1,if_pos (.inl h2)]
   rw [e] at bad
   rw [← bad (by decide)]
   repeat' (first|refine zt ?_|(refine isR ?_;first|refine zo ?_|refine zA ?_|refine zL ?_|refine zc1 ?_|refine zc3 ?_|refine zc5 ?_|refine zI ?_|(refine zs1 ?_ ?_<;>intro hc)|(refine zs5 ?_ ?_<;>intro hc))|refine zr ?_|exact x_le)
   all_goals first|rfl|(exfalso;omega)
  by_cases h3:400<r.text.length
  ·have e:codeR r=1:=by unfold codeR;rw [if_neg h1,if_pos (.inr (.inl h3))]
   rw [e] at bad
   rw [← bad (by decide)]
   repeat' (first|refine zt ?_|(refine isR ?_;first|refine zo ?_|refine zA ?_|refine zL ?_|refine zc1 ?_|refine zc3 ?_|refine zc5 ?_|refine zI ?_|(refine zs1 ?_ ?_<;>intro hc)|(refine zs5 ?_ ?_<;>intro hc))|refine zr ?_|exact x_le)
   all_goals first|rfl|(exfalso;omega)
  by_cases h4:r.kind=4∧hostOk r.text=false
  ·have e:codeR r=1:=by unfold codeR;rw [if_neg h1,if_pos (.inr (.inr h4))]
   rw [e] at bad
   rw [← bad (by decide)]
   obtain ⟨h4,h5⟩:=h4
   rw [h5] at c4
   repeat' (first|refine zt ?_|(refine isR ?_;first|refine zo ?_|refine zk c4 ?_|refine zA ?_|refine zL ?_|refine zc1 ?_|refine zc3 ?_|refine zc5 ?_|refine zI ?_|(refine zs1 ?_ ?_<;>intro hc)|(refine zs5 ?_ ?_<;>intro hc))|refine zr ?_|exact x_le)
   all_goals first|rfl|(exfalso;omega)
  have hf:¬ (r.text=[]∨400<r.text.length∨(r.kind=4∧hostOk r.text=false)):=fun h=>h.elim h2 fun h=>h.elim h3 h4
  have h5:r.kind=4→hostOk r.text=true:=fun h=>by
   cases hh:hostOk r.text with
   | true=>rfl
   | false=>exact absurd ⟨h,hh⟩ h4
  have c4:r.kind=4→ACalls Tryz.prog 59 [strT r.text] (.bool true):=fun h=>by rw [h5 h] at c4;exact c4
  by_cases h6:purp r.purpose=false∨r.vendor<0∨40<r.vendor
  ·have e:codeR r=3:=by unfold codeR;rw [if_neg h1,if_neg hf,if_pos h6]
   rw [e] at bad
   rw [← bad (by decide)]
   by_cases h7:purp r.purpose=false
   ·rw [h7] at c1
    repeat' (first|refine zt ?_|(refine isR ?_;first|refine zo ?_|refine zk ((c4 (by assumption))) ?_|refine zk c1 ?_|refine zA ?_|refine zL ?_|refine zc1 ?_|refine zc3 ?_|refine zc5 ?_|refine zI ?_|(refine zs1 ?_ ?_<;>intro hc)|(refine zs5 ?_ ?_<;>intro hc))|refine zr ?_|exact x_le)
    all_goals first|rfl|(exfalso;omega)
   ·have h8:r.vendor<0∨40<r.vendor:=h6.resolve_left h7
    have h7:purp r.purpose=true:=by simpa using h7
    rw [h7] at c1
    repeat' (first|refine zt ?_|(refine isR ?_;first|refine zo ?_|refine zk ((c4 (by assumption))) ?_|refine zk c1 ?_|refine zA ?_|refine zL ?_|refine zc1 ?_|refine zc3 ?_|refine zc5 ?_|refine zI ?_|(refine zs1 ?_ ?_<;>intro hc)|(refine zs5 ?_ ?_<;>intro hc))|refine zr ?_|exact x_le)
    all_goals first|rfl|(exfalso;omega)
  ·have e:codeR r=0:=by unfold codeR;rw [if_neg h1,if_neg hf,if_neg h6]
   rw [if_pos e] at hcd
   have h7:purp r.purpose=true:=by
    cases hp:purp r.purpose with
    | true=>rfl
    | false=>exact absurd (.inl hp) h6
   have h8:¬ r.vendor<0:=fun h=>h6 (.inr (.inl h))
   have h9:¬ 40<r.vendor:=fun h=>h6 (.inr (.inr h))
   rw [h7] at c1
   repeat' (first|refine zt ?_|(refine isR ?_;first|refine zo ?_|refine zk ((c4 (by assumption))) ?_|refine zk c1 ?_|refine zA ?_|refine zL ?_|refine zc1 ?_|refine zc3 ?_|refine zc5 ?_|refine zI ?_|(refine zs1 ?_ ?_<;>intro hc)|(refine zs5 ?_ ?_<;>intro hc))|refine zr ?_|exact x_le)
   all_goals first|(exfalso;omega)|exact ⟨⟨by omega,hcd⟩,hk2,(by exact x_le)⟩
 ·obtain rfl:k=p.rules.length:=by omega
  rw [List.drop_length] at hcd
  rw [← hcd,codeRs,if_neg (by simp)] at hR
  by_cases h1:purp p.dflt=false
  ·rw [if_pos (.inl h1)] at hR
   subst hR
   rw [h1] at c2
   repeat' (first|refine zt ?_|(refine isR ?_;first|refine zo ?_|refine zk c2 ?_|refine zA ?_|refine zL ?_|refine zc1 ?_|refine zc3 ?_|refine zc5 ?_|refine zI ?_|(refine zs1 ?_ ?_<;>intro hc)|(refine zs5 ?_ ?_<;>intro hc))|refine zr ?_|exact x_le)
   all_goals first|rfl|(exfalso;omega)
  ·have h1:purp p.dflt=true:=by simpa using h1
   rw [h1] at c2 hR
   by_cases h2:(capsL p.caps).any badC=true
   ·rw [if_pos (.inr h2)] at hR
    subst hR
    rw [h2] at c3
    repeat' (first|refine zt ?_|(refine isR ?_;first|refine zo ?_|refine zk c2 ?_|refine x_slA tb_ok ?_|refine zk c3 ?_|refine zA ?_|refine zL ?_|refine zc1 ?_|refine zc3 ?_|refine zc5 ?_|refine zI ?_|(refine zs1 ?_ ?_<;>intro hc)|(refine zs5 ?_ ?_<;>intro hc))|refine zr ?_|exact x_le)
    all_goals first|rfl|(exfalso;omega)
   ·have h2:(capsL p.caps).any badC=false:=by simpa using h2
    rw [h2] at c3 hR
    rw [if_neg (by simp)] at hR
    subst hR
    repeat' (first|refine zt ?_|(refine isR ?_;first|refine zo ?_|refine zk c2 ?_|refine x_slA tb_ok ?_|refine zk c3 ?_|refine zA ?_|refine zL ?_|refine zc1 ?_|refine zc3 ?_|refine zc5 ?_|refine zI ?_|(refine zs1 ?_ ?_<;>intro hc)|(refine zs5 ?_ ?_<;>intro hc))|refine zr ?_|exact x_le)
    all_goals first|rfl|(exfalso;omega)
abbrev TBN:Nat:=146
abbrev TBD:Nat:=147
abbrev byV (r:Rule) (f:Nat):Abs.V:=.agg [strT r.text,.fn (.func f) [] []]
theorem namer1_v {r:Rule} (h:r.kind=1):ACalls Tryz.prog 57 [r.v] (.ifc TBN (byV r 91)):=by
 refine fun1 tb_ok Tryz.func57 rfl Tryz.ntmps57 Tryz.results57 rfl fun N=>?_
 repeat' (first|refine zt ?_|(refine isR ?_;first|refine zo ?_|refine zc5 ?_)|refine zr ?_|exact x_le)
 all_goals first|rfl|(exfalso;omega)
theorem namer2_v {r:Rule} (h:r.kind=2):ACalls Tryz.prog 57 [r.v] (.ifc TBN (byV r 92)):=by
 refine fun1 tb_ok Tryz.func57 rfl Tryz.ntmps57 Tryz.results57 rfl fun N=>?_
 repeat' (first|refine zt ?_|(refine isR ?_;first|refine zo ?_|refine zc5 ?_)|refine zr ?_|exact x_le)
 all_goals first|rfl|(exfalso;omega)
theorem namer3_v {r:Rule} (h:r.kind=3):ACalls Tryz.prog 57 [r.v] (.ifc TBN (byV r 93)):=by
 refine fun1 tb_ok Tryz.func57 rfl Tryz.ntmps57 Tryz.results57 rfl fun N=>?_
 repeat' (first|refine zt ?_|(refine isR ?_;first|refine zo ?_|refine zc5 ?_)|refine zr ?_|exact x_le)
 all_goals first|rfl|(exfalso;omega)
theorem namer4_v {r:Rule} (h:r.kind=4):ACalls Tryz.prog 57 [r.v] (.ifc TBD (strT r.text)):=by
 refine fun1 tb_ok Tryz.func57 rfl Tryz.ntmps57 Tryz.results57 rfl fun N=>?_
 repeat' (first|refine zt ?_|(refine isR ?_;first|refine zo ?_|refine zc5 ?_)|refine zr ?_|exact x_le)
 all_goals first|rfl|(exfalso;omega)
theorem is_v {a b:List UInt8}:ACalls Tryz.prog 91 [strT a,strT b] (.bool (decide (a=b))):=by
 by_cases h:a=b
 ·subst h
  rw [decide_eq_true rfl]
  refine fun2 tb_ok Tryz.func91 rfl Tryz.ntmps91 Tryz.results91 rfl fun N=>?_
  repeat' (first|refine zt ?_|(refine isR ?_;first|refine zo ?_|refine zc5 ?_)|refine zr ?_|exact x_le)
  all_goals first|rfl|(exfalso;simp_all;done)
 ·rw [decide_eq_false h]
  refine fun2 tb_ok Tryz.func91 rfl Tryz.ntmps91 Tryz.results91 rfl fun N=>?_
  repeat' (first|refine zt ?_|(refine isR ?_;first|refine zo ?_|refine zc5 ?_)|refine zr ?_|exact x_le)
  all_goals first|rfl|(exfalso;simp_all;done)
theorem byName_v {r:Rule} {c:Cookie} {f:Nat} {b:Bool} (hb:hasBody Tryz.prog f=true) (h:ACalls Tryz.prog f [strT c.name,strT r.text] (.bool b)):ACalls Tryz.prog 287 [byV r f,c.v] (.bool b):=by
 refine fun2 tb_ok Tryz.func287 rfl Tryz.ntmps287 Tryz.results287 rfl fun N=>?_
 repeat' (first|refine zt ?_|(refine isR ?_;first|refine zo ?_|refine x_callv (h _) ?_|refine x_callv (h) ?_)|refine zr ?_|exact x_le)
 all_goals rfl
theorem byDom_v {r:Rule} {c:Cookie} (hd:c.domain.length≤4398046511104) (ht:r.text.length≤400):ACallsG Tryz.prog gStr 288 [strT r.text,c.v] (.bool (matchF c.domain r.text)):=by
 have h:=match_v (l:=c.domain) (m:=r.text) hd (by omega)
 generalize matchF c.domain r.text=b at *
 refine funG2 tb_ok Tryz.func288 rfl Tryz.ntmps288 Tryz.results288 rfl fun N=>?_
 repeat' (first|refine zt ?_|(refine isR ?_;first|refine zo ?_|refine zk h ?_)|refine zr ?_|exact x_le)
 all_goals rfl
theorem names_at {r : Rule} (c : Cookie) (hr : OkR r) (hd : c.domain.length ≤ 4398046511104) : ∃ (T : Nat) (v : Abs.V) (f : Nat), ACalls Tryz.prog 57 [r.v] (.ifc T v) ∧ MethOf Tryz.prog T "gingersnap/policy.names" f ∧ ACallsG Tryz.prog gStr f [v, c.v] (.bool (namesF r c)) ∧ hasBody Tryz.prog f = true ∧ v.names = [] := by
 have hk:=hr.kind
 have m1 : MethOf Tryz.prog TBN "gingersnap/policy.names" 287 := fun _ _ => by kernel_rfl
 have b1:hasBody Tryz.prog 287=true:=by kernel_rfl
 unfold namesF
 by_cases h1:r.kind=1
 ·rw [if_pos h1]
  exact ⟨_,_,_,namer1_v h1,m1,byName_v (by kernel_rfl) is_v gStr,b1,rfl⟩
 rw [if_neg h1]
 by_cases h2:r.kind=2
 ·rw [if_pos h2]
  exact ⟨_,_,_,namer2_v h2,m1,byName_v (by kernel_rfl) hasPrefix_v gStr,b1,rfl⟩
 rw [if_neg h2]
 by_cases h3:r.kind=3
 ·rw [if_pos h3]
  exact ⟨_,_,_,namer3_v h3,m1,byName_v (by kernel_rfl) hasSuffix_v gStr,b1,rfl⟩
 rw [if_neg h3]
 exact ⟨_,_,_,namer4_v (by omega),fun _ _=>by kernel_rfl,byDom_v hd hr.text,by kernel_rfl,rfl⟩
end Go.Proofs.YtlfdjpgghiemfaaGreatDoor.PolA
end
section
namespace Go.Proofs.YtlfdjpgghiemfaaGreatDoor.PolB
open Go.RowKit Mem Abs Globs HostP HostC PathT Rdy JarP JarB JarC PolP PolA
open ConC (conI intsV)
abbrev stD (p:Pol) (c:Cookie) (k:Nat):S:=⟨[(2,.fp (V.cells (polV p)) 0),(3,.fp (V.cells c.v) 0),(9,.fro (p.rules.map Rule.v)),(10,nV p.rules.length),(11,nV k)],[],0,26⟩
theorem kind_v {p:Pol} {c:Cookie} (h:OkP p) (hd:c.domain.length≤4398046511104):ACallsG Tryz.prog gStr 27 [polV p,c.v] (.tup [.int .i64 (kindF p c).1,.int .i64 (kindF p c).2]):=by
 have hml:(p.rules.map Rule.v).length=p.rules.length:=List.length_map _
 have hlen:=h.len
 unfold kindF
 generalize hF:p.rules.find? (fun r=>namesF r c)=F
 refine funG2 tb_ok Tryz.func27 rfl Tryz.ntmps27 Tryz.results27 rfl fun N=>?_
 repeat' (first|refine zt ?_|(refine isR ?_;first|refine zo ?_|refine zA ?_|refine zL ?_|refine zc1 ?_|refine zI ?_)|refine zr ?_|exact x_le)
 refine awp_for (fun k=>stD p c k) (fun k=>k≤p.rules.length∧(p.rules.drop k).find? (fun r=>namesF r c)=F) p.rules.length 0 (by exact x_le) ⟨Nat.zero_le _,hF⟩ ?_
 rintro k ⟨hk,hf⟩
 by_cases hk2:k<p.rules.length
 ·have hx:p.rules[k]? = some p.rules[k]:=by simp [hk2]
  obtain ⟨T,v,f,h1,h2,h3,h4,h5⟩:=names_at c (h.rules _ (List.getElem_mem hk2)) hd
  generalize p.rules[k]=r at *
  have hm:=at_map (f:=Rule.v) hx
  rw [drop_at hx,List.find?_cons] at hf
  by_cases hn:namesF r c=true
  ·rw [hn] at h3 hf
   subst hf
   repeat' (first|refine zt ?_|(refine isR ?_;first|refine zo ?_|refine zk h1 ?_|refine x_inv h3 h2 ?_ (hb:=h4) (hn:=by rw [V.namesL,h5];rfl)|refine zA ?_|refine zL ?_|refine zc1 ?_|refine zI ?_)|refine zr ?_|exact x_le)
   all_goals rfl
  ·have hn:namesF r c=false:=by simpa using hn
   rw [hn] at h3 hf
   repeat' (first|refine zt ?_|(refine isR ?_;first|refine zo ?_|refine zk h1 ?_|refine x_inv h3 h2 ?_ (hb:=h4) (hn:=by rw [V.namesL,h5];rfl)|refine zA ?_|refine zL ?_|refine zc1 ?_|refine zI ?_)|refine zr ?_|exact x_le)
   exact ⟨⟨by omega,hf⟩,hk2,(by exact x_le)⟩
 ·obtain rfl:k=p.rules.length:=by omega
  rw [List.drop_length] at hf
  subst hf
  repeat' (first|refine zt ?_|(refine isR ?_;first|refine zo ?_|refine zA ?_|refine zL ?_|refine zc1 ?_|refine zI ?_)|refine zr ?_|exact x_le)
  all_goals rfl
theorem index_v {L:List Int} {v:Int}:ACalls Tryz.prog 94 [intsV L,.int .i64 v] (.int .i64 (minI (L.findIdx? fun x=>decide (x=v)))):=ACalls.lim fun hl=>by
 have hlen:=ConC.ints_len hl.1
 clear hl
 have hml:(L.map (Abs.V.int .i64)).length=L.length:=List.length_map _
 generalize hR:minI (L.findIdx? fun x=>decide (x=v))=R
 refine fun2 tb_ok Tryz.func94 rfl Tryz.ntmps94 Tryz.results94 rfl fun N=>?_
 repeat' (first|refine zt ?_|(refine isR ?_;first|refine zo ?_|refine zA ?_|refine zL ?_|refine zc1 ?_|refine zc5 ?_|refine zI ?_)|refine zr ?_|exact x_le)
 refine awp_for (fun k=>⟨[(0,intsV L),(1,.int .i64 v),(7,nV L.length),(8,nV k)],[],0,19⟩) (fun k=>k≤L.length∧∀ j x,j<k→L[j]? = some x→x≠v) L.length 0 (by exact x_le) ⟨Nat.zero_le _,fun j x h=>by omega⟩ ?_
 rintro k ⟨hk,hd⟩
 by_cases hk2:k<L.length
 ·have hx:L[k]? = some L[k]:=by simp [hk2]
  have hfi:L[k]=v→L.findIdx? (fun x=>decide (x=v))=some k:=fun h=>by
   rw [List.findIdx?_eq_some_iff_getElem]
   exact ⟨hk2,by simp [h],fun j hj=>by simp [hd j (L[j]'(by omega)) hj (by simp [show j<L.length by omega])]⟩
  generalize L[k]=c at *
  have hm:=at_map (f:=Abs.V.int .i64) hx
  by_cases h:v=c
  ·rw [hfi h.symm] at hR
   have hR:(k:Int)=R:=hR
   repeat' (first|refine zt ?_|(refine isR ?_;first|refine zo ?_|refine zA ?_|refine zL ?_|refine zc1 ?_|refine zc5 ?_|refine zI ?_)|refine zr ?_|exact x_le)
   all_goals first|(rw [← hR];rfl)|(exfalso;omega)
  ·skip
   repeat' (first|refine zt ?_|(refine isR ?_;first|refine zo ?_|refine zA ?_|refine zL ?_|refine zc1 ?_|refine zc5 ?_|refine zI ?_)|refine zr ?_|exact x_le)
   all_goals first|(exfalso;omega)|skip
   refine ⟨⟨by omega,fun j x hj hx2=>?_⟩,hk2,(by exact x_le)⟩
   by_cases e:j=k
   ·subst e;rw [hx] at hx2;cases hx2;exact fun e=>h e.symm
   ·exact hd j x (by omega) hx2
 ·obtain rfl:k=L.length:=by omega
  have hn:L.findIdx? (fun x=>decide (x=v))=none:=by
   rw [List.findIdx?_eq_none_iff]
   intro x hx
   obtain ⟨j,hj⟩:=List.mem_iff_getElem?.1 hx
   simp [hd j x (List.getElem?_eq_some_iff.1 hj).1 hj]
  rw [hn] at hR
  subst hR
  repeat' (first|refine zt ?_|(refine isR ?_;first|refine zo ?_|refine zA ?_|refine zL ?_|refine zc1 ?_|refine zc5 ?_|refine zI ?_)|refine zr ?_|exact x_le)
  all_goals rfl
theorem contains_v {L:List Int} {v:Int}:ACalls Tryz.prog 58 [intsV L,.int .i64 v] (.bool (L.contains v)):=by
 have c1:=index_v (L:=L) (v:=v)
 cases hf:L.findIdx? (fun x=>decide (x=v)) with
 | none =>
  rw [hf] at c1
  change ACalls _ _ _ (.int .i64 (-1)) at c1
  have e:L.contains v=false:=by
   rw [List.contains_eq_any_beq,List.any_eq_false]
   intro x hx
   rw [List.findIdx?_eq_none_iff] at hf
   have:=hf x hx
   simp at this
   simp
   exact fun h=>this h.symm
  rw [e]
  refine fun2 tb_ok Tryz.func58 rfl Tryz.ntmps58 Tryz.results58 rfl fun N=>?_
  repeat' (first|refine zt ?_|(refine isR ?_;first|refine zo ?_|refine zk c1 ?_|refine zc4 ?_)|refine zr ?_|exact x_le)
  all_goals first|rfl|(exfalso;omega)
 | some i =>
  rw [hf] at c1
  change ACalls _ _ _ (.int .i64 (i:Int)) at c1
  obtain ⟨hi,hd,_⟩:=List.findIdx?_eq_some_iff_getElem.1 hf
  have e:L.contains v=true:=by
   rw [List.contains_iff_mem]
   have:L[i]=v:=by simpa using hd
   rw [← this]
   exact List.getElem_mem hi
  rw [e]
  refine fun2 tb_ok Tryz.func58 rfl Tryz.ntmps58 Tryz.results58 rfl fun N=>?_
  repeat' (first|refine zt ?_|(refine isR ?_;first|refine zo ?_|refine zk c1 ?_|refine zc4 ?_)|refine zr ?_|exact x_le)
  all_goals first|rfl|(exfalso;omega)
theorem pur_at {g:Int} {P:Nat→Bool} {U:List Int} {k:Int} (h1:1≤k) (h2:k≤10):subV (V.cells (conI g P U)) (1+(k-1).toNat*1) false 1=some (.bool (P (k-1).toNat)):=by
 have:k=1∨k=2∨k=3∨k=4∨k=5∨k=6∨k=7∨k=8∨k=9∨k=10:=by omega
 rcases this with rfl|rfl|rfl|rfl|rfl|rfl|rfl|rfl|rfl|rfl<;>rfl
theorem cap_at {p:Pol} {k:Int} (h1:0≤k) (h2:k≤10):subV (V.cells (polV p)) (2+k.toNat*1) false 1=some (.int .i64 (p.caps k.toNat)):=by
 have:k=0∨k=1∨k=2∨k=3∨k=4∨k=5∨k=6∨k=7∨k=8∨k=9∨k=10:=by omega
 rcases this with rfl|rfl|rfl|rfl|rfl|rfl|rfl|rfl|rfl|rfl|rfl<;>rfl
theorem may_v {g:Int} {P:Nat→Bool} {U:List Int} {k v:Int} (h1:0≤k) (h2:k≤10):ACalls Tryz.prog 28 [conI g P U,.int .i64 k,.int .i64 v] (.bool (mayF P U k v)):=by
 have c1:=contains_v (L:=U) (v:=v)
 have hq:=fun h=>pur_at (g:=g) (P:=P) (U:=U) (k:=k) h h2
 have hp:purp k=true:=purp_iff.2 ⟨h1,h2⟩
 unfold mayF
 rw [hp,Bool.true_and]
 generalize P (k-1).toNat=q at *
 by_cases h0:k=0
 ·subst h0
  rw [decide_eq_true rfl,Bool.true_or,Bool.true_and]
  by_cases hv:v=0
  ·rw [decide_eq_true hv,Bool.true_or]
   refine fun3 tb_ok Tryz.func28 rfl Tryz.ntmps28 Tryz.results28 rfl fun N=>?_
   repeat' (first|refine zt ?_|(refine isR ?_;first|refine zo ?_|refine zA ?_|refine zc1 ?_|refine zc3 ?_|refine zc5 ?_|refine zc6 ?_|refine zI ?_)|refine zr ?_|exact x_le)
   all_goals first|rfl|(exfalso;omega)
  ·rw [decide_eq_false hv,Bool.false_or]
   refine fun3 tb_ok Tryz.func28 rfl Tryz.ntmps28 Tryz.results28 rfl fun N=>?_
   repeat' (first|refine zt ?_|(refine isR ?_;first|refine zo ?_|refine zk c1 ?_|refine zA ?_|refine zc1 ?_|refine zc3 ?_|refine zc5 ?_|refine zc6 ?_|refine zI ?_)|refine zr ?_|exact x_le)
   all_goals first|rfl|(exfalso;omega)
 ·have hq:=hq (by omega)
  rw [decide_eq_false h0,Bool.false_or]
  cases q with
  | false =>
   refine fun3 tb_ok Tryz.func28 rfl Tryz.ntmps28 Tryz.results28 rfl fun N=>?_
   repeat' (first|refine zt ?_|(refine isR ?_;first|refine zo ?_|refine x_ldF tb_ok hq ?_|refine zA ?_|refine zc1 ?_|refine zc3 ?_|refine zc5 ?_|refine zc6 ?_|refine zI ?_)|refine zr ?_|exact x_le)
   all_goals first|rfl|(exfalso;omega)
  | true =>
   rw [Bool.true_and]
   by_cases hv:v=0
   ·rw [decide_eq_true hv,Bool.true_or]
    refine fun3 tb_ok Tryz.func28 rfl Tryz.ntmps28 Tryz.results28 rfl fun N=>?_
    repeat' (first|refine zt ?_|(refine isR ?_;first|refine zo ?_|refine x_ldF tb_ok hq ?_|refine zA ?_|refine zc1 ?_|refine zc3 ?_|refine zc5 ?_|refine zc6 ?_|refine zI ?_)|refine zr ?_|exact x_le)
    all_goals first|rfl|(exfalso;omega)
   ·rw [decide_eq_false hv,Bool.false_or]
    refine fun3 tb_ok Tryz.func28 rfl Tryz.ntmps28 Tryz.results28 rfl fun N=>?_
    repeat' (first|refine zt ?_|(refine isR ?_;first|refine zo ?_|refine x_ldF tb_ok hq ?_|refine zk c1 ?_|refine zA ?_|refine zc1 ?_|refine zc3 ?_|refine zc5 ?_|refine zc6 ?_|refine zI ?_)|refine zr ?_|exact x_le)
    all_goals first|rfl|(exfalso;omega)
theorem lets_v {p:Pol} {c:Cookie} {g:Int} {P:Nat→Bool} {U:List Int} (h:OkP p) (hd:c.domain.length≤4398046511104):ACallsG Tryz.prog gStr 10 [polV p,conI g P U,c.v] (.bool (letsF p P U c)):=by
 have c1:=kind_v h hd
 obtain ⟨h1,h2⟩:=kind_ok h c
 unfold letsF
 generalize (kindF p c).1=k at *
 generalize (kindF p c).2=v at *
 have c2:=may_v (g:=g) (P:=P) (U:=U) (v:=v) h1 h2
 generalize mayF P U k v=b at *
 refine funG3 tb_ok Tryz.func10 rfl Tryz.ntmps10 Tryz.results10 rfl fun N=>?_
 repeat' (first|refine zt ?_|(refine isR ?_;first|refine zo ?_|refine zk c1 ?_|refine zk c2 ?_)|refine zr ?_|exact x_le)
 all_goals rfl
theorem after_v {n s:Int} (h:isJ n=true) (h1:0≤s) (h2:s≤1000000000):ACalls Tryz.prog 165 [.int .i64 n,.int .i64 s] (.int .i64 (afterF n s)):=by
 unfold isJ at h
 simp at h
 unfold afterF
 have hq:(if s<253402300799-n then s else 253402300799-n)≤1000000000∧0≤(if s<253402300799-n then s else 253402300799-n):=by split<;>omega
 generalize hm:(if s<253402300799-n then s else 253402300799-n)=q at *
 refine fun2 tb_ok Tryz.func165 rfl Tryz.ntmps165 Tryz.results165 rfl fun N=>?_
 repeat' (first|refine zt ?_|(refine isR ?_;first|refine zo ?_|refine x_min (q:Int) (h:=hm) ?_|refine zA ?_|refine zc1 ?_)|refine zr ?_|exact x_le)
 all_goals first|rfl|(exfalso;omega)
theorem capsRaw_v {p:Pol} {c:Cookie} (h:OkP p) (hd:c.domain.length≤4398046511104) (hc:isJ c.created=true):ACallsG Tryz.prog gStr 124 [polV p,c.v] (.int .i64 (capF p c)):=by
 have c1:=kind_v h hd
 obtain ⟨h1,h2⟩:=kind_ok h c
 unfold capF
 generalize (kindF p c).1=k at *
 generalize (kindF p c).2=v at *
 have hq:=cap_at (p:=p) h1 h2
 have h3:=h.caps k.toNat (by omega)
 have c2:=after_v (s:=p.caps k.toNat) hc (by omega) (by omega)
 generalize p.caps k.toNat=s at *
 generalize hA:afterF c.created s=a at *
 refine funG2 tb_ok Tryz.func124 rfl Tryz.ntmps124 Tryz.results124 rfl fun N=>?_
 repeat' (first|refine zt ?_|(refine isR ?_;first|refine zo ?_|refine zk c1 ?_|refine x_ldF tb_ok hq ?_|refine zk c2 ?_|refine zI ?_)|refine zr ?_|exact x_le)
 all_goals first|rfl|(exfalso;omega)
theorem jar_day {n:Int} (h:isJ n=true) : -11644473600≤n∧n≤253402300799:=by unfold isJ at h;simpa using h
theorem exp_in {c:Cookie} (h:c.v.Lim) : -9223372036854775808≤c.expiry∧c.expiry≤9223372036854775807:=by
 rw [Cookie.v,V.Lim] at h
 exact h.2.2.2.2.2.2.2.2.2.1
theorem clamped_v {p:Pol} {c:Cookie} (h:OkP p) (hd:c.domain.length≤4398046511104) (hc:isJ c.created=true):ACallsG Tryz.prog gStr 100 [polV p,c.v] (clampF p c).v:=ACallsG.lim fun hl=>by
 have c1:=capsRaw_v h hd hc
 have hx:=exp_in hl.2.1
 unfold clampF
 have hb:capF p c≤253402300799 ∧ -11644473600≤capF p c:=by
  have:=jar_day hc
  obtain ⟨h1,h2⟩:=kind_ok h c
  have h3:=h.caps (kindF p c).1.toNat (by omega)
  unfold capF afterF
  split<;>omega
 generalize capF p c=a at *
 generalize hm:(if a<c.expiry then a else c.expiry)=q at *
 refine funG2 tb_ok Tryz.func100 rfl Tryz.ntmps100 Tryz.results100 rfl fun N=>?_
 repeat' (first|refine zt ?_|(refine isR ?_;first|refine x_far [3] tb_ok rfl ?_|refine zn ?_|refine zk c1 ?_|refine x_min (q:Int) (h:=hm) ?_)|refine zr ?_|exact x_le)
 all_goals first|rfl|(exfalso;omega)
end Go.Proofs.YtlfdjpgghiemfaaGreatDoor.PolB
end
