/- Texts of the proof, joined: ConC, Min, PolA, PolB. -/
import Derived.Test.YtlfdjpgghiemfaaGreatDoorG26
set_option maxHeartbeats 4000000
set_option maxRecDepth 100000
namespace Go.Proofs.YtlfdjpgghiemfaaGreatDoor
namespace mY
open Go.RowKit Mem Abs Scan gH GZ Hu
variable {L:List Int} {k:Nat} {g:Int}
abbrev eZ (n:Nat):V:=.int .i64 (n:Int)
abbrev Fj (l:List Nat):V:=.fro (l.map eZ)
abbrev gL (L:List Int):V:=.fro (L.map (V.int .i64))
abbrev Xr (P:Nat→Bool):List V:=[.bool (P 0),.bool (P 1),.bool (P 2),.bool (P 3),.bool (P 4),.bool (P 5),.bool (P 6),.bool (P 7),.bool (P 8),.bool (P 9)]
abbrev gK (g:Int) (P:Nat→Bool) (L:List Int):V:=.agg [.int .i64 g,.bool (P 0),.bool (P 1),.bool (P 2),.bool (P 3),.bool (P 4),.bool (P 5),.bool (P 6),.bool (P 7),.bool (P 8),.bool (P 9),gL L]
abbrev Ii (g:Nat) (P:Nat→Bool) (U:List Nat):V:=.agg [.int .i64 (g:Int),.bool (P 0),.bool (P 1),.bool (P 2),.bool (P 3),.bool (P 4),.bool (P 5),.bool (P 6),.bool (P 7),.bool (P 8),.bool (P 9),Fj U]
theorem QC (U:List Nat):Fj U=gL (toI U):=by unfold Fj gL toI;rw [List.map_map];rfl
theorem Em (g:Nat) (P:Nat→Bool) (U:List Nat):Ii g P U=gK (g:Int) P (toI U):=by rw [Ii,gK,QC]
theorem xE (h:(gL L).Lim):L.length≤140737488355328:=by
 rw [gL,V.Lim,List.length_map] at h
 exact h.1
theorem Yr {P:Nat→Bool} (h:(gK g P L).Lim):L.length≤140737488355328:=by
 rw [gK,V.Lim] at h
 exact xE h.2.2.2.2.2.2.2.2.2.2.2.1
theorem di {α:Type} {f:α→V} {L:List α} {x:α} (h:L[k]? = some x):(L.map f)[k]? = some (f x):=by rw [List.getElem?_map,h];rfl
theorem getD_at {x:Int} (h:L[k]? = some x):L.getD k 0=x:=by rw [List.getD_eq_getElem?_getD,h];rfl
theorem lq {P:Nat→Bool}:aj Tryz.prog 36 [gK g P L] (.int .i64 ((bF.check g L:Nat):Int)):=aj.lim fun hl=>by
 have hlen:=Yr hl.1
 clear hl
 have hml:(L.map (V.int .i64)).length=L.length:=List.length_map _
 unfold bF.check bF.VY
 by_cases hg:g<0∨68719476735<g
 ·rw [if_pos hg,if_neg (by decide)]
  refine aW af Tryz.func36 rfl Tryz.ntmps36 Tryz.results36 rfl fun N=>?_
  repeat' (first|refine zW ?_|(refine zs ?_ ?_<;>intro hc)|exact ai)
  all_goals first|rfl|(exfalso;omega)
 ·rw [if_neg hg,if_pos rfl]
  have hg1:¬ g<0:=by omega
  have hg2:¬ 68719476735<g:=by omega
  refine aW af Tryz.func36 rfl Tryz.ntmps36 Tryz.results36 rfl fun N=>?_
  repeat' (first|refine zW ?_|(refine zs ?_ ?_<;>intro hc)|exact ai)
  refine bM (fun k=>⟨[(1,.fp (V.cells (gK g P L)) 0),(14,gL L),(15,.int .i64 ((L.map (V.int .i64)).length:Int)),(16,.int .i64 (k:Int))],[],0,42⟩) (fun k=>k≤L.length∧scan (bF.kV L) k=0) L.length 0 (by exact ai) ⟨Nat.zero_le _,rfl⟩ ?_
  rintro k ⟨hk,hs⟩
  by_cases hk2:k<L.length
  ·have hx:L[k]? = some L[k]:=by simp [hk2]
   have hd:=getD_at hx
   have hst:=F3 (f:=bF.kV L) (k:=k) (n:=L.length) hs
   have hnx:=y7 (f:=bF.kV L) (k:=k) hs
   generalize L[k]=x at *
   have hm:=di (f:=V.int .i64) hx
   by_cases h1:x<1∨40<x
   ·have hc:bF.kV L k=3:=by unfold bF.kV;rw [hd,if_pos h1]
    rw [hst (by rw [hc];decide) hk2,hc]
    repeat' (first|refine zW ?_|(refine zs ?_ ?_<;>intro hc)|exact ai)
    all_goals first|rfl|(exfalso;omega)
   ·have h2:¬ x<1:=by omega
    have h3:¬ 40<x:=by omega
    rcases Nat.eq_zero_or_pos k with rfl|hk0
    ·have hc:bF.kV L 0=0:=by unfold bF.kV;rw [hd,if_neg h1,if_neg (by omega)]
     have hn0:=hnx hc
     repeat' (first|refine zW ?_|(refine zs ?_ ?_<;>intro hc)|exact ai)
     exact ⟨⟨by omega,hn0⟩,hk2,(by exact ai)⟩
    ·have hk1:((k:Int)-1)=((k-1:Nat):Int):=by omega
     have hx':L[k-1]? = some (L[k-1]'(by omega)):=by simp [show k-1<L.length by omega]
     have hd':=getD_at hx'
     generalize L[k-1]'(by omega)=y at *
     have hm':=di (f:=V.int .i64) hx'
     by_cases h4:x≤y
     ·have hc:bF.kV L k=4:=by unfold bF.kV;rw [hd,hd',if_neg h1,if_pos ⟨hk0,h4⟩]
      rw [hst (by rw [hc];decide) hk2,hc]
      repeat' (first|refine zW ?_|(refine zs ?_ ?_<;>intro hc)|exact ai)
      all_goals first|rfl|(exfalso;omega)
     ·have hc:bF.kV L k=0:=by unfold bF.kV;rw [hd,hd',if_neg h1,if_neg (fun h=>h4 h.2)]
      have hn0:=hnx hc
      repeat' (first|refine zW ?_|(refine zs ?_ ?_<;>intro hc)|exact ai)
      exact ⟨⟨by omega,hn0⟩,hk2,(by exact ai)⟩
  ·obtain rfl:k=L.length:=by omega
   rw [hs]
   repeat' (first|refine zW ?_|(refine zs ?_ ?_<;>intro hc)|exact ai)
   all_goals first|rfl|(exfalso;omega)
theorem NP {K:List Int}:aj Tryz.prog 53 [gL L,gL K] (.bool (decide (L=K))):=aj.lim fun hl=>by
 have hlen:=xE hl.1
 have hlen2:=xE hl.2.1
 clear hl
 have hml:(L.map (V.int .i64)).length=L.length:=List.length_map _
 have hmk:(K.map (V.int .i64)).length=K.length:=List.length_map _
 by_cases he:L.length=K.length
 ·refine aX af Tryz.func53 rfl Tryz.ntmps53 Tryz.results53 rfl fun N=>?_
  repeat' (first|refine zW ?_|exact ai)
  refine bM (fun k=>⟨[(0,gL L),(1,gL K),(5,.int .i64 (k:Int))],[],0,26⟩) (fun k=>k≤L.length∧L.take k=K.take k) L.length 0 (by exact ai) ⟨Nat.zero_le _,rfl⟩ ?_
  rintro k ⟨hk,hn⟩
  by_cases hk2:k<L.length
  ·have hx:L[k]? = some L[k]:=by simp [hk2]
   have hy:K[k]? = some (K[k]'(by omega)):=by simp [show k<K.length by omega]
   generalize L[k]=x at *
   generalize K[k]'(by omega)=y at *
   have hm:=di (f:=V.int .i64) hx
   have hm':=di (f:=V.int .i64) hy
   by_cases h:x=y
   ·subst h
    repeat' (first|refine zW ?_|exact ai)
    refine ⟨⟨by omega,?_⟩,hk2,(by exact ai)⟩
    rw [List.take_add_one,List.take_add_one,hn,hx,hy]
   ·have hne:decide (L=K)=false:=decide_eq_false fun e=>by
     subst e
     rw [hx] at hy
     exact h (Option.some.inj hy)
    rw [hne]
    repeat' (first|refine zW ?_|exact ai)
    rfl
  ·have e:L=K:=by
    rw [List.take_of_length_le (by omega),List.take_of_length_le (by omega)] at hn
    exact hn
   rw [decide_eq_true e]
   repeat' (first|refine zW ?_|exact ai)
   rfl
 ·have hne:decide (L=K)=false:=decide_eq_false fun e=>he (by rw [e])
  rw [hne]
  refine aX af Tryz.func53 rfl Tryz.ntmps53 Tryz.results53 rfl fun N=>?_
  repeat' (first|refine zW ?_|exact ai)
  rfl
theorem aa1 {P:Nat→Bool}:aj Tryz.prog 23 [gK g P L,gK g P L] (.bool true):=by
 have c:=NP (L:=L) (K:=L)
 rw [decide_eq_true rfl] at c
 have hp:eqI (Xr P) (Xr P) (List.range 10)=true:=by
  show (decide (P 0=P 0)&&(decide (P 1=P 1)&&(decide (P 2=P 2)&&(decide (P 3=P 3)&&(decide (P 4=P 4)&&(decide (P 5=P 5)&&(decide (P 6=P 6)&&(decide (P 7=P 7)&&(decide (P 8=P 8)&&(decide (P 9=P 9)&&true))))))))))=true
  simp
 refine aX af Tryz.func23 rfl Tryz.ntmps23 Tryz.results23 rfl fun N=>?_
 repeat' (first|refine zV ?_|(refine isR ?_;first|refine vT af ?_|refine zk c ?_)|refine zW ?_|exact ai)
 all_goals first|rfl|(exfalso;omega)
abbrev noC:V:=.agg [.int .i64 0,.bool false,.bool false,.bool false,.bool false,.bool false,.bool false,.bool false,.bool false,.bool false,.bool false,.nils]
end mY
namespace Abs
open Go.RowKit Mem Facts
section
variable {P:Program} {N:Env} {M:Nat→Prop} {o:Oper} {s:S} {a:Act} {x y:Operand} {w:World}
variable {n q:Int}
theorem WG {t t':TypeId} {m:Int} (ho:o.op = .call { callee:=.builtin .min,args := #[x,y],argTypes := #[t,t'] }) (h:(if n<m then n else m)=q) (hq:InR .i64 q):aC P N o ⟨[(x,.int .i64 m),(y,.int .i64 n)],[]⟩ (.int .i64 q) [] []:=aD fun s M A φ ac w hh hr=>by
 refine ⟨.int .i64 q,?_,.fz (.int hq)⟩
 unfold execOp
 simp only [ho,resolve,Sem.run_bind,Sem.run_pure,Result.andThen_ok,invoke,builtin,List.map_toArray,List.map_cons,List.map_nil,hr.int hh.a,hr.int hh.b]
 subst h
 simp [Builtin.min_,Builtin.min2]
theorem Yb {t:TypeId} (ho:o.op = .unOp .neg t x) (h : -n=q) (hq : -9223372036854775808≤q∧q≤9223372036854775807):aC P N o ⟨[(x,.int .i64 n)],[]⟩ (.int .i64 q) [] []:=aD fun s M A φ a w hh hr =>
 ⟨.int .i64 q,by
  subst h
  unfold execOp
  simp only [ho,hr.int hh.a,Op.unary,Op.intArith,Sem.run_bind,Sem.run_pure,Result.andThen_ok]
  exact congrArg (fun z=>Result.ok (Next.value (Value.int .i64 z)) w) (by rw [Int.zero_sub];exact wrap64 hq.1 hq.2),.fz (.int ⟨by simp only [rng];omega,by simp only [rng];omega⟩)⟩
end
section
variable {P:Program} {N:Env} {l r:List Oper} {o:Oper} {tm:List (Nat × V)} {st:List (Nat × Option Blk)} {nx nt:Nat} {tr:List Tr} {K:S→List Tr→Prop} {d:Nat} {t t':TypeId} {x y:Operand} {a b:Int}
theorem UO (q:Int) (k:ay P N l K r ⟨(d,.int .i64 q)::tm,st,nx,nt⟩ (tr++[aH l o ⟨[(x,.int .i64 a),(y,.int .i64 b)],[]⟩ []])) (ho:o.op = .call { callee:=.builtin .min,args := #[x,y],argTypes := #[t,t'] }:=by rfl) (hx:S.ev ⟨tm,st,nx,nt⟩ x=some (.int .i64 a):=by rfl) (hy:S.ev ⟨tm,st,nx,nt⟩ y=some (.int .i64 b):=by rfl) (hg:ax l o ⟨tm,st,nx,nt⟩=some true:=by rfl) (hd:o.dst=some d:=by rfl) (hlt:Nat.blt d nt=true:=by rfl) (h:(if b<a then b else a)=q:=by first|assumption|omega) (hq : -9223372036854775808≤q∧q≤9223372036854775807:=by omega):ay P N l K (o::r) ⟨tm,st,nx,nt⟩ tr:=aJ hg hd hlt (WG ho h ⟨by simp only [rng];omega,by simp only [rng];omega⟩) (hT hx (hT hy h0)) k
theorem PE (k:ay P N l K r ⟨(d,.int .i64 (-a))::tm,st,nx,nt⟩ (tr++[aH l o ⟨[(x,.int .i64 a)],[]⟩ []])) (ho:o.op = .unOp .neg t x:=by rfl) (hx:S.ev ⟨tm,st,nx,nt⟩ x=some (.int .i64 a):=by rfl) (hg:ax l o ⟨tm,st,nx,nt⟩=some true:=by rfl) (hd:o.dst=some d:=by rfl) (hlt:Nat.blt d nt=true:=by rfl) (h : -9223372036854775808 ≤ -a ∧ -a≤9223372036854775807:=by omega):ay P N l K (o::r) ⟨tm,st,nx,nt⟩ tr:=aJ hg hd hlt (Yb ho rfl h) (hT hx h0) k
end
end Abs
namespace z8
open Go.RowKit Mem Abs fw dh iw eB Rdy gy iY iV xB
variable {n:Int} {L:List Int} {c:ah}
theorem E9:aj Tryz.prog 65 [.int .i64 n] (.bool (fe n)):=by
 unfold fe
 by_cases h1:0≤n
 ·rw [decide_eq_true h1]
  by_cases h2:n≤10
  ·rw [decide_eq_true h2]
   refine aW af Tryz.func65 rfl Tryz.ntmps65 Tryz.results65 rfl fun N=>?_
   repeat' (first|refine zW ?_|exact ai)
   all_goals first|rfl|(exfalso;omega)
  ·rw [decide_eq_false h2]
   refine aW af Tryz.func65 rfl Tryz.ntmps65 Tryz.results65 rfl fun N=>?_
   repeat' (first|refine zW ?_|exact ai)
   all_goals first|rfl|(exfalso;omega)
 ·rw [decide_eq_false h1]
  refine aW af Tryz.func65 rfl Tryz.ntmps65 Tryz.results65 rfl fun N=>?_
  repeat' (first|refine zW ?_|exact ai)
  all_goals first|rfl|(exfalso;omega)
abbrev fnC:Abs.V:=.fn (.func 67) [] []
theorem abF:aj Tryz.prog 67 [.int .i64 n] (.bool (pY n)):=by
 unfold pY
 by_cases h1:n<1
 ·rw [decide_eq_true h1]
  refine aW af Tryz.func67 rfl Tryz.ntmps67 Tryz.results67 rfl fun N=>?_
  repeat' (first|refine zW ?_|exact ai)
  all_goals first|rfl|(exfalso;omega)
 ·rw [decide_eq_false h1]
  by_cases h2:1000000000<n
  ·rw [decide_eq_true h2]
   refine aW af Tryz.func67 rfl Tryz.ntmps67 Tryz.results67 rfl fun N=>?_
   repeat' (first|refine zW ?_|exact ai)
   all_goals first|rfl|(exfalso;omega)
  ·rw [decide_eq_false h2]
   refine aW af Tryz.func67 rfl Tryz.ntmps67 Tryz.results67 rfl fun N=>?_
   repeat' (first|refine zW ?_|exact ai)
   all_goals first|rfl|(exfalso;omega)
theorem aaT (hb:L.length≤1000):aj Tryz.prog 98 [.fro (L.map (Abs.V.int .i64)),fnC] (.int .i64 (BP (L.findIdx? pY))):=by
 have hml:(L.map (Abs.V.int .i64)).length=L.length:=List.length_map _
 generalize hR:BP (L.findIdx? pY)=R
 refine aX af Tryz.func98 rfl Tryz.ntmps98 Tryz.results98 rfl fun N=>?_
 repeat' (first|refine zW ?_|exact ai)
 refine bM (fun k=>⟨[(0,.fro (L.map (Abs.V.int .i64))),(1,fnC),(7,nV L.length),(8,nV k)],[],0,19⟩) (fun k=>k≤L.length∧∀ j x,j<k→L[j]? = some x→pY x=false) L.length 0 (by exact ai) ⟨Nat.zero_le _,fun j x h=>by omega⟩ ?_
 rintro k ⟨hk,hd⟩
 by_cases hk2:k<L.length
 ·have hx:L[k]? = some L[k]:=by simp [hk2]
  have hfi:pY L[k]=true→L.findIdx? pY=some k:=fun h=>by
   rw [List.findIdx?_eq_some_iff_getElem]
   exact ⟨hk2,h,fun j hj=>by simp [hd j (L[j]'(by omega)) hj (by simp [show j<L.length by omega])]⟩
  generalize L[k]=c at *
  have hm:=di (f:=Abs.V.int .i64) hx
  have c1:=abF (n:=c)
  by_cases h:pY c=true
  ·rw [hfi h] at hR
   have hR:(k:Int)=R:=hR
   rw [h] at c1
   repeat' (first|refine zV ?_|(refine isR ?_;first|refine ak (c1 _) ?_|refine ak (c1) ?_)|refine zW ?_|exact ai)
   rw [← hR];rfl
  ·have h:pY c=false:=by simpa using h
   rw [h] at c1
   repeat' (first|refine zV ?_|(refine isR ?_;first|refine ak (c1 _) ?_|refine ak (c1) ?_)|refine zW ?_|exact ai)
   refine ⟨⟨by omega,fun j x hj hx2=>?_⟩,hk2,(by exact ai)⟩
   by_cases e:j=k
   ·subst e;rw [hx] at hx2;cases hx2;exact h
   ·exact hd j x (by omega) hx2
 ·obtain rfl:k=L.length:=by omega
  have hn:L.findIdx? pY=none:=by
   rw [List.findIdx?_eq_none_iff]
   intro x hx
   obtain ⟨j,hj⟩:=List.mem_iff_getElem?.1 hx
   rw [hd j x (List.getElem?_eq_some_iff.1 hj).1 hj]
  rw [hn] at hR
  subst hR
  repeat' (first|refine zW ?_|exact ai)
  all_goals rfl
theorem abL (hb:L.length≤1000):aj Tryz.prog 66 [.fro (L.map (Abs.V.int .i64)),fnC] (.bool (L.any pY)):=by
 have c1:=aaT hb
 cases hf:L.findIdx? pY with
 | none =>
  rw [hf] at c1
  change aj _ _ _ (.int .i64 (-1)) at c1
  have e:L.any pY=false:=by
   rw [List.any_eq_false]
   intro x hx
   rw [List.findIdx?_eq_none_iff] at hf
   simp [hf x hx]
  rw [e]
  refine aX af Tryz.func66 rfl Tryz.ntmps66 Tryz.results66 rfl fun N=>?_
  repeat' (first|refine zV ?_|(refine isR ?_;refine zk c1 ?_)|refine zW ?_|exact ai)
  all_goals first|rfl|(exfalso;omega)
 | some i =>
  rw [hf] at c1
  change aj _ _ _ (.int .i64 (i:Int)) at c1
  obtain ⟨hi,hd,_⟩:=List.findIdx?_eq_some_iff_getElem.1 hf
  have e:L.any pY=true:=List.any_eq_true.2 ⟨_,List.getElem_mem hi,hd⟩
  rw [e]
  refine aX af Tryz.func66 rfl Tryz.ntmps66 Tryz.results66 rfl fun N=>?_
  repeat' (first|refine zV ?_|(refine isR ?_;refine zk c1 ?_)|refine zW ?_|exact ai)
  all_goals first|rfl|(exfalso;omega)
abbrev stK (p:Pol) (k:Nat):S:=⟨[(1,.fp (V.cells (kC p)) 0),(10,.fro (p.rules.map Rule.v)),(11,nV p.rules.length),(12,nV k)],[],0,65⟩
theorem drop_at {L:List Rule} {k:Nat} {r:Rule} (h:L[k]? = some r):L.drop k=r::L.drop (k+1):=by
 obtain ⟨hk,e⟩:=List.getElem?_eq_some_iff.1 h
 rw [List.drop_eq_getElem_cons hk,e]
theorem Cb {p:Pol}:aj Tryz.prog 34 [kC p] (.int .i64 ((gB p:Nat):Int)):=by
 have hml:(p.rules.map Rule.v).length=p.rules.length:=List.length_map _
 have c3:=abL (L:=Ci p.caps) (show 11≤1000 by decide)
 have c2:=E9 (n:=p.dflt)
 unfold gB O5
 by_cases h0:12<p.rules.length
 ·rw [if_pos h0]
  refine aW af Tryz.func34 rfl Tryz.ntmps34 Tryz.results34 rfl fun N=>?_
  repeat' (first|refine zW ?_|(refine zs ?_ ?_<;>intro hc)|exact ai)
  all_goals first|rfl|(exfalso;omega)
 rw [if_neg h0]
 generalize hR:(if lT p.rules≠0 then lT p.rules else if fe p.dflt=false∨(Ci p.caps).any pY=true then 3 else 0)=R
 refine aW af Tryz.func34 rfl Tryz.ntmps34 Tryz.results34 rfl fun N=>?_
 repeat' (first|refine zW ?_|(refine zs ?_ ?_<;>intro hc)|exact ai)
 refine bM (fun k=>stK p k) (fun k=>k≤p.rules.length∧lT (p.rules.drop k)=lT p.rules) p.rules.length 0 (by exact ai) ⟨Nat.zero_le _,rfl⟩ ?_
 rintro k ⟨hk,hcd⟩
 by_cases hk2:k<p.rules.length
 ·have hx:p.rules[k]? = some p.rules[k]:=by simp [hk2]
  generalize p.rules[k]=r at *
  have hm:=di (f:=Rule.v) hx
  rw [drop_at hx,lT] at hcd
  have c1:=E9 (n:=r.purpose)
  have c4:=vJ (l:=r.text)
  have bad:jH r≠0→jH r=R:=fun h=>by rw [if_neg h] at hcd;rw [← hcd,if_pos h] at hR;exact hR
  by_cases h1:r.kind<1∨4<r.kind
  ·have e:jH r=7:=by unfold jH;rw [if_pos h1]
   rw [e] at bad
   rw [← bad (by decide)]
   repeat' (first|refine zW ?_|(refine zs ?_ ?_<;>intro hc)|exact ai)
   all_goals first|rfl|(exfalso;omega)
  by_cases h2:r.text=[]
  ·have e:jH r=1:=by unfold jH;rw [if_neg h1,if_pos (.inl h2)]
   rw [e] at bad
   rw [← bad (by decide)]
   repeat' (first|refine zW ?_|(refine zs ?_ ?_<;>intro hc)|exact ai)
   all_goals first|rfl|(exfalso;omega)
  by_cases h3:400<r.text.length
  ·have e:jH r=1:=by unfold jH;rw [if_neg h1,if_pos (.inr (.inl h3))]
   rw [e] at bad
   rw [← bad (by decide)]
   repeat' (first|refine zW ?_|(refine zs ?_ ?_<;>intro hc)|exact ai)
   all_goals first|rfl|(exfalso;omega)
  by_cases h4:r.kind=4∧cu r.text=false
  ·have e:jH r=1:=by unfold jH;rw [if_neg h1,if_pos (.inr (.inr h4))]
   rw [e] at bad
   rw [← bad (by decide)]
   obtain ⟨h4,h5⟩:=h4
   rw [h5] at c4
   repeat' (first|refine zV ?_|(refine isR ?_;refine zk c4 ?_)|refine zW ?_|(refine zs ?_ ?_<;>intro hc)|exact ai)
   all_goals first|rfl|(exfalso;omega)
  have hf:¬ (r.text=[]∨400<r.text.length∨(r.kind=4∧cu r.text=false)):=fun h=>h.elim h2 fun h=>h.elim h3 h4
  have h5:r.kind=4→cu r.text=true:=fun h=>by
   cases hh:cu r.text with
   | true=>rfl
   | false=>exact absurd ⟨h,hh⟩ h4
  have c4:r.kind=4→aj Tryz.prog 59 [au r.text] (.bool true):=fun h=>by rw [h5 h] at c4;exact c4
  by_cases h6:fe r.purpose=false∨r.vendor<0∨40<r.vendor
  ·have e:jH r=3:=by unfold jH;rw [if_neg h1,if_neg hf,if_pos h6]
   rw [e] at bad
   rw [← bad (by decide)]
   by_cases h7:fe r.purpose=false
   ·rw [h7] at c1
    repeat' (first|refine zV ?_|(refine isR ?_;first|refine zk ((c4 (by assumption))) ?_|refine zk c1 ?_)|refine zW ?_|(refine zs ?_ ?_<;>intro hc)|exact ai)
    all_goals first|rfl|(exfalso;omega)
   ·have h8:r.vendor<0∨40<r.vendor:=h6.resolve_left h7
    have h7:fe r.purpose=true:=by simpa using h7
    rw [h7] at c1
    repeat' (first|refine zV ?_|(refine isR ?_;first|refine zk ((c4 (by assumption))) ?_|refine zk c1 ?_)|refine zW ?_|(refine zs ?_ ?_<;>intro hc)|exact ai)
    all_goals first|rfl|(exfalso;omega)
  ·have e:jH r=0:=by unfold jH;rw [if_neg h1,if_neg hf,if_neg h6]
   rw [if_pos e] at hcd
   have h7:fe r.purpose=true:=by
    cases hp:fe r.purpose with
    | true=>rfl
    | false=>exact absurd (.inl hp) h6
   have h8:¬ r.vendor<0:=fun h=>h6 (.inr (.inl h))
   have h9:¬ 40<r.vendor:=fun h=>h6 (.inr (.inr h))
   rw [h7] at c1
   repeat' (first|refine zV ?_|(refine isR ?_;first|refine zk ((c4 (by assumption))) ?_|refine zk c1 ?_)|refine zW ?_|(refine zs ?_ ?_<;>intro hc)|exact ai)
   all_goals first|(exfalso;omega)|exact ⟨⟨by omega,hcd⟩,hk2,(by exact ai)⟩
 ·obtain rfl:k=p.rules.length:=by omega
  rw [List.drop_length] at hcd
  rw [← hcd,lT,if_neg (by simp)] at hR
  by_cases h1:fe p.dflt=false
  ·rw [if_pos (.inl h1)] at hR
   subst hR
   rw [h1] at c2
   repeat' (first|refine zV ?_|(refine isR ?_;refine zk c2 ?_)|refine zW ?_|(refine zs ?_ ?_<;>intro hc)|exact ai)
   all_goals first|rfl|(exfalso;omega)
  ·have h1:fe p.dflt=true:=by simpa using h1
   rw [h1] at c2 hR
   by_cases h2:(Ci p.caps).any pY=true
   ·rw [if_pos (.inr h2)] at hR
    subst hR
    rw [h2] at c3
    repeat' (first|refine zV ?_|(refine isR ?_;first|refine zk c2 ?_|refine ZM af ?_|refine zk c3 ?_)|refine zW ?_|(refine zs ?_ ?_<;>intro hc)|exact ai)
    all_goals first|rfl|(exfalso;omega)
   ·have h2:(Ci p.caps).any pY=false:=by simpa using h2
    rw [h2] at c3 hR
    rw [if_neg (by simp)] at hR
    subst hR
    repeat' (first|refine zV ?_|(refine isR ?_;first|refine zk c2 ?_|refine ZM af ?_|refine zk c3 ?_)|refine zW ?_|(refine zs ?_ ?_<;>intro hc)|exact ai)
    all_goals first|rfl|(exfalso;omega)
abbrev TBN:Nat:=146
abbrev TBD:Nat:=147
abbrev byV (r:Rule) (f:Nat):Abs.V:=.agg [au r.text,.fn (.func f) [] []]
theorem Vo {r:Rule} (h:r.kind=1):aj Tryz.prog 57 [r.v] (.ifc TBN (byV r 91)):=by
 refine aW af Tryz.func57 rfl Tryz.ntmps57 Tryz.results57 rfl fun N=>?_
 repeat' (first|refine zW ?_|exact ai)
 all_goals first|rfl|(exfalso;omega)
theorem SX {r:Rule} (h:r.kind=2):aj Tryz.prog 57 [r.v] (.ifc TBN (byV r 92)):=by
 refine aW af Tryz.func57 rfl Tryz.ntmps57 Tryz.results57 rfl fun N=>?_
 repeat' (first|refine zW ?_|exact ai)
 all_goals first|rfl|(exfalso;omega)
theorem VP {r:Rule} (h:r.kind=3):aj Tryz.prog 57 [r.v] (.ifc TBN (byV r 93)):=by
 refine aW af Tryz.func57 rfl Tryz.ntmps57 Tryz.results57 rfl fun N=>?_
 repeat' (first|refine zW ?_|exact ai)
 all_goals first|rfl|(exfalso;omega)
theorem Wi {r:Rule} (h:r.kind=4):aj Tryz.prog 57 [r.v] (.ifc TBD (au r.text)):=by
 refine aW af Tryz.func57 rfl Tryz.ntmps57 Tryz.results57 rfl fun N=>?_
 repeat' (first|refine zW ?_|exact ai)
 all_goals first|rfl|(exfalso;omega)
theorem qI {a b:List UInt8}:aj Tryz.prog 91 [au a,au b] (.bool (decide (a=b))):=by
 by_cases h:a=b
 ·subst h
  rw [decide_eq_true rfl]
  refine aX af Tryz.func91 rfl Tryz.ntmps91 Tryz.results91 rfl fun N=>?_
  repeat' (first|refine zW ?_|exact ai)
  all_goals first|rfl|(exfalso;simp_all;done)
 ·rw [decide_eq_false h]
  refine aX af Tryz.func91 rfl Tryz.ntmps91 Tryz.results91 rfl fun N=>?_
  repeat' (first|refine zW ?_|exact ai)
  all_goals first|rfl|(exfalso;simp_all;done)
theorem Cq {r:Rule} {f:Nat} {b:Bool} (hb:dR Tryz.prog f=true) (h:aj Tryz.prog f [au c.name,au r.text] (.bool b)):aj Tryz.prog 287 [byV r f,c.v] (.bool b):=by
 refine aX af Tryz.func287 rfl Tryz.ntmps287 Tryz.results287 rfl fun N=>?_
 repeat' (first|refine zV ?_|(refine isR ?_;first|refine ak (h _) ?_|refine ak (h) ?_)|refine zW ?_|exact ai)
 all_goals rfl
theorem YJ {r:Rule} (hd:c.domain.length≤4398046511104) (ht:r.text.length≤400):av Tryz.prog bG 288 [au r.text,c.v] (.bool (kK c.domain r.text)):=by
 have h:=Ao (l:=c.domain) (m:=r.text) hd (by omega)
 generalize kK c.domain r.text=b at *
 refine iL af Tryz.func288 rfl Tryz.ntmps288 Tryz.results288 rfl fun N=>?_
 repeat' (first|refine zV ?_|(refine isR ?_;refine zk h ?_)|refine zW ?_|exact ai)
 all_goals rfl
theorem TV {r : Rule} (c : ah) (hr : OkR r) (hd : c.domain.length ≤ 4398046511104) : ∃ (T : Nat) (v : Abs.V) (f : Nat), aj Tryz.prog 57 [r.v] (.ifc T v) ∧ D5 Tryz.prog T "gingersnap/policy.names" f ∧ av Tryz.prog bG f [v, c.v] (.bool (qR r c)) ∧ dR Tryz.prog f = true ∧ v.names = [] := by
 have hk:=hr.kind
 have m1 : D5 Tryz.prog TBN "gingersnap/policy.names" 287 := fun _ _ => by kernel_rfl
 have b1:dR Tryz.prog 287=true:=by kernel_rfl
 unfold qR
 by_cases h1:r.kind=1
 ·rw [if_pos h1]
  exact ⟨_,_,_,Vo h1,m1,Cq (by kernel_rfl) qI bG,b1,rfl⟩
 rw [if_neg h1]
 by_cases h2:r.kind=2
 ·rw [if_pos h2]
  exact ⟨_,_,_,SX h2,m1,Cq (by kernel_rfl) fZ bG,b1,rfl⟩
 rw [if_neg h2]
 by_cases h3:r.kind=3
 ·rw [if_pos h3]
  exact ⟨_,_,_,VP h3,m1,Cq (by kernel_rfl) qU bG,b1,rfl⟩
 rw [if_neg h3]
 exact ⟨_,_,_,Wi (by omega),fun _ _=>by kernel_rfl,YJ hd hr.text,by kernel_rfl,rfl⟩
end z8
namespace En
open Go.RowKit Mem Abs fw dh iw eB Rdy gy iY iV xB z8
open mY (gK gL)
variable {U:List Int} {p:Pol} {v k:Int} {L:List Int} {n:Int} {c:ah} {g:Int}
abbrev stD (p:Pol) (c:ah) (k:Nat):S:=⟨[(2,.fp (V.cells (kC p)) 0),(3,.fp (V.cells c.v) 0),(9,.fro (p.rules.map Rule.v)),(10,nV p.rules.length),(11,nV k)],[],0,26⟩
theorem R7 (h:OkP p) (hd:c.domain.length≤4398046511104):av Tryz.prog bG 27 [kC p,c.v] (.tup [.int .i64 (nk p c).1,.int .i64 (nk p c).2]):=by
 have hml:(p.rules.map Rule.v).length=p.rules.length:=List.length_map _
 have hlen:=h.len
 unfold nk
 generalize hF:p.rules.find? (fun r=>qR r c)=F
 refine iL af Tryz.func27 rfl Tryz.ntmps27 Tryz.results27 rfl fun N=>?_
 repeat' (first|refine zW ?_|exact ai)
 refine bM (fun k=>stD p c k) (fun k=>k≤p.rules.length∧(p.rules.drop k).find? (fun r=>qR r c)=F) p.rules.length 0 (by exact ai) ⟨Nat.zero_le _,hF⟩ ?_
 rintro k ⟨hk,hf⟩
 by_cases hk2:k<p.rules.length
 ·have hx:p.rules[k]? = some p.rules[k]:=by simp [hk2]
  obtain ⟨T,v,f,h1,h2,h3,h4,h5⟩:=TV c (h.rules _ (List.getElem_mem hk2)) hd
  generalize p.rules[k]=r at *
  have hm:=di (f:=Rule.v) hx
  rw [drop_at hx,List.find?_cons] at hf
  by_cases hn:qR r c=true
  ·rw [hn] at h3 hf
   subst hf
   repeat' (first|refine zV ?_|(refine isR ?_;first|refine zk h1 ?_|refine ZN h3 h2 ?_ (hb:=h4) (hn:=by rw [V.aY,h5];rfl))|refine zW ?_|exact ai)
   all_goals rfl
  ·have hn:qR r c=false:=by simpa using hn
   rw [hn] at h3 hf
   repeat' (first|refine zV ?_|(refine isR ?_;first|refine zk h1 ?_|refine ZN h3 h2 ?_ (hb:=h4) (hn:=by rw [V.aY,h5];rfl))|refine zW ?_|exact ai)
   exact ⟨⟨by omega,hf⟩,hk2,(by exact ai)⟩
 ·obtain rfl:k=p.rules.length:=by omega
  rw [List.drop_length] at hf
  subst hf
  repeat' (first|refine zW ?_|exact ai)
  all_goals rfl
theorem kW:aj Tryz.prog 94 [gL L,.int .i64 v] (.int .i64 (BP (L.findIdx? fun x=>decide (x=v)))):=aj.lim fun hl=>by
 have hlen:=mY.xE hl.1
 clear hl
 have hml:(L.map (Abs.V.int .i64)).length=L.length:=List.length_map _
 generalize hR:BP (L.findIdx? fun x=>decide (x=v))=R
 refine aX af Tryz.func94 rfl Tryz.ntmps94 Tryz.results94 rfl fun N=>?_
 repeat' (first|refine zW ?_|exact ai)
 refine bM (fun k=>⟨[(0,gL L),(1,.int .i64 v),(7,nV L.length),(8,nV k)],[],0,19⟩) (fun k=>k≤L.length∧∀ j x,j<k→L[j]? = some x→x≠v) L.length 0 (by exact ai) ⟨Nat.zero_le _,fun j x h=>by omega⟩ ?_
 rintro k ⟨hk,hd⟩
 by_cases hk2:k<L.length
 ·have hx:L[k]? = some L[k]:=by simp [hk2]
  have hfi:L[k]=v→L.findIdx? (fun x=>decide (x=v))=some k:=fun h=>by
   rw [List.findIdx?_eq_some_iff_getElem]
   exact ⟨hk2,by simp [h],fun j hj=>by simp [hd j (L[j]'(by omega)) hj (by simp [show j<L.length by omega])]⟩
  generalize L[k]=c at *
  have hm:=di (f:=Abs.V.int .i64) hx
  by_cases h:v=c
  ·rw [hfi h.symm] at hR
   have hR:(k:Int)=R:=hR
   repeat' (first|refine zW ?_|exact ai)
   all_goals first|(rw [← hR];rfl)|(exfalso;omega)
  ·repeat' (first|refine zW ?_|exact ai)
   all_goals first|(exfalso;omega)|skip
   refine ⟨⟨by omega,fun j x hj hx2=>?_⟩,hk2,(by exact ai)⟩
   by_cases e:j=k
   ·subst e;rw [hx] at hx2;cases hx2;exact fun e=>h e.symm
   ·exact hd j x (by omega) hx2
 ·obtain rfl:k=L.length:=by omega
  have hn:L.findIdx? (fun x=>decide (x=v))=none:=by
   rw [List.findIdx?_eq_none_iff]
   intro x hx
   obtain ⟨j,hj⟩:=List.mem_iff_getElem?.1 hx
   simp [hd j x (List.getElem?_eq_some_iff.1 hj).1 hj]
  rw [hn] at hR
  subst hR
  repeat' (first|refine zW ?_|exact ai)
  all_goals rfl
theorem eU:aj Tryz.prog 58 [gL L,.int .i64 v] (.bool (L.contains v)):=by
 have c1:=kW (L:=L) (v:=v)
 cases hf:L.findIdx? (fun x=>decide (x=v)) with
 | none =>
  rw [hf] at c1
  change aj _ _ _ (.int .i64 (-1)) at c1
  have e:L.contains v=false:=by
   rw [List.contains_eq_any_beq,List.any_eq_false]
   intro x hx
   rw [List.findIdx?_eq_none_iff] at hf
   have:=hf x hx
   simp at this
   simp
   exact fun h=>this h.symm
  rw [e]
  refine aX af Tryz.func58 rfl Tryz.ntmps58 Tryz.results58 rfl fun N=>?_
  repeat' (first|refine zV ?_|(refine isR ?_;refine zk c1 ?_)|refine zW ?_|exact ai)
  all_goals first|rfl|(exfalso;omega)
 | some i =>
  rw [hf] at c1
  change aj _ _ _ (.int .i64 (i:Int)) at c1
  obtain ⟨hi,hd,_⟩:=List.findIdx?_eq_some_iff_getElem.1 hf
  have e:L.contains v=true:=by
   rw [List.contains_iff_mem]
   have:L[i]=v:=by simpa using hd
   rw [← this]
   exact List.getElem_mem hi
  rw [e]
  refine aX af Tryz.func58 rfl Tryz.ntmps58 Tryz.results58 rfl fun N=>?_
  repeat' (first|refine zV ?_|(refine isR ?_;refine zk c1 ?_)|refine zW ?_|exact ai)
  all_goals first|rfl|(exfalso;omega)
theorem Ng {P:Nat→Bool} (h1:1≤k) (h2:k≤10):kY (V.cells (gK g P U)) (1+(k-1).toNat*1) false 1=some (.bool (P (k-1).toNat)):=by
 have:k=1∨k=2∨k=3∨k=4∨k=5∨k=6∨k=7∨k=8∨k=9∨k=10:=by omega
 rcases this with rfl|rfl|rfl|rfl|rfl|rfl|rfl|rfl|rfl|rfl<;>rfl
theorem Z4 (h1:0≤k) (h2:k≤10):kY (V.cells (kC p)) (2+k.toNat*1) false 1=some (.int .i64 (p.caps k.toNat)):=by
 have:k=0∨k=1∨k=2∨k=3∨k=4∨k=5∨k=6∨k=7∨k=8∨k=9∨k=10:=by omega
 rcases this with rfl|rfl|rfl|rfl|rfl|rfl|rfl|rfl|rfl|rfl|rfl<;>rfl
theorem Uw {P:Nat→Bool} (h1:0≤k) (h2:k≤10):aj Tryz.prog 28 [gK g P U,.int .i64 k,.int .i64 v] (.bool (EH P U k v)):=by
 have c1:=eU (L:=U) (v:=v)
 have hq:=fun h=>Ng (g:=g) (P:=P) (U:=U) (k:=k) h h2
 have hp:fe k=true:=CG.2 ⟨h1,h2⟩
 unfold EH
 rw [hp,Bool.true_and]
 generalize P (k-1).toNat=q at *
 by_cases h0:k=0
 ·subst h0
  rw [decide_eq_true rfl,Bool.true_or,Bool.true_and]
  by_cases hv:v=0
  ·rw [decide_eq_true hv,Bool.true_or]
   refine u6 af Tryz.func28 rfl Tryz.ntmps28 Tryz.results28 rfl fun N=>?_
   repeat' (first|refine zW ?_|exact ai)
   all_goals first|rfl|(exfalso;omega)
  ·rw [decide_eq_false hv,Bool.false_or]
   refine u6 af Tryz.func28 rfl Tryz.ntmps28 Tryz.results28 rfl fun N=>?_
   repeat' (first|refine zV ?_|(refine isR ?_;refine zk c1 ?_)|refine zW ?_|exact ai)
   all_goals first|rfl|(exfalso;omega)
 ·have hq:=hq (by omega)
  rw [decide_eq_false h0,Bool.false_or]
  cases q with
  | false =>
   refine u6 af Tryz.func28 rfl Tryz.ntmps28 Tryz.results28 rfl fun N=>?_
   repeat' (first|refine zV ?_|(refine isR ?_;refine O4 af hq ?_)|refine zW ?_|exact ai)
   all_goals first|rfl|(exfalso;omega)
  | true =>
   rw [Bool.true_and]
   by_cases hv:v=0
   ·rw [decide_eq_true hv,Bool.true_or]
    refine u6 af Tryz.func28 rfl Tryz.ntmps28 Tryz.results28 rfl fun N=>?_
    repeat' (first|refine zV ?_|(refine isR ?_;refine O4 af hq ?_)|refine zW ?_|exact ai)
    all_goals first|rfl|(exfalso;omega)
   ·rw [decide_eq_false hv,Bool.false_or]
    refine u6 af Tryz.func28 rfl Tryz.ntmps28 Tryz.results28 rfl fun N=>?_
    repeat' (first|refine zV ?_|(refine isR ?_;first|refine O4 af hq ?_|refine zk c1 ?_)|refine zW ?_|exact ai)
    all_goals first|rfl|(exfalso;omega)
theorem Oa {P:Nat→Bool} (h:OkP p) (hd:c.domain.length≤4398046511104):av Tryz.prog bG 10 [kC p,gK g P U,c.v] (.bool (qE p P U c)):=by
 have c1:=R7 h hd
 obtain ⟨h1,h2⟩:=Gr h c
 unfold qE
 generalize (nk p c).1=k at *
 generalize (nk p c).2=v at *
 have c2:=Uw (g:=g) (P:=P) (U:=U) (v:=v) h1 h2
 generalize EH P U k v=b at *
 refine wF af Tryz.func10 rfl Tryz.ntmps10 Tryz.results10 rfl fun N=>?_
 repeat' (first|refine zV ?_|(refine isR ?_;first|refine zk c1 ?_|refine zk c2 ?_)|refine zW ?_|exact ai)
 all_goals rfl
theorem G8 {s:Int} (h:isJ n=true) (h1:0≤s) (h2:s≤1000000000):aj Tryz.prog 165 [.int .i64 n,.int .i64 s] (.int .i64 (ig n s)):=by
 unfold isJ at h
 simp at h
 unfold ig
 have hq:(if s<253402300799-n then s else 253402300799-n)≤1000000000∧0≤(if s<253402300799-n then s else 253402300799-n):=by split<;>omega
 generalize hm:(if s<253402300799-n then s else 253402300799-n)=q at *
 refine aX af Tryz.func165 rfl Tryz.ntmps165 Tryz.results165 rfl fun N=>?_
 repeat' (first|refine zV ?_|(refine isR ?_;refine UO (q:Int) (h:=hm) ?_)|refine zW ?_|exact ai)
 all_goals first|rfl|(exfalso;omega)
theorem Qh (h:OkP p) (hd:c.domain.length≤4398046511104) (hc:isJ c.created=true):av Tryz.prog bG 124 [kC p,c.v] (.int .i64 (Ku p c)):=by
 have c1:=R7 h hd
 obtain ⟨h1,h2⟩:=Gr h c
 unfold Ku
 generalize (nk p c).1=k at *
 generalize (nk p c).2=v at *
 have hq:=Z4 (p:=p) h1 h2
 have h3:=h.caps k.toNat (by omega)
 have c2:=G8 (s:=p.caps k.toNat) hc (by omega) (by omega)
 generalize p.caps k.toNat=s at *
 generalize hA:ig c.created s=a at *
 refine iL af Tryz.func124 rfl Tryz.ntmps124 Tryz.results124 rfl fun N=>?_
 repeat' (first|refine zV ?_|(refine isR ?_;first|refine zk c1 ?_|refine O4 af hq ?_|refine zk c2 ?_)|refine zW ?_|exact ai)
 all_goals first|rfl|(exfalso;omega)
theorem YE (h:isJ n=true): -11644473600≤n∧n≤253402300799:=by unfold isJ at h;simpa using h
theorem abp (h:c.v.Lim): -9223372036854775808≤c.expiry∧c.expiry≤9223372036854775807:=by
 rw [ah.v,V.Lim] at h
 exact h.2.2.2.2.2.2.2.2.2.1
theorem FL (h:OkP p) (hd:c.domain.length≤4398046511104) (hc:isJ c.created=true):av Tryz.prog bG 100 [kC p,c.v] (gV p c).v:=av.lim fun hl=>by
 have c1:=Qh h hd hc
 have hx:=abp hl.2.1
 unfold gV
 have hb:Ku p c≤253402300799 ∧ -11644473600≤Ku p c:=by
  have:=YE hc
  obtain ⟨h1,h2⟩:=Gr h c
  have h3:=h.caps (nk p c).1.toNat (by omega)
  unfold Ku ig
  split<;>omega
 generalize Ku p c=a at *
 generalize hm:(if a<c.expiry then a else c.expiry)=q at *
 refine iL af Tryz.func100 rfl Tryz.ntmps100 Tryz.results100 rfl fun N=>?_
 repeat' (first|refine zt ?_|(refine isR ?_;first|refine dP [3] af rfl ?_|refine zn ?_|refine zk c1 ?_|refine UO (q:Int) (h:=hm) ?_)|refine zr ?_|exact ai)
 all_goals first|rfl|(exfalso;omega)
end En
end Go.Proofs.YtlfdjpgghiemfaaGreatDoor
