/- Texts of the proof, joined: GovA, GovB. -/
import Derived.Test.YtlfdjpgghiemfaaGreatDoorG31
set_option maxHeartbeats 4000000
set_option maxRecDepth 100000
namespace Go.Proofs.YtlfdjpgghiemfaaGreatDoor
namespace I6
open Go.RowKit Mem Abs fw dh iw eB Rdy Scan gy gY iW iY iV mX pG su xB z8 En Eu RjP Es oC zP
open mY (gK gL)
variable {U:List Int} {t:Int} {α:Type} {S:List aG} {p:Pol} {f:α→Abs.V} {P:Nat→Bool} {nx:Int} {L:List ah} {g:Int}
abbrev stC (S:List aG) (L:List ah) (nx:Int) (p:Pol) (g:Int) (P:Nat→Bool) (U:List Int) (t:Int):List Abs.V:=[.fro (S.map aG.v),.fro (L.map ah.v),.int .i64 nx,.fro (p.rules.map Rule.v),.int .i64 p.dflt,.int .i64 (p.caps 0),.int .i64 (p.caps 1),.int .i64 (p.caps 2),.int .i64 (p.caps 3),.int .i64 (p.caps 4),.int .i64 (p.caps 5),.int .i64 (p.caps 6),.int .i64 (p.caps 7),.int .i64 (p.caps 8),.int .i64 (p.caps 9),.int .i64 (p.caps 10),.int .i64 g,.bool (P 0),.bool (P 1),.bool (P 2),.bool (P 3),.bool (P 4),.bool (P 5),.bool (P 6),.bool (P 7),.bool (P 8),.bool (P 9),gL U,.int .i64 t]
abbrev stV (S:List aG) (L:List ah) (nx:Int) (p:Pol) (g:Int) (P:Nat→Bool) (U:List Int) (t:Int):Abs.V:=.agg (stC S L nx p g P U t)
theorem OP {L:List α}:Abs.V.fro (List.take L.length (List.drop 0 (L.map f))) = .fro (L.map f):=by rw [List.drop_zero,List.take_of_length_le (by simp)]
theorem xh {F T sz:Nat} {L:List α} (hf:∀ a,(f a).names=[]) (h:aK Tryz.prog F [.fro (L.map f)] [] (.own 0 0 L.length) [some (.els T sz (L.map f))]):aj Tryz.prog F [.fro (L.map f)] (.fro (L.map f)):=fun g=>by
 refine zD (bs:=[.els T sz (L.map f)]) (h g) ?_ ⟨Hw hf,by simp⟩
 show some (Abs.V.fro (List.take L.length (List.drop 0 (L.map f))))=_
 rw [OP]
theorem Wt (hb:L.length*112≤140737488355328):aj Tryz.prog 78 [.fro (L.map ah.v)] (.fro (L.map ah.v)):=xh (fun _=>rfl) (Gs hb)
theorem V8 {L:List aG} (hb:L.length≤1000):aK Tryz.prog 77 [.fro (L.map aG.v)] [] (.own 0 0 L.length) [some (.els 108 2 (L.map aG.v))]:=by
 refine bL af Tryz.func77 rfl Tryz.ntmps77 Tryz.results77 rfl rfl rfl rfl fun N pl=>?_
 repeat' (first|refine wP af (fun b hq=>?_)|(with_reducible refine j3 (c:=Code.ret) (t:=2) 108 2 (by decide) rfl rfl ?_)|refine aA [1] ?_ ?_|refine zt ?_|(refine isR ?_;first|refine dP [5] af rfl ?_|refine zn ?_|refine IB aG.v (L:=[]) (K':=L) af ?_|refine OJ 5 af ?_)|refine dB rfl (fun hb=>?_) (fun hb=>?_)|refine aA [0] ?_ ?_|exact ai)
 all_goals first
  | (have hn:=hq hb;simp only [List.map_eq_nil_iff] at hn;subst hn;first|rfl|exact .on (.same rfl) .nil)
  | rfl
  | exact .on (.same (aT fun _=>rfl)) .nil
theorem JU {L:List Rule} (hb:L.length≤1000):aK Tryz.prog 79 [.fro (L.map Rule.v)] [] (.own 0 0 L.length) [some (.els 110 4 (L.map Rule.v))]:=by
 refine bL af Tryz.func79 rfl Tryz.ntmps79 Tryz.results79 rfl rfl rfl rfl fun N pl=>?_
 repeat' (first|refine wP af (fun b hq=>?_)|(with_reducible refine j3 (c:=Code.ret) (t:=2) 110 4 (by decide) rfl rfl ?_)|refine aA [1] ?_ ?_|refine zt ?_|(refine isR ?_;first|refine dP [5] af rfl ?_|refine zn ?_|refine IB Rule.v (L:=[]) (K':=L) af ?_|refine OJ 5 af ?_)|refine dB rfl (fun hb=>?_) (fun hb=>?_)|refine aA [0] ?_ ?_|exact ai)
 all_goals first
  | (have hn:=hq hb;simp only [List.map_eq_nil_iff] at hn;subst hn;first|rfl|exact .on (.same rfl) .nil)
  | rfl
  | exact .on (.same (aT fun _=>rfl)) .nil
theorem Wp {L:List Int} (hb:L.length≤1000):aK Tryz.prog 80 [.fro (L.map (Abs.V.int .i64))] [] (.own 0 0 L.length) [some (.els 3 1 (L.map (Abs.V.int .i64)))]:=by
 refine bL af Tryz.func80 rfl Tryz.ntmps80 Tryz.results80 rfl rfl rfl rfl fun N pl=>?_
 repeat' (first|refine wP af (fun b hq=>?_)|(with_reducible refine j3 (c:=Code.ret) (t:=2) 3 1 (by decide) rfl rfl ?_)|refine aA [1] ?_ ?_|refine zt ?_|(refine isR ?_;first|refine dP [5] af rfl ?_|refine zn ?_|refine IB (Abs.V.int .i64) (L:=[]) (K':=L) af ?_|refine OJ 5 af ?_)|refine dB rfl (fun hb=>?_) (fun hb=>?_)|refine aA [0] ?_ ?_|exact ai)
 all_goals first
  | (have hn:=hq hb;simp only [List.map_eq_nil_iff] at hn;subst hn;first|rfl|exact .on (.same rfl) .nil)
  | rfl
  | exact .on (.same (aT fun _=>rfl)) .nil
theorem UM (h1:S.length≤1000) (h2:L.length≤1000) (h3:p.rules.length≤1000) (h4:U.length≤1000):aj Tryz.prog 44 [stV S L nx p g P U t] (stV S L nx p g P U t):=by
 have c1:=xh (fun _=>rfl) (V8 h1)
 have c2:=Wt (L:=L) (by omega)
 have c3:=xh (fun _=>rfl) (JU h3)
 have c4:=xh (fun _=>rfl) (Wp h4)
 refine aW af Tryz.func44 rfl Tryz.ntmps44 Tryz.results44 rfl fun N=>?_
 repeat' (first|refine zt ?_|(refine isR ?_;first|refine dP [1] af rfl ?_|refine zn ?_|refine zk c1 ?_|refine zk c2 ?_|refine zk c3 ?_|refine zk c4 ?_)|refine zr ?_|exact ai)
 all_goals rfl
theorem YB {K:List ah} (hL:L.length≤1000):aj Tryz.prog 38 [.fro (L.map ah.v),.fro (K.map ah.v)] (.bool (decide (L=K))):=by
 have hml:(L.map ah.v).length=L.length:=List.length_map _
 have hmk:(K.map ah.v).length=K.length:=List.length_map _
 by_cases h0:L.length=K.length
 ·generalize hR:decide (L=K)=R
  refine aX af Tryz.func38 rfl Tryz.ntmps38 Tryz.results38 rfl fun N=>?_
  repeat' (first|refine zW ?_|(refine zq ?_ ?_<;>intro hb)|exact ai)
  all_goals first|(exfalso;omega)|skip
  refine bM (fun k=>⟨[(0,.fro (L.map ah.v)),(1,.fro (K.map ah.v)),(12,nV L.length),(13,nV k)],[],0,26⟩) (fun k=>k≤L.length∧∀ j,j<k→L[j]? = K[j]?) L.length 0 (by exact ai) ⟨Nat.zero_le _,fun j h=>by omega⟩ ?_
  rintro k ⟨hk,hd⟩
  by_cases hk2:k<L.length
  ·have hx:L[k]? = some L[k]:=by simp [hk2]
   have hy:K[k]? = some (K[k]'(by omega)):=by simp [show k<K.length by omega]
   have hno:L[k]≠K[k]'(by omega)→R=false:=fun h=>by
    rw [← hR,decide_eq_false]
    rintro rfl
    exact h rfl
   generalize L[k]=a at *
   generalize K[k]'(by omega)=b at *
   have hm:=di (f:=ah.v) hx
   have hm2:=di (f:=ah.v) hy
   have he:=Fy a b
   by_cases e:a=b
   ·rw [decide_eq_true e] at he
    repeat' (first|refine zW ?_|(refine zq ?_ ?_<;>intro hb)|exact ai)
    all_goals first|(exfalso;exact absurd ((congrArg not he).symm.trans hb) (by decide))|skip
    refine ⟨⟨by omega,fun j hj=>?_⟩,hk2,(by exact ai)⟩
    by_cases ej:j=k
    ·subst ej;rw [hx,hy,e]
    ·exact hd j (by omega)
   ·rw [decide_eq_false e] at he
    rw [hno e]
    repeat' (first|refine zW ?_|(refine zq ?_ ?_<;>intro hb)|exact ai)
    all_goals first|rfl|(exfalso;exact absurd ((congrArg not he).symm.trans hb) (by decide))
  ·obtain rfl:k=L.length:=by omega
   have:R=true:=by
    rw [← hR,decide_eq_true_iff]
    apply List.ext_getElem?
    intro i
    by_cases hi:i<L.length
    ·exact hd i hi
    ·rw [List.getElem?_eq_none (by omega),List.getElem?_eq_none (by omega)]
   subst this
   repeat' (first|refine zW ?_|(refine zq ?_ ?_<;>intro hb)|exact ai)
   all_goals rfl
 ·have:decide (L=K)=false:=decide_eq_false (fun e=>h0 (by rw [e]))
  rw [this]
  refine aX af Tryz.func38 rfl Tryz.ntmps38 Tryz.results38 rfl fun N=>?_
  repeat' (first|refine zW ?_|(refine zq ?_ ?_<;>intro hb)|exact ai)
  all_goals first|rfl|(exfalso;omega)
theorem Fe {now:Int} (h:OkP p) (hL:L.length≤12) (hd:∀ c∈L,c.domain.length≤4398046511104) (hc:∀ c∈L,isJ c.created=true):av Tryz.prog bG 68 [dI L nx,kC p,gK g P U,.int .i64 now] (dI (dF p P U now L) nx):=by
 refine zD (bs:=[rC (dF p P U now L)]) (acu h hL hd hc) ?_ ?_
 ·show some (Abs.V.agg [.fro (List.take (dF p P U now L).length (List.drop 0 ((dF p P U now L).map ah.v))),.int .i64 nx])=_
  rw [OP]
 ·repeat' first|exact trivial|exact rfl|(simp;done)|exact xu (fun _=>rfl)|constructor
theorem lS (h:OkP p) (hL:L.length≤12) (hd:∀ c∈L,c.domain.length≤4398046511104) (hc:∀ c∈L,isJ c.created=true):av Tryz.prog bG 39 [stV S L nx p g P U t] (dI (dF p P U t L) nx):=by
 have c1:=Fe (g:=g) (P:=P) (U:=U) (now:=t) (nx:=nx) h hL hd hc
 generalize dF p P U t L=K at *
 refine mV af Tryz.func39 rfl Tryz.ntmps39 Tryz.results39 rfl fun N=>?_
 repeat' (first|refine zV ?_|(refine isR ?_;refine zk c1 ?_)|refine zW ?_|exact ai)
 all_goals rfl
theorem aao:av Tryz.prog bG 29 [.fp (stC S L nx p g P U t) 0] (.int .i64 (fT.bA S:Nat)):=by
 have c1:=Ab.lq (L:=S)
 generalize fT.bA S=z at *
 refine mV af Tryz.func29 rfl Tryz.ntmps29 Tryz.results29 rfl fun N=>?_
 repeat' (first|refine zV ?_|(refine isR ?_;refine zk c1 ?_)|refine zW ?_|exact ai)
 all_goals rfl
theorem abh:aj Tryz.prog 31 [.fp (stC S L nx p g P U t) 0] (.int .i64 (dz L nx:Nat)):=by
 have c1:=oF (L:=L) (nx:=nx)
 generalize dz L nx=z at *
 refine aW af Tryz.func31 rfl Tryz.ntmps31 Tryz.results31 rfl fun N=>?_
 repeat' (first|refine zV ?_|(refine isR ?_;refine zk c1 ?_)|refine zW ?_|exact ai)
 all_goals rfl
theorem aax:aj Tryz.prog 33 [.fp (stC S L nx p g P U t) 0] (.int .i64 (gB p:Nat)):=by
 have c1:=Cb (p:=p)
 generalize gB p=z at *
 refine aW af Tryz.func33 rfl Tryz.ntmps33 Tryz.results33 rfl fun N=>?_
 repeat' (first|refine zV ?_|(refine isR ?_;refine zk c1 ?_)|refine zW ?_|exact ai)
 all_goals rfl
theorem abV:aj Tryz.prog 35 [.fp (stC S L nx p g P U t) 0] (.int .i64 (bF.check g U:Nat)):=by
 have c1:=mY.lq (g:=g) (P:=P) (L:=U)
 generalize bF.check g U=z at *
 refine aW af Tryz.func35 rfl Tryz.ntmps35 Tryz.results35 rfl fun N=>?_
 repeat' (first|refine zV ?_|(refine isR ?_;refine zk c1 ?_)|refine zW ?_|exact ai)
 all_goals rfl
theorem CV (h:Rj L nx):∀ c∈L,isJ c.created=true:=fun c hc=>by
 have:=h.mom c hc
 unfold kI at this
 cases hq:isJ c.created with
 | true=>rfl
 | false=>rw [hq] at this;cases this
theorem xA (hd:∀ c∈L,c.domain.length≤4398046511104):av Tryz.prog bG 12 [stV S L nx p g P U t] (.int .i64 ((qF S L nx p g P U t:Nat):Int)):=by
 have c1:=aao (S:=S) (L:=L) (nx:=nx) (p:=p) (g:=g) (P:=P) (U:=U) (t:=t)
 have c2:=abh (S:=S) (L:=L) (nx:=nx) (p:=p) (g:=g) (P:=P) (U:=U) (t:=t)
 have c3:=aax (S:=S) (L:=L) (nx:=nx) (p:=p) (g:=g) (P:=P) (U:=U) (t:=t)
 have c4:=abV (S:=S) (L:=L) (nx:=nx) (p:=p) (g:=g) (P:=P) (U:=U) (t:=t)
 have c5:=qI (n:=t)
 unfold qF
 by_cases h1:fT.bA S=0
 ·rw [if_neg (by rw [h1];simp)]
  rw [h1] at c1
  by_cases h2:dz L nx=0
  ·rw [if_neg (by rw [h2];simp)]
   rw [h2] at c2
   by_cases h3:gB p=0
   ·rw [if_neg (by rw [h3];simp)]
    rw [h3] at c3
    by_cases h4:bF.check g U=0
    ·rw [if_neg (by rw [h4];simp)]
     rw [h4] at c4
     by_cases h5:isJ t=false
     ·rw [if_pos h5]
      rw [h5] at c5
      refine mV af Tryz.func12 rfl Tryz.ntmps12 Tryz.results12 rfl fun N=>?_
      repeat' (first|with_reducible refine aQ ?_|with_reducible refine aO 5 ?_|refine zV ?_|(refine isR ?_;first|refine ak (c1 _) ?_|refine ak (c1) ?_|refine ak (c2 _) ?_|refine ak (c2) ?_|refine ak (c3 _) ?_|refine ak (c3) ?_|refine ak (c4 _) ?_|refine ak (c4) ?_|refine zk c5 ?_)|refine zW ?_|exact ai)
      all_goals first|rfl|(exfalso;omega)
     ·rw [if_neg h5]
      have h5:isJ t=true:=by simpa using h5
      rw [h5] at c5
      have hr:Rj L nx:=eX.1 h2
      have hlen:=hr.len
      have c6:=lS (S:=S) (nx:=nx) (g:=g) (P:=P) (U:=U) (t:=t) (gG h3) hr.len hd (CV hr)
      have hk:=wZ (p:=p) (P:=P) (U:=U) (now:=t) L
      have c7:=YB (L:=dF p P U t L) (K:=L) (by omega)
      generalize dF p P U t L=K at *
      by_cases h6:K=L
      ·rw [if_pos h6]
       rw [decide_eq_true h6] at c7
       refine mV af Tryz.func12 rfl Tryz.ntmps12 Tryz.results12 rfl fun N=>?_
       repeat' (first|with_reducible refine aQ ?_|with_reducible refine aO 5 ?_|refine zV ?_|(refine isR ?_;first|refine ak (c1 _) ?_|refine ak (c1) ?_|refine ak (c2 _) ?_|refine ak (c2) ?_|refine ak (c3 _) ?_|refine ak (c3) ?_|refine ak (c4 _) ?_|refine ak (c4) ?_|refine zk c5 ?_|refine zk c6 ?_|refine zk c7 ?_)|refine zW ?_|exact ai)
       all_goals first|rfl|(exfalso;omega)
      ·rw [if_neg h6]
       rw [decide_eq_false h6] at c7
       refine mV af Tryz.func12 rfl Tryz.ntmps12 Tryz.results12 rfl fun N=>?_
       repeat' (first|with_reducible refine aQ ?_|with_reducible refine aO 5 ?_|refine zV ?_|(refine isR ?_;first|refine ak (c1 _) ?_|refine ak (c1) ?_|refine ak (c2 _) ?_|refine ak (c2) ?_|refine ak (c3 _) ?_|refine ak (c3) ?_|refine ak (c4 _) ?_|refine ak (c4) ?_|refine zk c5 ?_|refine zk c6 ?_|refine zk c7 ?_)|refine zW ?_|exact ai)
       all_goals first|rfl|(exfalso;omega)
    ·rw [if_pos h4]
     generalize bF.check g U=z at *
     refine mV af Tryz.func12 rfl Tryz.ntmps12 Tryz.results12 rfl fun N=>?_
     repeat' (first|with_reducible refine aQ ?_|with_reducible refine aO 5 ?_|refine zV ?_|(refine isR ?_;first|refine ak (c1 _) ?_|refine ak (c1) ?_|refine ak (c2 _) ?_|refine ak (c2) ?_|refine ak (c3 _) ?_|refine ak (c3) ?_|refine ak (c4 _) ?_|refine ak (c4) ?_)|refine zW ?_|exact ai)
     all_goals first|rfl|(exfalso;omega)
   ·rw [if_pos h3]
    generalize gB p=z at *
    refine mV af Tryz.func12 rfl Tryz.ntmps12 Tryz.results12 rfl fun N=>?_
    repeat' (first|with_reducible refine aQ ?_|with_reducible refine aO 5 ?_|refine zV ?_|(refine isR ?_;first|refine ak (c1 _) ?_|refine ak (c1) ?_|refine ak (c2 _) ?_|refine ak (c2) ?_|refine ak (c3 _) ?_|refine ak (c3) ?_)|refine zW ?_|exact ai)
    all_goals first|rfl|(exfalso;omega)
  ·rw [if_pos h2]
   generalize dz L nx=z at *
   refine mV af Tryz.func12 rfl Tryz.ntmps12 Tryz.results12 rfl fun N=>?_
   repeat' (first|with_reducible refine aQ ?_|with_reducible refine aO 5 ?_|refine zV ?_|(refine isR ?_;first|refine ak (c1 _) ?_|refine ak (c1) ?_|refine ak (c2 _) ?_|refine ak (c2) ?_)|refine zW ?_|exact ai)
   all_goals first|rfl|(exfalso;omega)
 ·rw [if_pos h1]
  generalize fT.bA S=z at *
  refine mV af Tryz.func12 rfl Tryz.ntmps12 Tryz.results12 rfl fun N=>?_
  repeat' (first|with_reducible refine aQ ?_|with_reducible refine aO 5 ?_|refine zV ?_|(refine isR ?_;first|refine ak (c1 _) ?_|refine ak (c1) ?_)|refine zW ?_|exact ai)
  all_goals first|rfl|(exfalso;omega)
end I6
namespace Jg
open Go.RowKit Mem Abs fw dh iw eB Rdy Scan gy gY iW iY iV mX pG su xB z8 En Eu RjP Es I6 nT oC
open mY (gK gL)
variable {U:List Int} {K:List ah} {e:Int} {S2:List aG} {P:Nat→Bool} {g t:Int} {U2:List Int} {L2:List ah} {f:From} {t2:Int} {p2:Pol} {s:List UInt8} {S:List aG} {nx2:Int} {p:Pol} {g2 k:Int} {Γ:iJ} {P2:Nat→Bool} {L:List ah} {now:Int} {T:List UInt8} {nx:Int}
abbrev evC (r:Abs.V) (k now:Int) (s:List UInt8) (f:From):List Abs.V:=[.int .i64 k,.int .i64 now,au s,au f.host,au f.path,.bool f.secure,.bool f.script,.bool f.abroad,r,.int .i64 0,.int .i64 0,.int .i64 0,.int .i64 0,.int .i64 0,.int .i64 0,.int .i64 0,.int .i64 0,.int .i64 0,.int .i64 0,.int .i64 0,.int .i64 0]
abbrev evV (k now:Int) (s:List UInt8) (f:From):Abs.V:=.agg (evC (.fro []) k now s f)
abbrev evN (k now:Int) (s:List UInt8) (f:From):Abs.V:=.agg (evC .nils k now s f)
abbrev f0:From:=⟨[],[],false,false,false⟩
theorem Tt:aj Tryz.prog 74 [evV 1 now s f] (evN 1 now s f):=by
 refine aW af Tryz.func74 rfl Tryz.ntmps74 Tryz.results74 rfl fun N=>?_
 repeat' (first|refine zW ?_|exact ai)
 all_goals rfl
theorem Vb:aj Tryz.prog 74 [evV 2 now [] f] (evN 2 now [] f):=by
 refine aW af Tryz.func74 rfl Tryz.ntmps74 Tryz.results74 rfl fun N=>?_
 repeat' (first|refine zW ?_|exact ai)
 all_goals rfl
theorem DU:aj Tryz.prog 74 [evV 5 now [] f0] (evN 5 now [] f0):=by
 refine aW af Tryz.func74 rfl Tryz.ntmps74 Tryz.results74 rfl fun N=>?_
 repeat' (first|refine zW ?_|exact ai)
 all_goals rfl
theorem Ud:aj Tryz.prog 104 [.fro [],.fro []] (.bool true):=by
 have hz:([]:List Abs.V).length=0:=rfl
 refine aX af Tryz.func104 rfl Tryz.ntmps104 Tryz.results104 rfl fun N=>?_
 repeat' (first|with_reducible refine aQ ?_|with_reducible refine aO 2 ?_|refine zW ?_|exact ai)
 all_goals rfl
def ekF:Ty:=(nth tb 37).get rfl
theorem Y5 (f:From):eqF f.v.cells f.v.cells ekF.flds=true:=by
 have h:eqF f.v.cells f.v.cells ekF.flds=(eqS (au f.host) (au f.host)&&(eqS (au f.path) (au f.path)&&(eqS (.bool f.secure) (.bool f.secure)&&(eqS (.bool f.script) (.bool f.script)&&(eqS (.bool f.abroad) (.bool f.abroad)&&true))))):=rfl
 rw [h]
 simp [ji,Ck]
theorem Nj:aj Tryz.prog 73 [evV k now s f,evV k now s f] (.bool true):=by
 have c1:=Ud
 have hq:=Y5 f
 refine aX af Tryz.func73 rfl Tryz.ntmps73 Tryz.results73 rfl fun N=>?_
 repeat' (first|refine zV ?_|(refine isR ?_;first|refine vT af ?_|refine zk c1 ?_)|refine zW ?_|exact ai)
 all_goals first|rfl|(exfalso;omega)|(exfalso;simp_all;done)
theorem ve:aj Tryz.prog 72 [au s] (.bool (decide (400<s.length))):=by
 by_cases h:400<s.length
 ·rw [decide_eq_true h]
  refine aW af Tryz.func72 rfl Tryz.ntmps72 Tryz.results72 rfl fun N=>?_
  repeat' (first|refine zW ?_|exact ai)
  all_goals first|rfl|(exfalso;omega)
 ·rw [decide_eq_false h]
  refine aW af Tryz.func72 rfl Tryz.ntmps72 Tryz.results72 rfl fun N=>?_
  repeat' (first|refine zW ?_|exact ai)
  all_goals first|rfl|(exfalso;omega)
abbrev fnL:Abs.V:=.fn (.func 76) [] [.fp [.fn (.func 72) [] []] 0]
theorem abX:aj Tryz.prog 105 [.fro [],fnL] (.int .i64 (-1)):=by
 have hz:([]:List Abs.V).length=0:=rfl
 refine aX af Tryz.func105 rfl Tryz.ntmps105 Tryz.results105 rfl fun N=>?_
 repeat' (first|with_reducible refine aQ ?_|with_reducible refine aO 2 ?_|refine zW ?_|exact ai)
 all_goals rfl
theorem abA:aj Tryz.prog 75 [.fro [],fnL] (.bool false):=by
 have c1:=abX
 refine aX af Tryz.func75 rfl Tryz.ntmps75 Tryz.results75 rfl fun N=>?_
 repeat' (first|refine zV ?_|(refine isR ?_;refine zk c1 ?_)|refine zW ?_|exact ai)
 all_goals rfl
def DI (s:List UInt8) (f:From):Nat:=if 400<s.length∨400<f.host.length∨400<f.path.length then 2 else 0
theorem sW (cn:aj Tryz.prog 74 [evV k now s f] (evN k now s f)) (h1:1≤k) (h2:k≤5):aj Tryz.prog 43 [evV k now s f] (.int .i64 ((DI s f:Nat):Int)):=by
 have cs:aj Tryz.prog 73 [evV k now s f,evN k now s f] (.bool true):=Nj.nf rfl
 have l1:=ve (s:=s)
 have l2:=ve (s:=f.host)
 have l3:=ve (s:=f.path)
 have c1:=abA
 unfold DI
 by_cases e1:400<s.length
 ·rw [if_pos (.inl e1)]
  rw [decide_eq_true e1] at l1
  refine aW af Tryz.func43 rfl Tryz.ntmps43 Tryz.results43 rfl fun N=>?_
  repeat' (first|refine zV ?_|(refine isR ?_;first|refine zk cn ?_|refine zk cs ?_|refine ak (l1 _) ?_|refine ak (l1) ?_)|refine zW ?_|exact ai)
  all_goals first|rfl|(exfalso;omega)
 rw [decide_eq_false e1] at l1
 by_cases e2:400<f.host.length
 ·rw [if_pos (.inr (.inl e2))]
  rw [decide_eq_true e2] at l2
  refine aW af Tryz.func43 rfl Tryz.ntmps43 Tryz.results43 rfl fun N=>?_
  repeat' (first|refine zV ?_|(refine isR ?_;first|refine zk cn ?_|refine zk cs ?_|refine ak (l1 _) ?_|refine ak (l1) ?_|refine ak (l2 _) ?_|refine ak (l2) ?_)|refine zW ?_|exact ai)
  all_goals first|rfl|(exfalso;omega)
 rw [decide_eq_false e2] at l2
 by_cases e3:400<f.path.length
 ·rw [if_pos (.inr (.inr e3))]
  rw [decide_eq_true e3] at l3
  refine aW af Tryz.func43 rfl Tryz.ntmps43 Tryz.results43 rfl fun N=>?_
  repeat' (first|refine zV ?_|(refine isR ?_;first|refine zk cn ?_|refine zk cs ?_|refine ak (l1 _) ?_|refine ak (l1) ?_|refine ak (l2 _) ?_|refine ak (l2) ?_|refine ak (l3 _) ?_|refine ak (l3) ?_)|refine zW ?_|exact ai)
  all_goals first|rfl|(exfalso;omega)
 rw [decide_eq_false e3] at l3
 rw [if_neg (fun h=>h.elim e1 fun h=>h.elim e2 e3)]
 have hz:([]:List Abs.V).length=0:=rfl
 refine aW af Tryz.func43 rfl Tryz.ntmps43 Tryz.results43 rfl fun N=>?_
 repeat' (first|refine zV ?_|(refine isR ?_;first|refine zk cn ?_|refine zk cs ?_|refine ak (l1 _) ?_|refine ak (l1) ?_|refine ak (l2 _) ?_|refine ak (l2) ?_|refine ak (l3 _) ?_|refine ak (l3) ?_|refine uf [0] (c1 _) ?_|refine uf [0] (c1) ?_)|refine zW ?_|exact ai)
 all_goals first|rfl|(exfalso;omega)
abbrev TG:Nat:=93
abbrev rG (S:List aG) (L:List ah) (nx:Int) (p:Pol) (g:Int) (P:Nat→Bool) (U:List Int) (t:Int) (s:List UInt8):Blk:=.els TG 30 [.agg (stC S L nx p g P U t++[au s])]
theorem Pg {Z:List ah} (cg:av Tryz.prog Γ 110 [dI L nx,f.v,.int .i64 now] (.tup [dI L2 nx,.fro (Z.map ah.v),.int .i64 0])) (cw:aj Tryz.prog 111 [.fro (Z.map ah.v)] (au T)):
  aR Tryz.prog Γ 83 [.loc 0 0 0,evV 2 now [] f] [rG S L nx p g P U t s] (.int .i64 0) [some (rG S L2 nx p g P U t T)]:=by
 refine bJ af Tryz.func83 rfl Tryz.ntmps83 Tryz.results83 rfl rfl rfl rfl fun N pl=>?_
 repeat' (first|refine zV ?_|(refine isR ?_;first|refine zk cg ?_|refine zk cw ?_)|refine zW ?_|refine aA [0] ?_ ?_|exact ai)
 all_goals first|rfl|exact .on (.ren rfl) .nil
theorem Yi (cg:av Tryz.prog Γ 110 [dI L nx,f.v,.int .i64 now] (.tup [noJ,.nils,.int .i64 e])) (he:e≠0):
  aR Tryz.prog Γ 83 [.loc 0 0 0,evV 2 now [] f] [rG S L nx p g P U t s] (.int .i64 e) [some (rG S L nx p g P U t s)]:=by
 refine bJ af Tryz.func83 rfl Tryz.ntmps83 Tryz.results83 rfl rfl rfl rfl fun N pl=>?_
 repeat' (first|refine zV ?_|(refine isR ?_;refine zk cg ?_)|refine zW ?_|refine aA [0] ?_ ?_|exact ai)
 all_goals first|rfl|exact .on (.ren rfl) .nil|(exfalso;omega)
theorem VT (cp:av Tryz.prog Γ 39 [stV S L nx p g P U now] (dI K nx)) (ca:aR Tryz.prog Γ 83 [.loc 0 0 0,evV 2 now [] f] [rG S K nx p g P U now s] (.int .i64 e) [some (rG S L2 nx p g P U now T)]):
  aR Tryz.prog Γ 45 [.loc 0 0 0,evV 2 now [] f] [rG S L nx p g P U t s] (.int .i64 e) [some (rG S L2 nx p g P U now T)]:=by
 refine bJ af Tryz.func45 rfl Tryz.ntmps45 Tryz.results45 rfl rfl rfl rfl fun N pl=>?_
 repeat' (first|refine zV ?_|(refine isR ?_;first|refine zk cp ?_|refine eG [0] [] (ca _) ?_|refine eG [0] [] (ca) ?_)|refine zW ?_|refine aA [0] ?_ ?_|exact ai)
 all_goals first|rfl|exact .on (.ren rfl) .nil
theorem aa5:aj Tryz.prog 81 [evV 5 now [] f0] (.int .i64 0):=by
 refine aW af Tryz.func81 rfl Tryz.ntmps81 Tryz.results81 rfl fun N=>?_
 repeat' (first|refine zW ?_|exact ai)
 all_goals rfl
theorem ZP (cp:av Tryz.prog Γ 39 [stV S L nx p g P U now] (dI K nx)):
  aR Tryz.prog Γ 45 [.loc 0 0 0,evV 5 now [] f0] [rG S L nx p g P U t s] (.int .i64 0) [some (rG S K nx p g P U now s)]:=by
 have c1:=aa5 (now:=now)
 refine bJ af Tryz.func45 rfl Tryz.ntmps45 Tryz.results45 rfl rfl rfl rfl fun N pl=>?_
 repeat' (first|refine zV ?_|(refine isR ?_;first|refine zk cp ?_|refine ak (c1 _) ?_|refine ak (c1) ?_)|refine zW ?_|refine aA [0] ?_ ?_|exact ai)
 all_goals first|rfl|exact .on (.ren rfl) .nil
abbrev st0:Abs.V:=.agg [.nils,.nils,.int .i64 0,.nils,.int .i64 0,.int .i64 0,.int .i64 0,.int .i64 0,.int .i64 0,.int .i64 0,.int .i64 0,.int .i64 0,.int .i64 0,.int .i64 0,.int .i64 0,.int .i64 0,.int .i64 0,.bool false,.bool false,.bool false,.bool false,.bool false,.bool false,.bool false,.bool false,.bool false,.bool false,.nils,.int .i64 0]
theorem Bv (ce:aj Tryz.prog 43 [evV k now s f] (.int .i64 0)) (hn:isJ now=true) (ht:t≤now) (co:aj Tryz.prog 44 [stV S L nx p g P U t] (stV S L nx p g P U t)) (cd:aR Tryz.prog Γ 45 [.loc 0 0 0,evV k now s f] [rG S L nx p g P U t []] (.int .i64 0) [some (rG S2 L2 nx2 p2 g2 P2 U2 t2 T)]):
  av Tryz.prog Γ 16 [stV S L nx p g P U t,evV k now s f] (.tup [stV S2 L2 nx2 p2 g2 P2 U2 t2,au T,.int .i64 0]):=by
 have c1:=qI (n:=now)
 rw [hn] at c1
 refine iL af Tryz.func16 rfl Tryz.ntmps16 Tryz.results16 rfl fun N=>?_
 repeat' (first|refine zt ?_|(refine isR ?_;first|refine dP [28] af rfl ?_|refine zn ?_|refine zk ce ?_|refine zk c1 ?_|refine zk co ?_|refine x_m [1] [] (cd _) ?_|refine x_m [1] [] (cd) ?_|refine zc1 ?_|refine zc5 ?_|refine zc6 ?_)|refine zr ?_|exact ai)
 all_goals first|rfl|(exfalso;omega)
theorem QH (ce:aj Tryz.prog 43 [evV k now s f] (.int .i64 0)) (hn:isJ now=true) (ht:now<t) (co:aj Tryz.prog 44 [stV S L nx p g P U t] (stV S L nx p g P U t)):
  aj Tryz.prog 16 [stV S L nx p g P U t,evV k now s f] (.tup [st0,au [],.int .i64 4]):=by
 have c1:=qI (n:=now)
 rw [hn] at c1
 refine aX af Tryz.func16 rfl Tryz.ntmps16 Tryz.results16 rfl fun N=>?_
 repeat' (first|refine zt ?_|(refine isR ?_;first|refine dP [28] af rfl ?_|refine zn ?_|refine zk ce ?_|refine zk c1 ?_|refine zk co ?_|refine zc1 ?_|refine zc5 ?_|refine zc6 ?_)|refine zr ?_|exact ai)
 all_goals first|rfl|(exfalso;omega)
theorem Je (c1:av Tryz.prog Γ 12 [stV S L nx p g P U t] (.int .i64 0)) (c2:av Tryz.prog Γ 16 [stV S L nx p g P U t,evV k now s f] (.tup [stV S2 L2 nx2 p2 g2 P2 U2 t2,au T,.int .i64 0])):
  av Tryz.prog Γ 6 [stV S L nx p g P U t,evV k now s f] (.tup [stV S2 L2 nx2 p2 g2 P2 U2 t2,au T,.int .i64 0]):=by
 refine iL af Tryz.func6 rfl Tryz.ntmps6 Tryz.results6 rfl fun N=>?_
 repeat' (first|refine zV ?_|(refine isR ?_;first|refine zk c1 ?_|refine zk c2 ?_)|refine zW ?_|exact ai)
 all_goals first|rfl|(exfalso;omega)
theorem Qv (c1:av Tryz.prog Γ 12 [stV S L nx p g P U t] (.int .i64 0)) (c2:av Tryz.prog Γ 16 [stV S L nx p g P U t,evV k now s f] (.tup [st0,au [],.int .i64 e])):
  av Tryz.prog Γ 6 [stV S L nx p g P U t,evV k now s f] (.tup [st0,au [],.int .i64 e]):=by
 refine iL af Tryz.func6 rfl Tryz.ntmps6 Tryz.results6 rfl fun N=>?_
 repeat' (first|refine zV ?_|(refine isR ?_;first|refine zk c1 ?_|refine zk c2 ?_)|refine zW ?_|exact ai)
 all_goals first|rfl|(exfalso;omega)
end Jg
end Go.Proofs.YtlfdjpgghiemfaaGreatDoor
