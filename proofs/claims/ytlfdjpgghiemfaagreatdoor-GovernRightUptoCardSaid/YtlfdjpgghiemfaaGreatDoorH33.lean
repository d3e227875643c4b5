/- Texts of the proof, joined: SufW, GovA. -/
import Derived.Test.YtlfdjpgghiemfaaGreatDoorH32
set_option maxHeartbeats 4000000
set_option maxRecDepth 100000
namespace Go.Proofs.YtlfdjpgghiemfaaGreatDoor
namespace Ay
open Go.RowKit Mem Abs cu iR jh rA gV xh Lm PI VL bH bX dn eO fQ
variable {r:aG} {L:List aG} {a:aG} {l:List UInt8} {k:Nat}
theorem aaI (l:List UInt8):(iy 46 l).2.1=up l:=by
 rcases mW 46 l with h|⟨a,r,rfl,h⟩
 ·rw [Fs h,ZR h]
 ·rw [Pb h,adt h]
theorem OX:aj Tryz.prog 61 [au l] (au (up l)):=by
 have c1:=KS (c:=46) (l:=l)
 rw [aaI] at c1
 refine aU af Tryz.func61 rfl Tryz.ntmps61 Tryz.results61 rfl fun N=>?_
 repeat' (first|refine zt ?_|(refine isR ?_;first|refine zo ?_|refine zk c1 ?_)|refine zr ?_|exact ah)
 rfl
theorem uH (l:List UInt8):bR l=(decide ((dS l).2=0)&&decide ((dS l).1=l)):=by
 unfold bR
 obtain ⟨a,b⟩:=dS l
 simp [Bool.and_comm,Prod.mk.injEq,Bool.decide_and]
theorem vZ:aj Tryz.prog 59 [au l] (.bool (bR l)):=by
 have c1:=PN (l:=l)
 rw [uH]
 generalize dS l=p at *
 obtain ⟨h,n⟩:=p
 dsimp only [pairT] at c1
 refine aU af Tryz.func59 rfl Tryz.ntmps59 Tryz.results59 rfl fun N=>?_
 by_cases h0:n=0
 ·subst h0
  by_cases h1:h=l
  ·subst h1
   repeat' (first|refine zt ?_|(refine isR ?_;first|refine zo ?_|refine zk c1 ?_|refine zc5 ?_)|refine zr ?_|exact ah)
   simp;rfl
  ·repeat' (first|refine zt ?_|(refine isR ?_;first|refine zo ?_|refine zk c1 ?_|refine zc5 ?_)|refine zr ?_|exact ah)
   simp [h1];rfl
 ·repeat' (first|refine zt ?_|(refine isR ?_;first|refine zo ?_|refine zk c1 ?_|refine zc5 ?_)|refine zr ?_|exact ah)
  simp [h0];rfl
abbrev vR (L:List aG):Abs.V:=.fro (L.map aG.v)
def ekS:Ty:=(nth tb 108).get rfl
theorem D7 (a b:aG):eqK ekS a.v b.v=decide (a=b):=by
 have h:eqK ekS a.v b.v=(decide (a.kind=b.kind)&&(eqS (au a.name) (au b.name)&&true)):=rfl
 rw [h,jA,Bool.and_true]
 obtain ⟨a1,a2⟩:=a
 obtain ⟨b1,b2⟩:=b
 by_cases h1:a1=b1<;>by_cases h2:a2=b2<;>simp [h1,h2]
def mk (p:aG × Nat):Abs.V × Abs.V:=(p.1.v,.int .i64 (p.2:Int))
theorem K9 (a:aG) (M:List (aG × Nat)):(a ∉ M.map (·.1)∧dI ekS a.v (M.map mk) 0=none)∨(a∈M.map (·.1)∧∃ i n,dI ekS a.v (M.map mk) 0=some i∧(M.map mk)[i]? = some (a.v,.int .i64 (n:Nat))):=by
 rcases JC (e:=ekS) (k:=a.v) (es:=M.map mk) (i:=0) with h|⟨j,p,h1,h2,h3,h4⟩
 ·by_cases hm:a∈M.map (·.1)
  ·obtain ⟨q,hq,rfl⟩:=List.mem_map.1 hm
   obtain ⟨i,hi⟩:=List.mem_iff_getElem?.1 hq
   exfalso
   have:∀ (M:List (aG × Nat)) (i k:Nat),M[i]? = some q→dI ekS q.1.v (M.map mk) k≠none:=by
    intro M
    induction M with
    | nil=>intro i k h;simp at h
    | cons x M ih =>
     intro i k h
     rw [List.map_cons,dI]
     cases hb:eqK ekS q.1.v (mk x).1 with
     | true=>simp
     | false =>
      rw [cond_false]
      rcases i with _|i
      ·simp at h;subst h
       have:=D7 x.1 x.1
       rw [show (mk x).1=x.1.v from rfl,this] at hb
       simp at hb
      ·exact ih i (k+1) (by simpa using h)
   exact this M i 0 hi h
  ·exact .inl ⟨hm,h⟩
 ·rw [List.getElem?_map,Option.map_eq_some_iff] at h2
  obtain ⟨q,hq,rfl⟩:=h2
  have e:a=q.1:=by
   rw [show (mk q).1=q.1.v from rfl,D7] at h3
   simpa using h3
  subst e
  refine .inr ⟨List.mem_map.2 ⟨q,List.mem_of_getElem? hq,rfl⟩,j,q.2,by simpa using h1,?_⟩
  rw [List.getElem?_map,hq];rfl
theorem adH {M:List (aG × Nat)}:aK Tryz.prog 232 [.mp 0,.int .i64 a.kind,au a.name] [.map (M.map mk)] (.bool (decide (a∈M.map (·.1)))) [some (.map (M.map mk))]:=by
 refine bP af Tryz.func232 rfl Tryz.ntmps232 Tryz.results232 rfl rfl rfl rfl fun N pl=>?_
 rcases K9 a M with ⟨h1,h2⟩|⟨h1,i,n,h2,h3⟩
 ·rw [decide_eq_false h1]
  repeat' (first|refine zt ?_|(refine isR ?_;first|refine zo ?_|refine zM ?_)|refine aA [0] ?_ ?_|exact ah)
  ·rfl
  ·exact .on (.map (jV fun _=>rfl)) .nil
 ·rw [decide_eq_true h1]
  repeat' (first|refine zt ?_|(refine isR ?_;first|refine zo ?_|refine zM ?_)|refine aA [0] ?_ ?_|exact ah)
  ·rfl
  ·exact .on (.map (jV fun _=>rfl)) .nil
theorem PX {xs r:List Abs.V} (h:V.qR (.fro xs::r)):xs.length≤140737488355328∧V.qR r:=⟨h.1.1,h.2⟩
theorem lN:aj Tryz.prog 97 [vR L,a.v] (.int .i64 (fE (fun r=>decide (a=r)) L)):=aj.lim fun hl=>by
 have hlim:=(PX hl).1
 have hx:((L.map aG.v).length:Int)=(L.length:Int):=by simp
 refine aW af Tryz.func97 rfl Tryz.ntmps97 Tryz.results97 rfl fun N=>?_
 repeat' (first|refine zt ?_|(refine isR ?_;first|refine zo ?_|refine zX ?_)|refine zr ?_|exact ah)
 refine bE (fun k=>⟨[(0,vR L),(3,.fp a.v.cells 0),(7,.int .i64 (L.map aG.v).length),(8,.int .i64 (k:Int))],[],0,19⟩) (fun k=>k≤L.length∧lK (fun r => !decide (a=r)) L k) L.length 0 (by exact ah) ⟨Nat.zero_le _,vo⟩ ?_
 intro k ⟨hk,hq⟩
 by_cases hk2:k<L.length
 ·have e1:(L.map aG.v)[k]? = some (L[k]).v:=by simp [hk2]
  have e2:L[k]? = some L[k]:=by simp [hk2]
  generalize L[k]=b at e1 e2
  have he:=D7 a b
  by_cases hab:a=b
  ·rw [decide_eq_true hab] at he
   repeat' (first|refine zt ?_|(refine isR ?_;first|refine zo ?_|refine zX ?_)|refine zr ?_|exact ah)
   rw [oh (fun j y hj hy=>by have:=hq j y hj hy;simpa using this) e2 (by simpa using hab)]
   rfl
  ·rw [decide_eq_false hab] at he
   repeat' (first|refine zt ?_|(refine isR ?_;first|refine zo ?_|refine zX ?_)|refine zr ?_|exact ah)
   exact ⟨⟨by omega,hq.on e2 (by simpa using hab)⟩,hk2,(by exact ah)⟩
 ·repeat' (first|refine zt ?_|(refine isR ?_;first|refine zo ?_|refine zX ?_)|refine zr ?_|exact ah)
  rw [kE (fun x hx=>by have:=List.all_eq_true.1 (hq.all hk2) x hx;simpa using this)]
  rfl
theorem fD:aj Tryz.prog 62 [vR L,a.v] (.bool (decide (a∈L))):=by
 have c1:=lN (L:=L) (a:=a)
 have hg:=lW (p:=fun r=>decide (a=r)) (l:=L)
 have hm:L.any (fun r=>decide (a=r))=decide (a∈L):=by
  rw [Bool.eq_iff_iff,List.any_eq_true,decide_eq_true_eq]
  exact ⟨fun ⟨x,h1,h2⟩=>by have:=of_decide_eq_true h2;subst this;exact h1,fun h=>⟨a,h,by simp⟩⟩
 rw [hm] at hg
 generalize fE (fun r=>decide (a=r)) L=n at *
 generalize decide (a∈L)=x at *
 refine aW af Tryz.func62 rfl Tryz.ntmps62 Tryz.results62 rfl fun N=>?_
 by_cases h0:0≤n
 ·repeat' (first|refine zt ?_|(refine isR ?_;first|refine zo ?_|refine zk c1 ?_|refine zc4 ?_)|refine zr ?_|exact ah)
  rw [hg.1 h0];rfl
 ·have:x=false:=by
   cases x with
   | true=>exact absurd (hg.2 rfl) h0
   | false=>rfl
  repeat' (first|refine zt ?_|(refine isR ?_;first|refine zo ?_|refine zk c1 ?_|refine zc4 ?_)|refine zr ?_|exact ah)
  rw [this];rfl
theorem rX (h:L[k]? = some r):jy (L.take k) (L.drop k)=if oU r≠0 then oU r else if r∈L.take k then 6 else jy (L.take (k+1)) (L.drop (k+1)):=by
 obtain ⟨hk,rfl⟩:=List.getElem?_eq_some_iff.1 h
 rw [List.drop_eq_getElem_cons hk,jy,List.take_succ_eq_append_getElem hk]
theorem La (h:r.kind<1∨3<r.kind):oU r=7:=by unfold oU;rw [if_pos h]
theorem Dt (h:¬ (r.kind<1∨3<r.kind)) (h2:bR r.name=false∨address r.name=true∨(r.kind=3∧up r.name=[])):oU r=1:=by unfold oU;rw [if_neg h,if_pos h2]
theorem ab2 (h:¬ (r.kind<1∨3<r.kind)) (h2:¬ (bR r.name=false∨address r.name=true∨(r.kind=3∧up r.name=[]))):oU r=0:=by unfold oU;rw [if_neg h,if_neg h2]
theorem rH {n:Nat} (h:L[k]? = some r) (hc:jy (L.take k) (L.drop k)=bA L) (hb:oU r=n) (hn:n≠0):bA L=n:=by
 rw [← hc,rX h,hb,if_pos hn]
theorem Oa (h:L[k]? = some r) (hc:jy (L.take k) (L.drop k)=bA L) (hb:oU r=0) (hm:r∈L.take k):bA L=6:=by
 rw [← hc,rX h,hb,if_neg (by simp),if_pos hm]
theorem XP (h:L[k]? = some r) (hc:jy (L.take k) (L.drop k)=bA L) (hb:oU r=0) (hm:r ∉ L.take k):jy (L.take (k+1)) (L.drop (k+1))=bA L:=by
 rw [← hc,rX h,hb,if_neg (by simp),if_neg hm]
theorem Ti (hk:¬ k<L.length) (hc:jy (L.take k) (L.drop k)=bA L):bA L=0:=by
 rw [← hc,List.drop_eq_nil_of_le (by omega)];rfl
theorem lC:av Tryz.prog bI 30 [vR L] (.int .i64 (bA L:Nat)):=by
 have hx:((L.map aG.v).length:Int)=(L.length:Int):=by simp
 refine lZ af Tryz.func30 rfl Tryz.ntmps30 Tryz.results30 rfl fun N=>?_
 by_cases h16:16<L.length
 ·repeat' (first|refine zt ?_|(refine isR ?_;first|refine zo ?_|refine zX ?_|(refine zs5 ?_ ?_<;>intro hc))|refine zr ?_|exact ah)
  have:bA L=2:=by unfold bA;rw [if_pos h16]
  rw [this];rfl
 ·have h0:jy (L.take 0) (L.drop 0)=bA L:=by unfold bA;rw [if_neg h16];rfl
  repeat' (first|refine zt ?_|(refine isR ?_;first|refine zo ?_|refine zX ?_|(refine zs5 ?_ ?_<;>intro hc))|refine zr ?_|exact ah)
  refine bE (fun k=>⟨[(0,vR L),(8,vR L),(9,.int .i64 (L.map aG.v).length),(10,.int .i64 (k:Int))],[],0,48⟩) (fun k=>k≤L.length∧jy (L.take k) (L.drop k)=bA L) L.length 0 (by exact ah) ⟨Nat.zero_le _,h0⟩ ?_
  intro k ⟨hk,hcc⟩
  by_cases hk2:k<L.length
  ·have e1:(L.map aG.v)[k]? = some (L[k]).v:=by simp [hk2]
   have e2:L[k]? = some L[k]:=by simp [hk2]
   generalize L[k]=r at e1 e2
   by_cases h7:r.kind<1∨3<r.kind
   ·rcases h7 with h7|h7
    ·repeat' (first|refine zt ?_|(refine isR ?_;first|refine zo ?_|refine zX ?_|(refine zs5 ?_ ?_<;>intro hc))|refine zr ?_|exact ah)
     rw [rH e2 hcc (La (.inl h7)) (by decide)];rfl
    ·repeat' (first|refine zt ?_|(refine isR ?_;first|refine zo ?_|refine zX ?_|(refine zs5 ?_ ?_<;>intro hc))|refine zr ?_|exact ah)
     rw [rH e2 hcc (La (.inr h7)) (by decide)];rfl
   ·have c1:=vZ (l:=r.name)
    have c2:=tZ (l:=r.name)
    have c3:=OX (l:=r.name)
    have c4:=fD (L:=L.take k) (a:=r)
    by_cases hh:bR r.name=true
    ·rw [hh] at c1
     have c2:=c2 (by have:=((sU _).1 hh).len;omega)
     by_cases ha:address r.name=true
     ·rw [ha] at c2
      repeat' (first|refine zt ?_|(refine isR ?_;first|refine zo ?_|refine zk c1 ?_|refine zk c2 ?_|refine zX ?_|(refine zs5 ?_ ?_<;>intro hc))|refine zr ?_|exact ah)
      rw [rH e2 hcc (Dt h7 (.inr (.inl ha))) (by decide)];rfl
     ·simp only [Bool.not_eq_true] at ha
      rw [ha] at c2
      by_cases h3:r.kind=3∧up r.name=[]
      ·rw [h3.2] at c3
       have h3':=h3.1
       repeat' (first|refine zt ?_|(refine isR ?_;first|refine zo ?_|refine zk c1 ?_|refine zk c2 ?_|refine zk c3 ?_|refine zX ?_|(refine zs5 ?_ ?_<;>intro hc))|refine zr ?_|exact ah)
       rw [rH e2 hcc (Dt h7 (.inr (.inr h3))) (by decide)];rfl
      ·have hb:oU r=0:=ab2 h7 (by rw [hh,ha];simpa using h3)
       by_cases hm:r∈L.take k
       ·rw [decide_eq_true hm] at c4
        repeat' (first|refine zt ?_|(refine isR ?_;first|refine zo ?_|refine zk c1 ?_|refine zk c2 ?_|refine zk c3 ?_|refine zk c4 ?_|refine zX ?_|(refine zs5 ?_ ?_<;>intro hc))|refine zr ?_|exact ah)
        all_goals first
         | (exact absurd ⟨by assumption,by assumption⟩ h3)
         | (rw [Oa e2 hcc hb hm];rfl)
       ·rw [decide_eq_false hm] at c4
        repeat' (first|refine zt ?_|(refine isR ?_;first|refine zo ?_|refine zk c1 ?_|refine zk c2 ?_|refine zk c3 ?_|refine zk c4 ?_|refine zX ?_|(refine zs5 ?_ ?_<;>intro hc))|refine zr ?_|exact ah)
        all_goals first
         | (exact absurd ⟨by assumption,by assumption⟩ h3)
         | exact ⟨⟨by omega,XP e2 hcc hb hm⟩,hk2,(by exact ah)⟩
    ·simp only [Bool.not_eq_true] at hh
     rw [hh] at c1
     repeat' (first|refine zt ?_|(refine isR ?_;first|refine zo ?_|refine zk c1 ?_|refine zX ?_|(refine zs5 ?_ ?_<;>intro hc))|refine zr ?_|exact ah)
     rw [rH e2 hcc (Dt h7 (.inl hh)) (by decide)];rfl
  ·repeat' (first|refine zt ?_|(refine isR ?_;first|refine zo ?_|refine zX ?_|(refine zs5 ?_ ?_<;>intro hc))|refine zr ?_|exact ah)
   rw [Ti hk2 hcc];rfl
end Ay
namespace Cy
open Go.RowKit Mem Abs eO cu gV dV Rdy Scan fI gF iG iP iQ kY nu oZ uR yh yO Aq RjP Aw mZ zP
open lG (gD gu)
variable {α:Type} {g t:Int} {P:Nat→Bool} {f:α→Abs.V} {L:List ai} {nx:Int} {p:Pol} {U:List Int} {S:List aG}
abbrev stC (S:List aG) (L:List ai) (nx:Int) (p:Pol) (g:Int) (P:Nat→Bool) (U:List Int) (t:Int):List Abs.V:=[.fro (S.map aG.v),.fro (L.map ai.v),.int .i64 nx,.fro (p.rules.map Rule.v),.int .i64 p.dflt,.int .i64 (p.caps 0),.int .i64 (p.caps 1),.int .i64 (p.caps 2),.int .i64 (p.caps 3),.int .i64 (p.caps 4),.int .i64 (p.caps 5),.int .i64 (p.caps 6),.int .i64 (p.caps 7),.int .i64 (p.caps 8),.int .i64 (p.caps 9),.int .i64 (p.caps 10),.int .i64 g,.bool (P 0),.bool (P 1),.bool (P 2),.bool (P 3),.bool (P 4),.bool (P 5),.bool (P 6),.bool (P 7),.bool (P 8),.bool (P 9),gu U,.int .i64 t]
abbrev stV (S:List aG) (L:List ai) (nx:Int) (p:Pol) (g:Int) (P:Nat→Bool) (U:List Int) (t:Int):Abs.V:=.agg (stC S L nx p g P U t)
theorem Py {L:List α}:Abs.V.fro (List.take L.length (List.drop 0 (L.map f))) = .fro (L.map f):=by rw [List.drop_zero,List.take_of_length_le (by simp)]
theorem xB {F T sz:Nat} {L:List α} (hf:∀ a,(f a).names=[]) (h:aK Tryz.prog F [.fro (L.map f)] [] (.own 0 0 L.length) [some (.els T sz (L.map f))]):aj Tryz.prog F [.fro (L.map f)] (.fro (L.map f)):=fun g=>by
 refine Af (bs:=[.els T sz (L.map f)]) (h g) ?_ ⟨GZ hf,by simp⟩
 show some (Abs.V.fro (List.take L.length (List.drop 0 (L.map f))))=_
 rw [Py]
theorem Uu (hb:L.length*112≤140737488355328):aj Tryz.prog 78 [.fro (L.map ai.v)] (.fro (L.map ai.v)):=xB (fun _=>rfl) (II hb)
theorem Xe {L:List aG} (hb:L.length≤1000):aK Tryz.prog 77 [.fro (L.map aG.v)] [] (.own 0 0 L.length) [some (.els 108 2 (L.map aG.v))]:=by
 refine bP af Tryz.func77 rfl Tryz.ntmps77 Tryz.results77 rfl rfl rfl rfl fun N pl=>?_
 repeat' (first|refine yc af (fun b hq=>?_)|(with_reducible refine kP (c:=Code.ret) (t:=2) 108 2 (by decide) rfl rfl ?_)|refine aA [1] ?_ ?_|refine zt ?_|(refine isR ?_;first|refine dQ [5] af rfl ?_|refine zn ?_|refine Ic aG.v (L:=[]) (K':=L) af ?_|refine Pe 5 af ?_)|(refine zq ?_ ?_<;>intro hb)|refine aA [0] ?_ ?_|exact ah)
 all_goals first
  | (have hn:=hq hb;simp only [List.map_eq_nil_iff] at hn;subst hn;first|rfl|exact .on (.same rfl) .nil)
  | rfl
  | exact .on (.same (aT fun _=>rfl)) .nil
theorem Lg {L:List Rule} (hb:L.length≤1000):aK Tryz.prog 79 [.fro (L.map Rule.v)] [] (.own 0 0 L.length) [some (.els 110 4 (L.map Rule.v))]:=by
 refine bP af Tryz.func79 rfl Tryz.ntmps79 Tryz.results79 rfl rfl rfl rfl fun N pl=>?_
 repeat' (first|refine yc af (fun b hq=>?_)|(with_reducible refine kP (c:=Code.ret) (t:=2) 110 4 (by decide) rfl rfl ?_)|refine aA [1] ?_ ?_|refine zt ?_|(refine isR ?_;first|refine dQ [5] af rfl ?_|refine zn ?_|refine Ic Rule.v (L:=[]) (K':=L) af ?_|refine Pe 5 af ?_)|(refine zq ?_ ?_<;>intro hb)|refine aA [0] ?_ ?_|exact ah)
 all_goals first
  | (have hn:=hq hb;simp only [List.map_eq_nil_iff] at hn;subst hn;first|rfl|exact .on (.same rfl) .nil)
  | rfl
  | exact .on (.same (aT fun _=>rfl)) .nil
theorem SX {L:List Int} (hb:L.length≤1000):aK Tryz.prog 80 [.fro (L.map (Abs.V.int .i64))] [] (.own 0 0 L.length) [some (.els 3 1 (L.map (Abs.V.int .i64)))]:=by
 refine bP af Tryz.func80 rfl Tryz.ntmps80 Tryz.results80 rfl rfl rfl rfl fun N pl=>?_
 repeat' (first|refine yc af (fun b hq=>?_)|(with_reducible refine kP (c:=Code.ret) (t:=2) 3 1 (by decide) rfl rfl ?_)|refine aA [1] ?_ ?_|refine zt ?_|(refine isR ?_;first|refine dQ [5] af rfl ?_|refine zn ?_|refine Ic (Abs.V.int .i64) (L:=[]) (K':=L) af ?_|refine Pe 5 af ?_)|(refine zq ?_ ?_<;>intro hb)|refine aA [0] ?_ ?_|exact ah)
 all_goals first
  | (have hn:=hq hb;simp only [List.map_eq_nil_iff] at hn;subst hn;first|rfl|exact .on (.same rfl) .nil)
  | rfl
  | exact .on (.same (aT fun _=>rfl)) .nil
theorem WH (h1:S.length≤1000) (h2:L.length≤1000) (h3:p.rules.length≤1000) (h4:U.length≤1000):aj Tryz.prog 44 [stV S L nx p g P U t] (stV S L nx p g P U t):=by
 have c1:=xB (fun _=>rfl) (Xe h1)
 have c2:=Uu (L:=L) (by omega)
 have c3:=xB (fun _=>rfl) (Lg h3)
 have c4:=xB (fun _=>rfl) (SX h4)
 refine aU af Tryz.func44 rfl Tryz.ntmps44 Tryz.results44 rfl fun N=>?_
 repeat' (first|refine zt ?_|(refine isR ?_;first|refine dQ [1] af rfl ?_|refine zn ?_|refine zk c1 ?_|refine zk c2 ?_|refine zk c3 ?_|refine zk c4 ?_)|refine zr ?_|exact ah)
 all_goals rfl
theorem ZC {K:List ai} (hL:L.length≤1000):aj Tryz.prog 38 [.fro (L.map ai.v),.fro (K.map ai.v)] (.bool (decide (L=K))):=by
 have hml:(L.map ai.v).length=L.length:=List.length_map _
 have hmk:(K.map ai.v).length=K.length:=List.length_map _
 by_cases h0:L.length=K.length
 ·generalize hR:decide (L=K)=R
  refine aW af Tryz.func38 rfl Tryz.ntmps38 Tryz.results38 rfl fun N=>?_
  repeat' (first|refine zt ?_|(refine isR ?_;first|refine zo ?_|refine zX ?_)|(refine zq ?_ ?_<;>intro hb)|refine zr ?_|exact ah)
  all_goals first|(exfalso;omega)|skip
  refine bE (fun k=>⟨[(0,.fro (L.map ai.v)),(1,.fro (K.map ai.v)),(12,nV L.length),(13,nV k)],[],0,26⟩) (fun k=>k≤L.length∧∀ j,j<k→L[j]? = K[j]?) L.length 0 (by exact ah) ⟨Nat.zero_le _,fun j h=>by omega⟩ ?_
  rintro k ⟨hk,hd⟩
  by_cases hk2:k<L.length
  ·have hx:L[k]? = some L[k]:=by simp [hk2]
   have hy:K[k]? = some (K[k]'(by omega)):=by simp [show k<K.length by omega]
   have hno:L[k]≠K[k]'(by omega)→R=false:=fun h=>by
    rw [← hR,decide_eq_false]
    rintro rfl
    exact h rfl
   generalize L[k]=a at *
   generalize K[k]'(by omega)=b at *
   have hm:=bT (f:=ai.v) hx
   have hm2:=bT (f:=ai.v) hy
   have he:=Fb a b
   by_cases e:a=b
   ·rw [decide_eq_true e] at he
    repeat' (first|refine zt ?_|(refine isR ?_;first|refine zo ?_|refine zX ?_)|(refine zq ?_ ?_<;>intro hb)|refine zr ?_|exact ah)
    all_goals first|(exfalso;exact absurd ((congrArg not he).symm.trans hb) (by decide))|skip
    refine ⟨⟨by omega,fun j hj=>?_⟩,hk2,(by exact ah)⟩
    by_cases ej:j=k
    ·subst ej;rw [hx,hy,e]
    ·exact hd j (by omega)
   ·rw [decide_eq_false e] at he
    rw [hno e]
    repeat' (first|refine zt ?_|(refine isR ?_;first|refine zo ?_|refine zX ?_)|(refine zq ?_ ?_<;>intro hb)|refine zr ?_|exact ah)
    all_goals first|rfl|(exfalso;exact absurd ((congrArg not he).symm.trans hb) (by decide))
  ·obtain rfl:k=L.length:=by omega
   have:R=true:=by
    rw [← hR,decide_eq_true_iff]
    apply List.ext_getElem?
    intro i
    by_cases hi:i<L.length
    ·exact hd i hi
    ·rw [List.getElem?_eq_none (by omega),List.getElem?_eq_none (by omega)]
   subst this
   repeat' (first|refine zt ?_|(refine isR ?_;first|refine zo ?_|refine zX ?_)|(refine zq ?_ ?_<;>intro hb)|refine zr ?_|exact ah)
   all_goals rfl
 ·have:decide (L=K)=false:=decide_eq_false (fun e=>h0 (by rw [e]))
  rw [this]
  refine aW af Tryz.func38 rfl Tryz.ntmps38 Tryz.results38 rfl fun N=>?_
  repeat' (first|refine zt ?_|(refine isR ?_;first|refine zo ?_|refine zX ?_)|(refine zq ?_ ?_<;>intro hb)|refine zr ?_|exact ah)
  all_goals first|rfl|(exfalso;omega)
theorem Gr {now:Int} (h:OkP p) (hL:L.length≤12) (hd:∀ c∈L,c.domain.length≤4398046511104) (hc:∀ c∈L,isJ c.created=true):av Tryz.prog bI 68 [dL L nx,iZ p,gD g P U,.int .i64 now] (dL (dm p P U now L) nx):=by
 refine Af (bs:=[rC (dm p P U now L)]) (ac4 h hL hd hc) ?_ ?_
 ·show some (Abs.V.agg [.fro (List.take (dm p P U now L).length (List.drop 0 ((dm p P U now L).map ai.v))),.int .i64 nx])=_
  rw [Py]
 ·repeat' first|exact trivial|exact rfl|(simp;done)|exact wO (fun _=>rfl)|constructor
theorem mD (h:OkP p) (hL:L.length≤12) (hd:∀ c∈L,c.domain.length≤4398046511104) (hc:∀ c∈L,isJ c.created=true):av Tryz.prog bI 39 [stV S L nx p g P U t] (dL (dm p P U t L) nx):=by
 have c1:=Gr (g:=g) (P:=P) (U:=U) (now:=t) (nx:=nx) h hL hd hc
 generalize dm p P U t L=K at *
 refine lZ af Tryz.func39 rfl Tryz.ntmps39 Tryz.results39 rfl fun N=>?_
 repeat' (first|refine zt ?_|(refine isR ?_;first|refine zo ?_|refine zk c1 ?_)|refine zr ?_|exact ah)
 all_goals rfl
theorem aaK:av Tryz.prog bI 29 [.fp (stC S L nx p g P U t) 0] (.int .i64 (fQ.bA S:Nat)):=by
 have c1:=Ay.lC (L:=S)
 generalize fQ.bA S=z at *
 refine lZ af Tryz.func29 rfl Tryz.ntmps29 Tryz.results29 rfl fun N=>?_
 repeat' (first|refine zt ?_|(refine isR ?_;first|refine zo ?_|refine zk c1 ?_)|refine zr ?_|exact ah)
 all_goals rfl
theorem abT:aj Tryz.prog 31 [.fp (stC S L nx p g P U t) 0] (.int .i64 (dD L nx:Nat)):=by
 have c1:=og (L:=L) (nx:=nx)
 generalize dD L nx=z at *
 refine aU af Tryz.func31 rfl Tryz.ntmps31 Tryz.results31 rfl fun N=>?_
 repeat' (first|refine zt ?_|(refine isR ?_;first|refine zo ?_|refine zk c1 ?_)|refine zr ?_|exact ah)
 all_goals rfl
theorem abJ:aj Tryz.prog 33 [.fp (stC S L nx p g P U t) 0] (.int .i64 (eH p:Nat)):=by
 have c1:=BK (p:=p)
 generalize eH p=z at *
 refine aU af Tryz.func33 rfl Tryz.ntmps33 Tryz.results33 rfl fun N=>?_
 repeat' (first|refine zt ?_|(refine isR ?_;first|refine zo ?_|refine zk c1 ?_)|refine zr ?_|exact ah)
 all_goals rfl
theorem acv:aj Tryz.prog 35 [.fp (stC S L nx p g P U t) 0] (.int .i64 (bD.check g U:Nat)):=by
 have c1:=lG.lC (g:=g) (P:=P) (L:=U)
 generalize bD.check g U=z at *
 refine aU af Tryz.func35 rfl Tryz.ntmps35 Tryz.results35 rfl fun N=>?_
 repeat' (first|refine zt ?_|(refine isR ?_;first|refine zo ?_|refine zk c1 ?_)|refine zr ?_|exact ah)
 all_goals rfl
theorem yT (h:Rj L nx):∀ c∈L,isJ c.created=true:=fun c hc=>by
 have:=h.mom c hc
 unfold kF at this
 cases hq:isJ c.created with
 | true=>rfl
 | false=>rw [hq] at this;cases this
theorem wE (hd:∀ c∈L,c.domain.length≤4398046511104):av Tryz.prog bI 12 [stV S L nx p g P U t] (.int .i64 ((u7 S L nx p g P U t:Nat):Int)):=by
 have c1:=aaK (S:=S) (L:=L) (nx:=nx) (p:=p) (g:=g) (P:=P) (U:=U) (t:=t)
 have c2:=abT (S:=S) (L:=L) (nx:=nx) (p:=p) (g:=g) (P:=P) (U:=U) (t:=t)
 have c3:=abJ (S:=S) (L:=L) (nx:=nx) (p:=p) (g:=g) (P:=P) (U:=U) (t:=t)
 have c4:=acv (S:=S) (L:=L) (nx:=nx) (p:=p) (g:=g) (P:=P) (U:=U) (t:=t)
 have c5:=qP (n:=t)
 unfold u7
 by_cases h1:fQ.bA S=0
 ·rw [if_neg (by rw [h1];simp)]
  rw [h1] at c1
  by_cases h2:dD L nx=0
  ·rw [if_neg (by rw [h2];simp)]
   rw [h2] at c2
   by_cases h3:eH p=0
   ·rw [if_neg (by rw [h3];simp)]
    rw [h3] at c3
    by_cases h4:bD.check g U=0
    ·rw [if_neg (by rw [h4];simp)]
     rw [h4] at c4
     by_cases h5:isJ t=false
     ·rw [if_pos h5]
      rw [h5] at c5
      refine lZ af Tryz.func12 rfl Tryz.ntmps12 Tryz.results12 rfl fun N=>?_
      repeat' (first|with_reducible refine aP ?_|with_reducible refine aO 5 ?_|refine zt ?_|(refine isR ?_;first|refine zo ?_|refine ak (c1 _) ?_|refine ak (c1) ?_|refine ak (c2 _) ?_|refine ak (c2) ?_|refine ak (c3 _) ?_|refine ak (c3) ?_|refine ak (c4 _) ?_|refine ak (c4) ?_|refine zk c5 ?_|refine zX ?_)|refine zr ?_|exact ah)
      all_goals first|rfl|(exfalso;omega)
     ·rw [if_neg h5]
      have h5:isJ t=true:=by simpa using h5
      rw [h5] at c5
      have hr:Rj L nx:=dx.1 h2
      have hlen:=hr.len
      have c6:=mD (S:=S) (nx:=nx) (g:=g) (P:=P) (U:=U) (t:=t) (eT h3) hr.len hd (yT hr)
      have hk:=wQ (p:=p) (P:=P) (U:=U) (now:=t) L
      have c7:=ZC (L:=dm p P U t L) (K:=L) (by omega)
      generalize dm p P U t L=K at *
      by_cases h6:K=L
      ·rw [if_pos h6]
       rw [decide_eq_true h6] at c7
       refine lZ af Tryz.func12 rfl Tryz.ntmps12 Tryz.results12 rfl fun N=>?_
       repeat' (first|with_reducible refine aP ?_|with_reducible refine aO 5 ?_|refine zt ?_|(refine isR ?_;first|refine zo ?_|refine ak (c1 _) ?_|refine ak (c1) ?_|refine ak (c2 _) ?_|refine ak (c2) ?_|refine ak (c3 _) ?_|refine ak (c3) ?_|refine ak (c4 _) ?_|refine ak (c4) ?_|refine zk c5 ?_|refine zk c6 ?_|refine zk c7 ?_|refine zX ?_)|refine zr ?_|exact ah)
       all_goals first|rfl|(exfalso;omega)
      ·rw [if_neg h6]
       rw [decide_eq_false h6] at c7
       refine lZ af Tryz.func12 rfl Tryz.ntmps12 Tryz.results12 rfl fun N=>?_
       repeat' (first|with_reducible refine aP ?_|with_reducible refine aO 5 ?_|refine zt ?_|(refine isR ?_;first|refine zo ?_|refine ak (c1 _) ?_|refine ak (c1) ?_|refine ak (c2 _) ?_|refine ak (c2) ?_|refine ak (c3 _) ?_|refine ak (c3) ?_|refine ak (c4 _) ?_|refine ak (c4) ?_|refine zk c5 ?_|refine zk c6 ?_|refine zk c7 ?_|refine zX ?_)|refine zr ?_|exact ah)
       all_goals first|rfl|(exfalso;omega)
    ·rw [if_pos h4]
     generalize bD.check g U=z at *
     refine lZ af Tryz.func12 rfl Tryz.ntmps12 Tryz.results12 rfl fun N=>?_
     repeat' (first|with_reducible refine aP ?_|with_reducible refine aO 5 ?_|refine zt ?_|(refine isR ?_;first|refine zo ?_|refine ak (c1 _) ?_|refine ak (c1) ?_|refine ak (c2 _) ?_|refine ak (c2) ?_|refine ak (c3 _) ?_|refine ak (c3) ?_|refine ak (c4 _) ?_|refine ak (c4) ?_|refine zX ?_)|refine zr ?_|exact ah)
     all_goals first|rfl|(exfalso;omega)
   ·rw [if_pos h3]
    generalize eH p=z at *
    refine lZ af Tryz.func12 rfl Tryz.ntmps12 Tryz.results12 rfl fun N=>?_
    repeat' (first|with_reducible refine aP ?_|with_reducible refine aO 5 ?_|refine zt ?_|(refine isR ?_;first|refine zo ?_|refine ak (c1 _) ?_|refine ak (c1) ?_|refine ak (c2 _) ?_|refine ak (c2) ?_|refine ak (c3 _) ?_|refine ak (c3) ?_|refine zX ?_)|refine zr ?_|exact ah)
    all_goals first|rfl|(exfalso;omega)
  ·rw [if_pos h2]
   generalize dD L nx=z at *
   refine lZ af Tryz.func12 rfl Tryz.ntmps12 Tryz.results12 rfl fun N=>?_
   repeat' (first|with_reducible refine aP ?_|with_reducible refine aO 5 ?_|refine zt ?_|(refine isR ?_;first|refine zo ?_|refine ak (c1 _) ?_|refine ak (c1) ?_|refine ak (c2 _) ?_|refine ak (c2) ?_|refine zX ?_)|refine zr ?_|exact ah)
   all_goals first|rfl|(exfalso;omega)
 ·rw [if_pos h1]
  generalize fQ.bA S=z at *
  refine lZ af Tryz.func12 rfl Tryz.ntmps12 Tryz.results12 rfl fun N=>?_
  repeat' (first|with_reducible refine aP ?_|with_reducible refine aO 5 ?_|refine zt ?_|(refine isR ?_;first|refine zo ?_|refine ak (c1 _) ?_|refine ak (c1) ?_|refine zX ?_)|refine zr ?_|exact ah)
  all_goals first|rfl|(exfalso;omega)
end Cy
end Go.Proofs.YtlfdjpgghiemfaaGreatDoor
