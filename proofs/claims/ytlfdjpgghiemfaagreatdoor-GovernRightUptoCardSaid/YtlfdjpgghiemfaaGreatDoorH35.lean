/- Texts of the proof, joined: GovE, SufR, PathW, PathL. -/
import Derived.Test.YtlfdjpgghiemfaaGreatDoorH34
set_option maxHeartbeats 4000000
set_option maxRecDepth 100000
namespace Go.Proofs.YtlfdjpgghiemfaaGreatDoor
namespace Wt
open Go.RowKit Mem Abs eO cu gV dV Rdy Scan fI gF iG iP iQ kY nu oZ uR yh yO Aq RjP Aw Cy EW nA mZ
open lG (gD gu)
variable {f2:From} {q2:Pol} {s2:List UInt8} {f:From} {now:Int} {L:List Rule} {s:List UInt8} {q p:Pol} {k:Int}
abbrev evG (k now:Int) (s:List UInt8) (f:From) (q:Pol):Abs.V:=.agg [.int .i64 k,.int .i64 now,au s,au f.host,au f.path,.bool f.secure,.bool f.script,.bool f.abroad,.fro (q.rules.map Rule.v),.int .i64 q.dflt,.int .i64 (q.caps 0),.int .i64 (q.caps 1),.int .i64 (q.caps 2),.int .i64 (q.caps 3),.int .i64 (q.caps 4),.int .i64 (q.caps 5),.int .i64 (q.caps 6),.int .i64 (q.caps 7),.int .i64 (q.caps 8),.int .i64 (q.caps 9),.int .i64 (q.caps 10)]
theorem Sw:aj Tryz.prog 74 [evG 1 now s f q] (evN 1 now s f):=by
 refine aU af Tryz.func74 rfl Tryz.ntmps74 Tryz.results74 rfl fun N=>?_
 repeat' (first|refine zt ?_|(refine isR ?_;first|refine zo ?_|refine zc5 ?_)|refine zr ?_|exact ah)
 all_goals rfl
theorem Sn:aj Tryz.prog 74 [evG 2 now s f q] (evN 2 now [] f):=by
 refine aU af Tryz.func74 rfl Tryz.ntmps74 Tryz.results74 rfl fun N=>?_
 repeat' (first|refine zt ?_|(refine isR ?_;first|refine zo ?_|refine zc5 ?_)|refine zr ?_|exact ah)
 all_goals rfl
theorem Si:aj Tryz.prog 74 [evG 3 now s f q] (evN 3 now s f0):=by
 refine aU af Tryz.func74 rfl Tryz.ntmps74 Tryz.results74 rfl fun N=>?_
 repeat' (first|refine zt ?_|(refine isR ?_;first|refine zo ?_|refine zc5 ?_)|refine zr ?_|exact ah)
 all_goals rfl
theorem Qn:aj Tryz.prog 74 [evG 4 now s f q] (evG 4 now [] f0 q):=by
 refine aU af Tryz.func74 rfl Tryz.ntmps74 Tryz.results74 rfl fun N=>?_
 repeat' (first|refine zt ?_|(refine isR ?_;first|refine zo ?_|refine zc5 ?_)|refine zr ?_|exact ah)
 all_goals rfl
theorem Rb:aj Tryz.prog 74 [evG 5 now s f q] (evN 5 now [] f0):=by
 refine aU af Tryz.func74 rfl Tryz.ntmps74 Tryz.results74 rfl fun N=>?_
 repeat' (first|refine zt ?_|(refine isR ?_;first|refine zo ?_|refine zc5 ?_)|refine zr ?_|exact ah)
 all_goals rfl
def ekR:Ty:=(nth tb 110).get rfl
instance:DecidableEq Rule:=fun a b=>if h:a.kind=b.kind∧a.text=b.text∧a.purpose=b.purpose∧a.vendor=b.vendor then isTrue (by cases a;cases b;obtain ⟨h1,h2,h3,h4⟩:=h;cases h1;cases h2;cases h3;cases h4;rfl) else isFalse (fun e=>h (by rw [e];exact ⟨rfl,rfl,rfl,rfl⟩))
theorem X5 (a b:Rule):eqK ekR a.v b.v=decide (a=b):=by
 have h:eqK ekR a.v b.v=(eqS (.int .i64 a.kind) (.int .i64 b.kind)&&(eqS (au a.text) (au b.text)&&(eqS (.int .i64 a.purpose) (.int .i64 b.purpose)&&(eqS (.int .i64 a.vendor) (.int .i64 b.vendor)&&true)))):=rfl
 rw [h]
 simp only [jA,Bd,Bool.and_true]
 obtain ⟨a1,a2,a3,a4⟩:=a
 obtain ⟨b1,b2,b3,b4⟩:=b
 rw [Bool.eq_iff_iff,decide_eq_true_iff]
 simp
theorem RI {K:List Rule}:aj Tryz.prog 104 [.fro (L.map Rule.v),.fro (K.map Rule.v)] (.bool (decide (L=K))):=aj.lim fun hlim=>by
 have hl:L.length≤140737488355328:=by have:=hlim.1.1;simpa using this
 have hml:(L.map Rule.v).length=L.length:=List.length_map _
 have hmk:(K.map Rule.v).length=K.length:=List.length_map _
 by_cases h0:L.length=K.length
 ·generalize hR:decide (L=K)=R
  refine aW af Tryz.func104 rfl Tryz.ntmps104 Tryz.results104 rfl fun N=>?_
  repeat' (first|refine zt ?_|(refine isR ?_;first|refine zo ?_|refine zX ?_)|(refine zq ?_ ?_<;>intro hb)|refine zr ?_|exact ah)
  all_goals first|(exfalso;omega)|skip
  refine bE (fun k=>⟨[(0,.fro (L.map Rule.v)),(1,.fro (K.map Rule.v)),(12,nV L.length),(13,nV k)],[],0,26⟩) (fun k=>k≤L.length∧∀ j,j<k→L[j]? = K[j]?) L.length 0 (by exact ah) ⟨Nat.zero_le _,fun j h=>by omega⟩ ?_
  rintro k ⟨hk,hd⟩
  by_cases hk2:k<L.length
  ·have hx:L[k]? = some L[k]:=by simp [hk2]
   have hy:K[k]? = some (K[k]'(by omega)):=by simp [show k<K.length by omega]
   have hno:L[k]≠K[k]'(by omega)→R=false:=fun h=>by
    rw [← hR,decide_eq_false]
    rintro rfl
    exact h rfl
   generalize L[k]=a at *
   generalize K[k]'(by omega)=b at *
   have hm:=bT (f:=Rule.v) hx
   have hm2:=bT (f:=Rule.v) hy
   have he:=X5 a b
   by_cases e:a=b
   ·rw [decide_eq_true e] at he
    repeat' (first|refine zt ?_|(refine isR ?_;first|refine zo ?_|refine zX ?_)|(refine zq ?_ ?_<;>intro hb)|refine zr ?_|exact ah)
    all_goals first|(exfalso;exact absurd ((congrArg not he).symm.trans hb) (by decide))|skip
    refine ⟨⟨by omega,fun j hj=>?_⟩,hk2,(by exact ah)⟩
    by_cases ej:j=k
    ·subst ej;rw [hx,hy,e]
    ·exact hd j (by omega)
   ·rw [decide_eq_false e] at he
    rw [hno e]
    repeat' (first|refine zt ?_|(refine isR ?_;first|refine zo ?_|refine zX ?_)|(refine zq ?_ ?_<;>intro hb)|refine zr ?_|exact ah)
    all_goals first|rfl|(exfalso;exact absurd ((congrArg not he).symm.trans hb) (by decide))
  ·obtain rfl:k=L.length:=by omega
   have:R=true:=by
    rw [← hR,decide_eq_true_iff]
    apply List.ext_getElem?
    intro i
    by_cases hi:i<L.length
    ·exact hd i hi
    ·rw [List.getElem?_eq_none (by omega),List.getElem?_eq_none (by omega)]
   subst this
   repeat' (first|refine zt ?_|(refine isR ?_;first|refine zo ?_|refine zX ?_)|(refine zq ?_ ?_<;>intro hb)|refine zr ?_|exact ah)
   all_goals rfl
 ·have:decide (L=K)=false:=decide_eq_false (fun e=>h0 (by rw [e]))
  rw [this]
  refine aW af Tryz.func104 rfl Tryz.ntmps104 Tryz.results104 rfl fun N=>?_
  repeat' (first|refine zt ?_|(refine isR ?_;first|refine zo ?_|refine zX ?_)|(refine zq ?_ ?_<;>intro hb)|refine zr ?_|exact ah)
  all_goals first|rfl|(exfalso;omega)
abbrev Es (q:Pol):List Abs.V:=[.int .i64 (q.caps 0),.int .i64 (q.caps 1),.int .i64 (q.caps 2),.int .i64 (q.caps 3),.int .i64 (q.caps 4),.int .i64 (q.caps 5),.int .i64 (q.caps 6),.int .i64 (q.caps 7),.int .i64 (q.caps 8),.int .i64 (q.caps 9),.int .i64 (q.caps 10)]
def LB (f g:From):Bool:=eqF f.v.cells g.v.cells ekF.flds
theorem Yn {g:From} (h:LB f g=true):f=g:=by
 have e:LB f g=(eqS (au f.host) (au g.host)&&(eqS (au f.path) (au g.path)&&(eqS (.bool f.secure) (.bool g.secure)&&(eqS (.bool f.script) (.bool g.script)&&(eqS (.bool f.abroad) (.bool g.abroad)&&true))))):=rfl
 rw [e] at h
 simp only [jA,Ei,Bool.and_true,Bool.and_eq_true,beq_iff_eq,decide_eq_true_eq] at h
 obtain ⟨f1,f2,f3,f4,f5⟩:=f
 obtain ⟨g1,g2,g3,g4,g5⟩:=g
 obtain ⟨h1,h2,h3,h4,h5⟩:=h
 cases h1;cases h2;cases h3;cases h4;cases h5;rfl
def TV (q r:Pol):Bool:=eqI (Es q) (Es r) (List.range 11)
theorem abS {r:Pol} (h:TV q r=true):Es q=Es r:=by
 have e:TV q r=(decide (q.caps 0=r.caps 0)&&(decide (q.caps 1=r.caps 1)&&(decide (q.caps 2=r.caps 2)&&(decide (q.caps 3=r.caps 3)&&(decide (q.caps 4=r.caps 4)&&(decide (q.caps 5=r.caps 5)&&(decide (q.caps 6=r.caps 6)&&(decide (q.caps 7=r.caps 7)&&(decide (q.caps 8=r.caps 8)&&(decide (q.caps 9=r.caps 9)&&(decide (q.caps 10=r.caps 10)&&true))))))))))):=rfl
 rw [e] at h
 simp only [Bool.and_true,Bool.and_eq_true,decide_eq_true_eq] at h
 obtain ⟨h0,h1,h2,h3,h4,h5,h6,h7,h8,h9,h10⟩:=h
 rw [Es,Es,h0,h1,h2,h3,h4,h5,h6,h7,h8,h9,h10]
def Qw (s s2:List UInt8) (f f2:From) (q q2:Pol):Bool:=decide (s=s2)&&(LB f f2&&(decide (q.dflt=q2.dflt)&&(TV q q2&&decide (q.rules=q2.rules))))
theorem Yt:aj Tryz.prog 73 [evG k now s f q,evG k now s2 f2 q2] (.bool (Qw s s2 f f2 q q2)):=by
 have c1:=RI (L:=q.rules) (K:=q2.rules)
 unfold Qw
 by_cases h1:s=s2
 ·rw [decide_eq_true h1]
  have hq:eqF f.v.cells f2.v.cells ekF.flds=LB f f2:=rfl
  generalize LB f f2=b2 at *
  cases b2 with
  | true =>
   by_cases h3:q.dflt=q2.dflt
   ·rw [decide_eq_true h3]
    have hc:eqI (Es q) (Es q2) (List.range 11)=TV q q2:=rfl
    generalize TV q q2=b4 at *
    cases b4 with
    | true =>
     refine aW af Tryz.func73 rfl Tryz.ntmps73 Tryz.results73 rfl fun N=>?_
     repeat' (first|refine zt ?_|(refine isR ?_;first|refine zo ?_|refine vU af ?_|refine zk c1 ?_|refine zc5 ?_)|refine zr ?_|exact ah)
     all_goals first|rfl|(exfalso;omega)
    | false =>
     refine aW af Tryz.func73 rfl Tryz.ntmps73 Tryz.results73 rfl fun N=>?_
     repeat' (first|refine zt ?_|(refine isR ?_;first|refine zo ?_|refine vU af ?_|refine zk c1 ?_|refine zc5 ?_)|refine zr ?_|exact ah)
     all_goals first|rfl|(exfalso;omega)
   ·rw [decide_eq_false h3]
    refine aW af Tryz.func73 rfl Tryz.ntmps73 Tryz.results73 rfl fun N=>?_
    repeat' (first|refine zt ?_|(refine isR ?_;first|refine zo ?_|refine vU af ?_|refine zk c1 ?_|refine zc5 ?_)|refine zr ?_|exact ah)
    all_goals first|rfl|(exfalso;omega)
  | false =>
   refine aW af Tryz.func73 rfl Tryz.ntmps73 Tryz.results73 rfl fun N=>?_
   repeat' (first|refine zt ?_|(refine isR ?_;first|refine zo ?_|refine vU af ?_|refine zk c1 ?_|refine zc5 ?_)|refine zr ?_|exact ah)
   all_goals first|rfl|(exfalso;omega)
 ·rw [decide_eq_false h1]
  refine aW af Tryz.func73 rfl Tryz.ntmps73 Tryz.results73 rfl fun N=>?_
  repeat' (first|refine zt ?_|(refine isR ?_;first|refine zo ?_|refine vU af ?_|refine zk c1 ?_|refine zc5 ?_)|refine zr ?_|exact ah)
  all_goals first|rfl|(exfalso;omega)
theorem Yp {r:Rule}:aj Tryz.prog 76 [r.v,.fp [.fn (.func 72) [] []] 0] (.bool (decide (400<r.text.length))):=by
 have c1:=vF (s:=r.text)
 refine aW af Tryz.func76 rfl Tryz.ntmps76 Tryz.results76 rfl fun N=>?_
 repeat' (first|refine zt ?_|(refine isR ?_;first|refine zo ?_|refine ak (c1 _) ?_|refine ak (c1) ?_)|refine zr ?_|exact ah)
 all_goals rfl
theorem Z4 (hb:L.length≤1000):aj Tryz.prog 105 [.fro (L.map Rule.v),fnL] (.int .i64 (Ew (L.findIdx? fun r=>decide (400<r.text.length)))):=by
 have hml:(L.map Rule.v).length=L.length:=List.length_map _
 generalize hR:Ew (L.findIdx? fun r=>decide (400<r.text.length))=R
 refine aW af Tryz.func105 rfl Tryz.ntmps105 Tryz.results105 rfl fun N=>?_
 repeat' (first|refine zt ?_|(refine isR ?_;first|refine zo ?_|refine zX ?_)|refine zr ?_|exact ah)
 refine bE (fun k=>⟨[(0,.fro (L.map Rule.v)),(1,fnL),(7,nV L.length),(8,nV k)],[],0,19⟩) (fun k=>k≤L.length∧∀ j x,j<k→L[j]? = some x→¬ 400<x.text.length) L.length 0 (by exact ah) ⟨Nat.zero_le _,fun j x h=>by omega⟩ ?_
 rintro k ⟨hk,hd⟩
 by_cases hk2:k<L.length
 ·have hx:L[k]? = some L[k]:=by simp [hk2]
  have hfi:400<L[k].text.length→L.findIdx? (fun r=>decide (400<r.text.length))=some k:=fun h=>by
   rw [List.findIdx?_eq_some_iff_getElem]
   exact ⟨hk2,decide_eq_true h,fun j hj hp=>hd j _ hj (by simp [show j<L.length by omega]) (of_decide_eq_true hp)⟩
  have c1:=Yp (r:=L[k])
  generalize L[k]=a at *
  have hm:=bT (f:=Rule.v) hx
  by_cases hl:400<a.text.length
  ·rw [decide_eq_true hl] at c1
   rw [hfi hl] at hR
   subst hR
   repeat' (first|refine zt ?_|(refine isR ?_;first|refine zo ?_|refine ak (c1 _) ?_|refine ak (c1) ?_|refine zX ?_)|refine zr ?_|exact ah)
   all_goals first|rfl|(exfalso;omega)
  ·rw [decide_eq_false hl] at c1
   repeat' (first|refine zt ?_|(refine isR ?_;first|refine zo ?_|refine ak (c1 _) ?_|refine ak (c1) ?_|refine zX ?_)|refine zr ?_|exact ah)
   all_goals first|(exfalso;omega)|skip
   refine ⟨⟨by omega,fun j x hj hxj=>?_⟩,hk2,(by exact ah)⟩
   by_cases ej:j=k
   ·subst ej;rw [hx] at hxj;cases hxj;exact hl
   ·exact hd j x (by omega) hxj
 ·obtain rfl:k=L.length:=by omega
  have:L.findIdx? (fun r=>decide (400<r.text.length))=none:=by
   rw [List.findIdx?_eq_none_iff]
   intro x hx
   obtain ⟨j,hj⟩:=List.mem_iff_getElem?.1 hx
   exact decide_eq_false (hd j x (List.getElem?_eq_some_iff.1 hj).1 hj)
  rw [this] at hR
  subst hR
  repeat' (first|refine zt ?_|(refine isR ?_;first|refine zo ?_|refine zX ?_)|refine zr ?_|exact ah)
  all_goals first|rfl|(exfalso;omega)
theorem Ya (hb:L.length≤1000):∃ b,aj Tryz.prog 75 [.fro (L.map Rule.v),fnL] (.bool b):=by
 have c1:=Z4 hb
 generalize Ew (L.findIdx? fun r=>decide (400<r.text.length))=n at *
 by_cases hn:0≤n
 ·refine ⟨true,?_⟩
  refine aW af Tryz.func75 rfl Tryz.ntmps75 Tryz.results75 rfl fun N=>?_
  repeat' (first|refine zt ?_|(refine isR ?_;first|refine zo ?_|refine zk c1 ?_|refine zc4 ?_)|refine zr ?_|exact ah)
  all_goals first|rfl|(exfalso;omega)
 ·refine ⟨false,?_⟩
  refine aW af Tryz.func75 rfl Tryz.ntmps75 Tryz.results75 rfl fun N=>?_
  repeat' (first|refine zt ?_|(refine isR ?_;first|refine zo ?_|refine zk c1 ?_|refine zc4 ?_)|refine zr ?_|exact ah)
  all_goals first|rfl|(exfalso;omega)
theorem wC (cn:aj Tryz.prog 74 [evG k now s f q] (evG k now s2 f2 q2)) (h1:1≤k) (h2:k≤5):∃ c:Int,aj Tryz.prog 43 [evG k now s f q] (.int .i64 c)∧(c=0→Qw s s2 f f2 q q2=true):=by
 have cs:=Yt (k:=k) (now:=now) (s:=s) (s2:=s2) (f:=f) (f2:=f2) (q:=q) (q2:=q2)
 generalize Qw s s2 f f2 q q2=b at *
 have hml:(q.rules.map Rule.v).length=q.rules.length:=List.length_map _
 have l1:=vF (s:=s)
 have l2:=vF (s:=f.host)
 have l3:=vF (s:=f.path)
 cases b with
 | false =>
  refine ⟨1,?_,fun h=>by cases h⟩
  refine aU af Tryz.func43 rfl Tryz.ntmps43 Tryz.results43 rfl fun N=>?_
  repeat' (first|refine zt ?_|(refine isR ?_;first|refine zo ?_|refine zk cn ?_|refine zk cs ?_|refine zX ?_)|refine zr ?_|exact ah)
  all_goals first|rfl|(exfalso;omega)
 | true =>
  by_cases e1:400<s.length
  ·refine ⟨2,?_,fun h=>by cases h⟩
   rw [decide_eq_true e1] at l1
   refine aU af Tryz.func43 rfl Tryz.ntmps43 Tryz.results43 rfl fun N=>?_
   repeat' (first|refine zt ?_|(refine isR ?_;first|refine zo ?_|refine zk cn ?_|refine zk cs ?_|refine ak (l1 _) ?_|refine ak (l1) ?_|refine zX ?_)|refine zr ?_|exact ah)
   all_goals first|rfl|(exfalso;omega)
  rw [decide_eq_false e1] at l1
  by_cases e2:400<f.host.length
  ·refine ⟨2,?_,fun h=>by cases h⟩
   rw [decide_eq_true e2] at l2
   refine aU af Tryz.func43 rfl Tryz.ntmps43 Tryz.results43 rfl fun N=>?_
   repeat' (first|refine zt ?_|(refine isR ?_;first|refine zo ?_|refine zk cn ?_|refine zk cs ?_|refine ak (l1 _) ?_|refine ak (l1) ?_|refine ak (l2 _) ?_|refine ak (l2) ?_|refine zX ?_)|refine zr ?_|exact ah)
   all_goals first|rfl|(exfalso;omega)
  rw [decide_eq_false e2] at l2
  by_cases e3:400<f.path.length
  ·refine ⟨2,?_,fun h=>by cases h⟩
   rw [decide_eq_true e3] at l3
   refine aU af Tryz.func43 rfl Tryz.ntmps43 Tryz.results43 rfl fun N=>?_
   repeat' (first|refine zt ?_|(refine isR ?_;first|refine zo ?_|refine zk cn ?_|refine zk cs ?_|refine ak (l1 _) ?_|refine ak (l1) ?_|refine ak (l2 _) ?_|refine ak (l2) ?_|refine ak (l3 _) ?_|refine ak (l3) ?_|refine zX ?_)|refine zr ?_|exact ah)
   all_goals first|rfl|(exfalso;omega)
  rw [decide_eq_false e3] at l3
  by_cases e4:12<q.rules.length
  ·refine ⟨2,?_,fun h=>by cases h⟩
   refine aU af Tryz.func43 rfl Tryz.ntmps43 Tryz.results43 rfl fun N=>?_
   repeat' (first|refine zt ?_|(refine isR ?_;first|refine zo ?_|refine zk cn ?_|refine zk cs ?_|refine ak (l1 _) ?_|refine ak (l1) ?_|refine ak (l2 _) ?_|refine ak (l2) ?_|refine ak (l3 _) ?_|refine ak (l3) ?_|refine zX ?_)|refine zr ?_|exact ah)
   all_goals first|rfl|(exfalso;omega)
  obtain ⟨b5,c5⟩:=Ya (L:=q.rules) (by omega)
  cases b5 with
  | true =>
   refine ⟨2,?_,fun h=>by cases h⟩
   refine aU af Tryz.func43 rfl Tryz.ntmps43 Tryz.results43 rfl fun N=>?_
   repeat' (first|refine zt ?_|(refine isR ?_;first|refine zo ?_|refine zk cn ?_|refine zk cs ?_|refine ak (l1 _) ?_|refine ak (l1) ?_|refine ak (l2 _) ?_|refine ak (l2) ?_|refine ak (l3 _) ?_|refine ak (l3) ?_|refine uj [0] (c5 _) ?_|refine uj [0] (c5) ?_|refine zX ?_)|refine zr ?_|exact ah)
   all_goals first|rfl|(exfalso;omega)
  | false =>
   refine ⟨0,?_,fun _=>rfl⟩
   refine aU af Tryz.func43 rfl Tryz.ntmps43 Tryz.results43 rfl fun N=>?_
   repeat' (first|refine zt ?_|(refine isR ?_;first|refine zo ?_|refine zk cn ?_|refine zk cs ?_|refine ak (l1 _) ?_|refine ak (l1) ?_|refine ak (l2 _) ?_|refine ak (l2) ?_|refine ak (l3 _) ?_|refine ak (l3) ?_|refine uj [0] (c5 _) ?_|refine uj [0] (c5) ?_|refine zX ?_)|refine zr ?_|exact ah)
   all_goals first|rfl|(exfalso;omega)
abbrev p0:Pol:=⟨[],0,fun _=>0⟩
theorem CV (h:Qw s s2 f f2 q q2=true):evG k now s f q=evG k now s2 f2 q2:=by
 unfold Qw at h
 simp only [Bool.and_eq_true,decide_eq_true_eq] at h
 obtain ⟨rfl,h2,h3,h4,h5⟩:=h
 obtain rfl:=Yn h2
 have h6:=abS h4
 simp only [Es,List.cons.injEq,Abs.V.int.injEq,true_and,and_true] at h6
 obtain ⟨g0,g1,g2,g3,g4,g5,g6,g7,g8,g9,g10⟩:=h6
 rw [evG,evG,h3,h5,g0,g1,g2,g3,g4,g5,g6,g7,g8,g9,g10]
inductive Named:Abs.V→Int→Int→Prop where
 | set (now:Int) (s:List UInt8) (f:From):Named (evV 1 now s f) 1 now
 | ask (now:Int) (f:From):Named (evV 2 now [] f) 2 now
 | give (now:Int) (s:List UInt8) (h:s.length≤1048576):Named (evV 3 now s f0) 3 now
 | rule (now:Int) (q:Pol):Named (evG 4 now [] f0 q) 4 now
 | tick (now:Int):Named (evV 5 now [] f0) 5 now
theorem NR (hs:s.length≤1048576):∃ c:Int,aj Tryz.prog 43 [evG k now s f q] (.int .i64 c)∧(c=0→Named (evG k now s f q) k now):=by
 by_cases h1:1≤k
 ·by_cases h2:k≤5
  ·have hk:k=1∨k=2∨k=3∨k=4∨k=5:=by omega
   rcases hk with rfl|rfl|rfl|rfl|rfl
   ·obtain ⟨c,hc,h⟩:=wC (s2:=s) (f2:=f) (q2:=p0) (Sw.nfd rfl) h1 h2
    exact ⟨c,hc,fun e=>CV (h e) ▸ Named.set now s f⟩
   ·obtain ⟨c,hc,h⟩:=wC (s2:=[]) (f2:=f) (q2:=p0) (Sn.nfd rfl) h1 h2
    exact ⟨c,hc,fun e=>CV (h e) ▸ Named.ask now f⟩
   ·obtain ⟨c,hc,h⟩:=wC (s2:=s) (f2:=f0) (q2:=p0) (Si.nfd rfl) h1 h2
    exact ⟨c,hc,fun e=>CV (h e) ▸ Named.give now s hs⟩
   ·obtain ⟨c,hc,h⟩:=wC Qn h1 h2
    exact ⟨c,hc,fun e=>CV (h e) ▸ Named.rule now q⟩
   ·obtain ⟨c,hc,h⟩:=wC (s2:=[]) (f2:=f0) (q2:=p0) (Rb.nfd rfl) h1 h2
    exact ⟨c,hc,fun e=>CV (h e) ▸ Named.tick now⟩
  ·refine ⟨7,?_,fun h=>by cases h⟩
   refine aU af Tryz.func43 rfl Tryz.ntmps43 Tryz.results43 rfl fun N=>?_
   repeat' (first|refine zt ?_|(refine isR ?_;first|refine zo ?_|refine zX ?_)|refine zr ?_|exact ah)
   all_goals first|rfl|(exfalso;omega)
 ·refine ⟨7,?_,fun h=>by cases h⟩
  refine aU af Tryz.func43 rfl Tryz.ntmps43 Tryz.results43 rfl fun N=>?_
  repeat' (first|refine zt ?_|(refine isR ?_;first|refine zo ?_|refine zX ?_)|refine zr ?_|exact ah)
  all_goals first|rfl|(exfalso;omega)
def ekS:Ty:=(nth tb 108).get rfl
theorem D7 (x:aG):(!eqF x.v.cells x.v.cells ekS.flds)=false:=by
 have h:eqF x.v.cells x.v.cells ekS.flds=(eqS (.int .i64 x.kind) (.int .i64 x.kind)&&(eqS (au x.name) (au x.name)&&true)):=rfl
 rw [h]
 simp [jA,Bd]
theorem TB (x:Rule):(!eqF x.v.cells x.v.cells ekR.flds)=false:=by
 have h:eqF x.v.cells x.v.cells ekR.flds=(eqS (.int .i64 x.kind) (.int .i64 x.kind)&&(eqS (au x.text) (au x.text)&&(eqS (.int .i64 x.purpose) (.int .i64 x.purpose)&&(eqS (.int .i64 x.vendor) (.int .i64 x.vendor)&&true)))):=rfl
 rw [h]
 simp [jA,Bd]
theorem YR {L:List aG}:aj Tryz.prog 20 [.fro (L.map aG.v),.fro (L.map aG.v)] (.bool true):=aj.lim fun hlim=>by
 have hl:L.length≤140737488355328:=by have:=hlim.1.1;simpa using this
 have hml:(L.map aG.v).length=L.length:=List.length_map _
 refine aW af Tryz.func20 rfl Tryz.ntmps20 Tryz.results20 rfl fun N=>?_
 repeat' (first|refine zt ?_|(refine isR ?_;first|refine zo ?_|refine zX ?_)|refine zr ?_|exact ah)
 all_goals first|(exfalso;omega)|skip
 refine bE (fun k=>⟨[(0,.fro (L.map aG.v)),(1,.fro (L.map aG.v)),(5,nV k)],[],0,26⟩) (fun k=>k≤L.length) L.length 0 (by exact ah) (Nat.zero_le _) ?_
 intro k hk
 by_cases hk2:k<L.length
 ·have hx:L[k]? = some L[k]:=by simp [hk2]
  generalize L[k]=a at *
  have hm:=bT (f:=aG.v) hx
  have he:=D7 a
  repeat' (first|refine zt ?_|(refine isR ?_;first|refine zo ?_|refine zX ?_)|refine zr ?_|exact ah)
  all_goals first|(exfalso;simp_all;done)|skip
  exact ⟨by omega,hk2,(by exact ah)⟩
 ·obtain rfl:k=L.length:=by omega
  repeat' (first|refine zt ?_|(refine isR ?_;first|refine zo ?_|refine zX ?_)|refine zr ?_|exact ah)
  all_goals rfl
theorem Yc:aj Tryz.prog 22 [iZ p,iZ p] (.bool true):=aj.lim fun hlim=>by
 have hl:p.rules.length≤140737488355328:=by have:=hlim.1.1.1;simpa using this
 have hml:(p.rules.map Rule.v).length=p.rules.length:=List.length_map _
 have hc:(!eqI (Es p) (Es p) (List.range 11))=false:=by
  show (!(decide (p.caps 0=p.caps 0)&&(decide (p.caps 1=p.caps 1)&&(decide (p.caps 2=p.caps 2)&&(decide (p.caps 3=p.caps 3)&&(decide (p.caps 4=p.caps 4)&&(decide (p.caps 5=p.caps 5)&&(decide (p.caps 6=p.caps 6)&&(decide (p.caps 7=p.caps 7)&&(decide (p.caps 8=p.caps 8)&&(decide (p.caps 9=p.caps 9)&&(decide (p.caps 10=p.caps 10)&&true))))))))))))=false
  simp
 refine aW af Tryz.func22 rfl Tryz.ntmps22 Tryz.results22 rfl fun N=>?_
 repeat' (first|refine zt ?_|(refine isR ?_;first|refine zo ?_|refine zK af ?_|refine zX ?_)|refine zr ?_|exact ah)
 all_goals first|(exfalso;omega)|skip
 refine bE (fun k=>⟨[(2,.fp (V.cells (iZ p)) 0),(3,.fp (V.cells (iZ p)) 0),(5,nV k)],[],0,45⟩) (fun k=>k≤p.rules.length) p.rules.length 0 (by exact ah) (Nat.zero_le _) ?_
 intro k hk
 by_cases hk2:k<p.rules.length
 ·have hx:p.rules[k]? = some p.rules[k]:=by simp [hk2]
  generalize p.rules[k]=a at *
  have hm:=bT (f:=Rule.v) hx
  have he:=TB a
  repeat' (first|refine zt ?_|(refine isR ?_;first|refine zo ?_|refine zX ?_)|refine zr ?_|exact ah)
  all_goals first|(exfalso;simp_all;done)|skip
  exact ⟨by omega,hk2,(by exact ah)⟩
 ·obtain rfl:k=p.rules.length:=by omega
  repeat' (first|refine zt ?_|(refine isR ?_;first|refine zo ?_|refine zX ?_)|refine zr ?_|exact ah)
  all_goals rfl
theorem TF {S:List aG} {L:List ai} {nx:Int} {g:Int} {P:Nat→Bool} {U:List Int} {t:Int}:aj Tryz.prog 8 [stV S L nx p g P U t,stV S L nx p g P U t] (.bool true):=by
 have c1:=YR (L:=S)
 have c2:=Sz.N8 (L:=L) (nx:=nx)
 have c3:=Yc (p:=p)
 have c4:=lG.abo (g:=g) (P:=P) (L:=U)
 refine aW af Tryz.func8 rfl Tryz.ntmps8 Tryz.results8 rfl fun N=>?_
 repeat' (first|refine zt ?_|(refine isR ?_;first|refine zo ?_|refine zk c1 ?_|refine zk c2 ?_|refine zk c3 ?_|refine zk c4 ?_|refine zc5 ?_)|refine zr ?_|exact ah)
 all_goals first|rfl|(exfalso;omega)
end Wt
namespace aaU
open Go.RowKit Mem Abs cu iR jh rA gV xh Lm PI VL bH bX dn eO fQ Ay
variable {d h:List UInt8} {L:List aG} {xs:List (List UInt8)} {k:Nat}
theorem zip_fst (L:List aG):L.zipIdx.map (·.1)=L:=List.zipIdx_map_fst 0 L
theorem Vy {kd:Int}:aK Tryz.prog 232 [.mp 0,.int .i64 kd,au d] [.map (L.zipIdx.map mk)] (.bool (rIn L kd d)) [some (.map (L.zipIdx.map mk))]:=by
 have h:=adH (M:=L.zipIdx) (a:=⟨kd,d⟩)
 rw [zip_fst] at h
 exact h
theorem Nk {r:aG} (h:L[k]? = some r):(L.take (k+1)).zipIdx=(L.take k).zipIdx++[(r,k)]:=by
 obtain ⟨hk,rfl⟩:=List.getElem?_eq_some_iff.1 h
 rw [List.take_succ_eq_append_getElem hk,List.zipIdx_append]
 simp [Nat.min_eq_left (Nat.le_of_lt hk)]
def DV (h:List UInt8) (xs:List (List UInt8)):List UInt8:=(xs.getLast?).getD h
theorem ZE (e:xs[k]? = some d):DV h (xs.take (k+1))=d:=by
 obtain ⟨hk,rfl⟩:=List.getElem?_eq_some_iff.1 e
 unfold DV
 rw [List.take_succ_eq_append_getElem hk,List.getLast?_concat]
 rfl
def EQ (L:List aG) (xs:List (List UInt8)):List UInt8:=(xs.find? (bIn L)).getD []
theorem aaO (e:xs[k]? = some d) (hne:∀ x∈xs,x≠[]):EQ L (xs.take (k+1))=if EQ L (xs.take k)≠[] then EQ L (xs.take k) else if bIn L d then d else []:=by
 unfold EQ
 rw [Zp e]
 cases hf:(xs.take k).find? (bIn L) with
 | none =>
  simp only [Option.none_or,Option.getD_none,ne_eq,not_true_eq_false,if_false]
  cases bIn L d<;>rfl
 | some x =>
  have:x≠[]:=hne x (List.mem_of_mem_take (List.mem_of_find?_eq_some hf))
  simp [this]
theorem Wi (ha:address h=false) (hne:∀ x∈ch h,x≠[]) (hq:∀ (j:Nat) c,(ch h)[j]? = some c→rIn L 3 c=false):xG L h=if EQ L (ch h)=[] then DV h (ch h) else EQ L (ch h):=by
 unfold xG
 rw [ha,ZW.2 hq]
 unfold EQ DV
 simp only [Bool.false_eq_true,if_false]
 cases hf:(ch h).find? (bIn L) with
 | none=>simp
 | some x =>
  have:x≠[]:=hne x (List.mem_of_find?_eq_some hf)
  simp [this]
theorem XT (ha:address h=false) (hd:(ch h)[k]? = some d) (hr:rIn L 3 d=true) (hq:∀ (j:Nat) c,j<k→(ch h)[j]? = some c→rIn L 3 c=false):xG L h=up d:=by
 unfold xG
 rw [ha,KV.2 ⟨k,hd,hr,hq⟩]
 rfl
theorem abk (h:List UInt8):(ch h).length≤h.length+1:=by
 have:=FO h
 unfold ch;simp;omega
theorem Gr (hL:aad L) (hh:Hst h):av Tryz.prog bI 178 [vR L,au h] (au (xG L h)):=av.lim fun hl=>by
 have hlim:=(PX hl).1
 have hlen:=hh.len
 have c1:=tZ (l:=h) (by omega)
 have hx:((L.map aG.v).length:Int)=(L.length:Int):=by simp
 cases ha:address h with
 | true =>
  have e:xG L h=[]:=by unfold xG;rw [ha];rfl
  rw [e]
  rw [ha] at c1
  refine gQ af Tryz.func178 rfl Tryz.ntmps178 Tryz.results178 rfl fun N=>?_
  repeat' (first|refine zt ?_|(refine isR ?_;first|refine zo ?_|refine zk c1 ?_|refine zX ?_)|refine zr ?_|exact ah)
  rfl
 | false =>
  rw [ha] at c1
  have c2:=adn (l:=h) (by omega)
  rw [abO hh.ne ha] at c2
  have hne:∀ x∈ch h,x≠[]:=fun x hx=>(hh.mem hx).ne
  have hcl:=abk h
  have hp1:=Wi (L:=L) ha hne
  have hp2:∀ k d,_→_→_→_:=fun k d=>XT (L:=L) (h:=h) (d:=d) (k:=k) ha
  generalize xG L h=p at *
  generalize ch h=xs at *
  have hxs:((xs.map au).length:Int)=(xs.length:Int):=by simp
  refine gQ af Tryz.func178 rfl Tryz.ntmps178 Tryz.results178 rfl fun N=>?_
  repeat' (first|refine zt ?_|(refine isR ?_;first|refine zo ?_|refine zk c1 ?_|refine zM ?_|refine zX ?_)|refine zr ?_|exact ah)
  refine bE (fun k=>⟨[(0,vR L),(1,au h),(5,.mp 0),(15,vR L),(16,.int .i64 (L.map aG.v).length),(17,.int .i64 (k:Int))],[(0,some (.map ((L.take k).zipIdx.map mk)))],1,63⟩) (fun k=>k≤L.length) L.length 0 (by exact ah) (Nat.zero_le _) ?_
  intro k hk
  by_cases hk2:k<L.length
  ·have e1:(L.map aG.v)[k]? = some (L[k]).v:=by simp [hk2]
   have e2:L[k]? = some L[k]:=by simp [hk2]
   generalize L[k]=r at e1 e2
   have hnew:dI ekS r.v ((L.take k).zipIdx.map mk) 0=none:=by
    rcases K9 r (L.take k).zipIdx with ⟨_,h⟩|⟨h,_⟩
    ·exact h
    ·rw [zip_fst] at h
     exact absurd h (hL.once k r e2)
   have ez:=Nk e2
   repeat' (first|refine zt ?_|(refine isR ?_;first|refine zo ?_|refine wZ mk (r,k) af ?_|refine zM ?_|refine zX ?_)|refine zr ?_|exact ah)
   rw [ez]
   exact ⟨by omega,hk2,(by exact ah)⟩
  ·have ek:L.take k=L:=List.take_of_length_le (by omega)
   rw [ek]
   repeat' (first|refine zt ?_|(refine isR ?_;first|refine zo ?_|refine zk c2 ?_|refine zX ?_)|refine zr ?_|exact ah)
   refine bE (fun k=>⟨[(0,vR L),(1,au h),(5,.mp 0),(8,au (EQ L (xs.take k))),(9,au (DV h (xs.take k))),(28,qM xs),(29,.int .i64 (xs.map au).length),(30,.int .i64 (k:Int))],[(0,some (.map (L.zipIdx.map mk)))],1,63⟩) (fun k=>k≤xs.length∧lK (fun d => !rIn L 3 d) xs k) xs.length 0 (by exact ah) ⟨Nat.zero_le _,vo⟩ ?_
   intro k ⟨hk,hq⟩
   by_cases hk2:k<xs.length
   ·have e1:(xs.map au)[k]? = some (au xs[k]):=by simp [hk2]
    have e2:xs[k]? = some xs[k]:=by simp [hk2]
    generalize xs[k]=d at e1 e2
    have c3:=Vy (L:=L) (kd:=3) (d:=d)
    have c4:=Vy (L:=L) (kd:=1) (d:=d)
    have c5:=Vy (L:=L) (kd:=2) (d:=up d)
    have c6:=OX (l:=d)
    cases h3:rIn L 3 d with
    | true =>
     rw [h3] at c3
     repeat' (first|refine zt ?_|(refine isR ?_;first|refine zo ?_|refine x_m [0] [] (c3 _) ?_|refine x_m [0] [] (c3) ?_|refine zk c6 ?_|refine zX ?_)|refine zr ?_|exact ah)
     rw [hp2 k d e2 h3 fun j c hj hc=>by have:=hq j c hj hc;simpa using this]
     rfl
    | false =>
     rw [h3] at c3
     have hb:=aaO (L:=L) e2 hne
     have hla:=ZE (h:=h) e2
     have hB:bIn L d=(rIn L 1 d||rIn L 2 (up d)):=rfl
     have hq2:=hq.on e2 (by rw [h3];rfl)
     generalize EQ L (xs.take k)=b at *
     generalize DV h (xs.take k)=la at *
     by_cases hb0:b=[]
     ·subst hb0
      simp only [ne_eq,not_true_eq_false,if_false] at hb
      cases h1:rIn L 1 d with
      | true =>
       rw [h1] at c4 hB
       rw [hB,Bool.true_or,if_pos rfl] at hb
       repeat' (first|refine zt ?_|(refine isR ?_;first|refine zo ?_|refine x_m [0] [] (c3 _) ?_|refine x_m [0] [] (c3) ?_|refine x_m [0] [] (c4 _) ?_|refine x_m [0] [] (c4) ?_|refine zk c6 ?_|refine zX ?_)|refine zr ?_|exact ah)
       rw [hb,hla]
       exact ⟨⟨by omega,hq2⟩,hk2,(by exact ah)⟩
      | false =>
       rw [h1] at c4 hB
       rw [Bool.false_or] at hB
       by_cases hu:up d=[]
       ·have h2:rIn L 2 (up d)=false:=by
         unfold rIn
         rw [decide_eq_false_iff_not,hu]
         intro hmem
         exact ((abW (hL.ok _ hmem)).2.2.1.ne) rfl
        rw [hB,h2] at hb
        rw [hu] at c6
        repeat' (first|refine zt ?_|(refine isR ?_;first|refine zo ?_|refine x_m [0] [] (c3 _) ?_|refine x_m [0] [] (c3) ?_|refine x_m [0] [] (c4 _) ?_|refine x_m [0] [] (c4) ?_|refine zk c6 ?_|refine zX ?_)|refine zr ?_|exact ah)
        rw [hb,hla]
        exact ⟨⟨by omega,hq2⟩,hk2,(by exact ah)⟩
       ·cases h2:rIn L 2 (up d) with
        | true =>
         rw [h2] at c5
         rw [hB,h2,if_pos rfl] at hb
         repeat' (first|refine zt ?_|(refine isR ?_;first|refine zo ?_|refine x_m [0] [] (c3 _) ?_|refine x_m [0] [] (c3) ?_|refine x_m [0] [] (c4 _) ?_|refine x_m [0] [] (c4) ?_|refine x_m [0] [] (c5 _) ?_|refine x_m [0] [] (c5) ?_|refine zk c6 ?_|refine zX ?_)|refine zr ?_|exact ah)
         rw [hb,hla]
         exact ⟨⟨by omega,hq2⟩,hk2,(by exact ah)⟩
        | false =>
         rw [h2] at c5
         rw [hB,h2] at hb
         repeat' (first|refine zt ?_|(refine isR ?_;first|refine zo ?_|refine x_m [0] [] (c3 _) ?_|refine x_m [0] [] (c3) ?_|refine x_m [0] [] (c4 _) ?_|refine x_m [0] [] (c4) ?_|refine x_m [0] [] (c5 _) ?_|refine x_m [0] [] (c5) ?_|refine zk c6 ?_|refine zX ?_)|refine zr ?_|exact ah)
         rw [hb,hla]
         exact ⟨⟨by omega,hq2⟩,hk2,(by exact ah)⟩
     ·rw [if_pos hb0] at hb
      repeat' (first|refine zt ?_|(refine isR ?_;first|refine zo ?_|refine x_m [0] [] (c3 _) ?_|refine x_m [0] [] (c3) ?_|refine zX ?_)|refine zr ?_|exact ah)
      rw [hb,hla]
      exact ⟨⟨by omega,hq2⟩,hk2,(by exact ah)⟩
   ·have ek:xs.take k=xs:=List.take_of_length_le (by omega)
    rw [ek]
    have hp1:=hp1 fun j c hc=>by
     have:=hq j c (by have:=(List.getElem?_eq_some_iff.1 hc).1;omega) hc
     simpa using this
    generalize EQ L xs=b at *
    generalize DV h xs=la at *
    by_cases hb0:b=[]
    ·rw [if_pos hb0] at hp1
     repeat' (first|refine zt ?_|(refine isR ?_;first|refine zo ?_|refine zX ?_)|refine zr ?_|exact ah)
     rw [hp1];rfl
    ·rw [if_neg hb0] at hp1
     repeat' (first|refine zt ?_|(refine isR ?_;first|refine zo ?_|refine zX ?_)|refine zr ?_|exact ah)
     rw [hp1];rfl
end aaU
namespace tC
open Go.RowKit
variable {b:List UInt8}
theorem PL {a:List UInt8} (h:a=b):Ending.returned (.string ⟨a.toArray⟩) = .returned (.string ⟨b.toArray⟩):=by rw [h]
theorem U3 {a:ByteArray} (h:a.data.toList=b):Ending.returned (.string a) = .returned (.string ⟨b.toArray⟩):=by subst h;rfl
theorem CQ (s:ByteArray) (w:World) (hs:s.size≤9223372036854775807) :
  Calls Tryz.prog 174 #[.string s,.int .u8 47] w fun e w'=>e = .returned (.int .i64 (Lib.Pa.lastIndexByte s.data.toList 47))∧w'=w:=by
 go_enter Tryz.func174,Tryz.ntmps174
 go_wp2_with fail
 refine (Tryz.bytealg_LastIndexByteString s 47 _ hs).mono ?_
 rintro e w' ⟨rfl,rfl⟩
 go_wp2
 go_ret
 exact ⟨rfl,rfl⟩
def dflt (l:List UInt8):List UInt8:=if Lib.Pa.lastIndexByte l 47≤0∨l.head? ≠ some 47 then [47] else l.take (Lib.Pa.lastIndexByte l 47).toNat
theorem head_eq (s:ByteArray) (h:0<s.size):s.data.toList.head? = some (s[0]'h):=by
 rw [List.head?_eq_getElem?];exact Lib.Pa.at_eq s 0 h
theorem zN (s:ByteArray) (w:World) (hs:s.size≤9223372036854775807) :
  Calls Tryz.prog 133 #[.string s] w fun e w'=>e = .returned (.string ⟨(dflt s.data.toList).toArray⟩)∧w'=w:=by
 have hb:=Lib.Pa.lastIndexByte_bounds s.data.toList 47
 rw [← Lib.size_eq] at hb
 by_cases h:Lib.Pa.lastIndexByte s.data.toList 47≤0
 ·have hd:dflt s.data.toList=[47]:=if_pos (.inl h)
  have H:=Lib.hid hd;clear hd
  go_enter Tryz.func133,Tryz.ntmps133
  go_wp2_with (go_at_call 174;refine (CQ _ _ hs).mono ?_;rintro e w' ⟨rfl,rfl⟩)
  go_ret
  exact ⟨PL H.out.symm,rfl⟩
 ·have h0:0<s.size:=by omega
  by_cases h1:s[0]=47
  ·have hd:dflt s.data.toList=s.data.toList.take (Lib.Pa.lastIndexByte s.data.toList 47).toNat:=if_neg (by rw [head_eq s h0,h1];simp;omega)
   have H:=Lib.hid hd;clear hd
   have H1:=Lib.hid h1;clear h1
   have hb1:((s[0].toNat:Int) != 47)=false:=by rw [H1.out];rfl
   go_enter Tryz.func133,Tryz.ntmps133
   go_wp2_with (go_at_call 174;refine (CQ _ _ hs).mono ?_;rintro e w' ⟨rfl,rfl⟩)
   go_ret
   exact ⟨U3 (by rw [H.out,Lib.extract_data];simp),rfl⟩
  ·have hd:dflt s.data.toList=[47]:=if_pos (.inr (by rw [head_eq s h0];simpa using h1))
   have H:=Lib.hid hd;clear hd
   have hb1:((s[0].toNat:Int) != 47)=true:=by rw [Lib.Pa.bne47];simpa using h1
   go_enter Tryz.func133,Tryz.ntmps133
   go_wp2_with (go_at_call 174;refine (CQ _ _ hs).mono ?_;rintro e w' ⟨rfl,rfl⟩)
   go_ret
   exact ⟨PL H.out.symm,rfl⟩
end tC
namespace Z9
open Go.RowKit tC
theorem Y6 (p:List UInt8):(dflt p).length≤p.length+1:=by
 unfold dflt;split
 ·simp
 ·rw [List.length_take];omega
end Z9
end Go.Proofs.YtlfdjpgghiemfaaGreatDoor
