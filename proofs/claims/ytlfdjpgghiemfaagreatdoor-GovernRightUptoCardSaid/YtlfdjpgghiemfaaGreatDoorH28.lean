/- Texts of the proof, joined: PolA, PolB. -/
import Derived.Test.YtlfdjpgghiemfaaGreatDoorH27
set_option maxHeartbeats 4000000
set_option maxRecDepth 100000
namespace Go.Proofs.YtlfdjpgghiemfaaGreatDoor
namespace yh
open Go.RowKit Mem Abs eO cu gV dV Rdy fI iP iQ uR
variable {n:Int} {r:Rule} {L:List Int} {c:ai}
theorem F3:aj Tryz.prog 65 [.int .i64 n] (.bool (fG n)):=by
 unfold fG
 by_cases h1:0≤n
 ·rw [decide_eq_true h1]
  by_cases h2:n≤10
  ·rw [decide_eq_true h2]
   refine aU af Tryz.func65 rfl Tryz.ntmps65 Tryz.results65 rfl fun N=>?_
   repeat' (first|refine zt ?_|(refine isR ?_;first|refine zo ?_|refine zX ?_)|refine zr ?_|exact ah)
   all_goals first|rfl|(exfalso;omega)
  ·rw [decide_eq_false h2]
   refine aU af Tryz.func65 rfl Tryz.ntmps65 Tryz.results65 rfl fun N=>?_
   repeat' (first|refine zt ?_|(refine isR ?_;first|refine zo ?_|refine zX ?_)|refine zr ?_|exact ah)
   all_goals first|rfl|(exfalso;omega)
 ·rw [decide_eq_false h1]
  refine aU af Tryz.func65 rfl Tryz.ntmps65 Tryz.results65 rfl fun N=>?_
  repeat' (first|refine zt ?_|(refine isR ?_;first|refine zo ?_|refine zX ?_)|refine zr ?_|exact ah)
  all_goals first|rfl|(exfalso;omega)
abbrev fnC:Abs.V:=.fn (.func 67) [] []
theorem aaT:aj Tryz.prog 67 [.int .i64 n] (.bool (qd n)):=by
 unfold qd
 by_cases h1:n<1
 ·rw [decide_eq_true h1]
  refine aU af Tryz.func67 rfl Tryz.ntmps67 Tryz.results67 rfl fun N=>?_
  repeat' (first|refine zt ?_|(refine isR ?_;first|refine zo ?_|refine zX ?_)|refine zr ?_|exact ah)
  all_goals first|rfl|(exfalso;omega)
 ·rw [decide_eq_false h1]
  by_cases h2:1000000000<n
  ·rw [decide_eq_true h2]
   refine aU af Tryz.func67 rfl Tryz.ntmps67 Tryz.results67 rfl fun N=>?_
   repeat' (first|refine zt ?_|(refine isR ?_;first|refine zo ?_|refine zX ?_)|refine zr ?_|exact ah)
   all_goals first|rfl|(exfalso;omega)
  ·rw [decide_eq_false h2]
   refine aU af Tryz.func67 rfl Tryz.ntmps67 Tryz.results67 rfl fun N=>?_
   repeat' (first|refine zt ?_|(refine isR ?_;first|refine zo ?_|refine zX ?_)|refine zr ?_|exact ah)
   all_goals first|rfl|(exfalso;omega)
theorem acG (hb:L.length≤1000):aj Tryz.prog 98 [.fro (L.map (Abs.V.int .i64)),fnC] (.int .i64 (Ew (L.findIdx? qd))):=by
 have hml:(L.map (Abs.V.int .i64)).length=L.length:=List.length_map _
 generalize hR:Ew (L.findIdx? qd)=R
 refine aW af Tryz.func98 rfl Tryz.ntmps98 Tryz.results98 rfl fun N=>?_
 repeat' (first|refine zt ?_|(refine isR ?_;first|refine zo ?_|refine zX ?_)|refine zr ?_|exact ah)
 refine bE (fun k=>⟨[(0,.fro (L.map (Abs.V.int .i64))),(1,fnC),(7,nV L.length),(8,nV k)],[],0,19⟩) (fun k=>k≤L.length∧∀ j x,j<k→L[j]? = some x→qd x=false) L.length 0 (by exact ah) ⟨Nat.zero_le _,fun j x h=>by omega⟩ ?_
 rintro k ⟨hk,hd⟩
 by_cases hk2:k<L.length
 ·have hx:L[k]? = some L[k]:=by simp [hk2]
  have hfi:qd L[k]=true→L.findIdx? qd=some k:=fun h=>by
   rw [List.findIdx?_eq_some_iff_getElem]
   exact ⟨hk2,h,fun j hj=>by simp [hd j (L[j]'(by omega)) hj (by simp [show j<L.length by omega])]⟩
  generalize L[k]=c at *
  have hm:=bT (f:=Abs.V.int .i64) hx
  have c1:=aaT (n:=c)
  by_cases h:qd c=true
  ·rw [hfi h] at hR
   have hR:(k:Int)=R:=hR
   rw [h] at c1
   repeat' (first|refine zt ?_|(refine isR ?_;first|refine zo ?_|refine ak (c1 _) ?_|refine ak (c1) ?_|refine zX ?_)|refine zr ?_|exact ah)
   rw [← hR];rfl
  ·have h:qd c=false:=by simpa using h
   rw [h] at c1
   repeat' (first|refine zt ?_|(refine isR ?_;first|refine zo ?_|refine ak (c1 _) ?_|refine ak (c1) ?_|refine zX ?_)|refine zr ?_|exact ah)
   refine ⟨⟨by omega,fun j x hj hx2=>?_⟩,hk2,(by exact ah)⟩
   by_cases e:j=k
   ·subst e;rw [hx] at hx2;cases hx2;exact h
   ·exact hd j x (by omega) hx2
 ·obtain rfl:k=L.length:=by omega
  have hn:L.findIdx? qd=none:=by
   rw [List.findIdx?_eq_none_iff]
   intro x hx
   obtain ⟨j,hj⟩:=List.mem_iff_getElem?.1 hx
   rw [hd j x (List.getElem?_eq_some_iff.1 hj).1 hj]
  rw [hn] at hR
  subst hR
  repeat' (first|refine zt ?_|(refine isR ?_;first|refine zo ?_|refine zX ?_)|refine zr ?_|exact ah)
  all_goals rfl
theorem abD (hb:L.length≤1000):aj Tryz.prog 66 [.fro (L.map (Abs.V.int .i64)),fnC] (.bool (L.any qd)):=by
 have c1:=acG hb
 cases hf:L.findIdx? qd with
 | none =>
  rw [hf] at c1
  change aj _ _ _ (.int .i64 (-1)) at c1
  have e:L.any qd=false:=by
   rw [List.any_eq_false]
   intro x hx
   rw [List.findIdx?_eq_none_iff] at hf
   simp [hf x hx]
  rw [e]
  refine aW af Tryz.func66 rfl Tryz.ntmps66 Tryz.results66 rfl fun N=>?_
  repeat' (first|refine zt ?_|(refine isR ?_;first|refine zo ?_|refine zk c1 ?_|refine zc4 ?_)|refine zr ?_|exact ah)
  all_goals first|rfl|(exfalso;omega)
 | some i =>
  rw [hf] at c1
  change aj _ _ _ (.int .i64 (i:Int)) at c1
  obtain ⟨hi,hd,_⟩:=List.findIdx?_eq_some_iff_getElem.1 hf
  have e:L.any qd=true:=List.any_eq_true.2 ⟨_,List.getElem_mem hi,hd⟩
  rw [e]
  refine aW af Tryz.func66 rfl Tryz.ntmps66 Tryz.results66 rfl fun N=>?_
  repeat' (first|refine zt ?_|(refine isR ?_;first|refine zo ?_|refine zk c1 ?_|refine zc4 ?_)|refine zr ?_|exact ah)
  all_goals first|rfl|(exfalso;omega)
abbrev stK (p:Pol) (k:Nat):S:=⟨[(1,.fp (V.cells (iZ p)) 0),(10,.fro (p.rules.map Rule.v)),(11,nV p.rules.length),(12,nV k)],[],0,65⟩
theorem drop_at {L:List Rule} {k:Nat} (h:L[k]? = some r):L.drop k=r::L.drop (k+1):=by
 obtain ⟨hk,e⟩:=List.getElem?_eq_some_iff.1 h
 rw [List.drop_eq_getElem_cons hk,e]
theorem BK {p:Pol}:aj Tryz.prog 34 [iZ p] (.int .i64 ((eH p:Nat):Int)):=by
 have hml:(p.rules.map Rule.v).length=p.rules.length:=List.length_map _
 have c3:=abD (L:=Ea p.caps) (show 11≤1000 by decide)
 have c2:=F3 (n:=p.dflt)
 unfold eH OT
 by_cases h0:12<p.rules.length
 ·rw [if_pos h0]
  refine aU af Tryz.func34 rfl Tryz.ntmps34 Tryz.results34 rfl fun N=>?_
  repeat' (first|refine zt ?_|(refine isR ?_;first|refine zo ?_|refine zX ?_|(refine zs ?_ ?_<;>intro hc))|refine zr ?_|exact ah)
  all_goals first|rfl|(exfalso;omega)
 rw [if_neg h0]
 generalize hR:(if kg p.rules≠0 then kg p.rules else if fG p.dflt=false∨(Ea p.caps).any qd=true then 3 else 0)=R
 refine aU af Tryz.func34 rfl Tryz.ntmps34 Tryz.results34 rfl fun N=>?_
 repeat' (first|refine zt ?_|(refine isR ?_;first|refine zo ?_|refine zX ?_|(refine zs ?_ ?_<;>intro hc))|refine zr ?_|exact ah)
 refine bE (fun k=>stK p k) (fun k=>k≤p.rules.length∧kg (p.rules.drop k)=kg p.rules) p.rules.length 0 (by exact ah) ⟨Nat.zero_le _,rfl⟩ ?_
 rintro k ⟨hk,hcd⟩
 by_cases hk2:k<p.rules.length
 ·have hx:p.rules[k]? = some p.rules[k]:=by simp [hk2]
  generalize p.rules[k]=r at *
  have hm:=bT (f:=Rule.v) hx
  rw [drop_at hx,kg] at hcd
  have c1:=F3 (n:=r.purpose)
  have c4:=vZ (l:=r.text)
  have bad:iU r≠0→iU r=R:=fun h=>by rw [if_neg h] at hcd;rw [← hcd,if_pos h] at hR;exact hR
  by_cases h1:r.kind<1∨4<r.kind
  ·have e:iU r=7:=by unfold iU;rw [if_pos h1]
   rw [e] at bad
   rw [← bad (by decide)]
   repeat' (first|refine zt ?_|(refine isR ?_;first|refine zo ?_|refine zX ?_|(refine zs ?_ ?_<;>intro hc))|refine zr ?_|exact ah)
   all_goals first|rfl|(exfalso;omega)
  by_cases h2:r.text=[]
  ·have e:iU r=1:=by unfold iU;rw [if_neg h1,if_pos (.inl h2)]
   rw [e] at bad
   rw [← bad (by decide)]
   repeat' (first|refine zt ?_|(refine isR ?_;first|refine zo ?_|refine zX ?_|(refine zs ?_ ?_<;>intro hc))|refine zr ?_|exact ah)
   all_goals first|rfl|(exfalso;omega)
  by_cases h3:400<r.text.length
  ·have e:iU r=1:=by unfold iU;rw [if_neg h1,if_pos (.inr (.inl h3))]
   rw [e] at bad
   rw [← bad (by decide)]
   repeat' (first|refine zt ?_|(refine isR ?_;first|refine zo ?_|refine zX ?_|(refine zs ?_ ?_<;>intro hc))|refine zr ?_|exact ah)
   all_goals first|rfl|(exfalso;omega)
  by_cases h4:r.kind=4∧bR r.text=false
  ·have e:iU r=1:=by unfold iU;rw [if_neg h1,if_pos (.inr (.inr h4))]
   rw [e] at bad
   rw [← bad (by decide)]
   obtain ⟨h4,h5⟩:=h4
   rw [h5] at c4
   repeat' (first|refine zt ?_|(refine isR ?_;first|refine zo ?_|refine zk c4 ?_|refine zX ?_|(refine zs ?_ ?_<;>intro hc))|refine zr ?_|exact ah)
   all_goals first|rfl|(exfalso;omega)
  have hf:¬ (r.text=[]∨400<r.text.length∨(r.kind=4∧bR r.text=false)):=fun h=>h.elim h2 fun h=>h.elim h3 h4
  have h5:r.kind=4→bR r.text=true:=fun h=>by
   cases hh:bR r.text with
   | true=>rfl
   | false=>exact absurd ⟨h,hh⟩ h4
  have c4:r.kind=4→aj Tryz.prog 59 [au r.text] (.bool true):=fun h=>by rw [h5 h] at c4;exact c4
  by_cases h6:fG r.purpose=false∨r.vendor<0∨40<r.vendor
  ·have e:iU r=3:=by unfold iU;rw [if_neg h1,if_neg hf,if_pos h6]
   rw [e] at bad
   rw [← bad (by decide)]
   by_cases h7:fG r.purpose=false
   ·rw [h7] at c1
    repeat' (first|refine zt ?_|(refine isR ?_;first|refine zo ?_|refine zk ((c4 (by assumption))) ?_|refine zk c1 ?_|refine zX ?_|(refine zs ?_ ?_<;>intro hc))|refine zr ?_|exact ah)
    all_goals first|rfl|(exfalso;omega)
   ·have h8:r.vendor<0∨40<r.vendor:=h6.resolve_left h7
    have h7:fG r.purpose=true:=by simpa using h7
    rw [h7] at c1
    repeat' (first|refine zt ?_|(refine isR ?_;first|refine zo ?_|refine zk ((c4 (by assumption))) ?_|refine zk c1 ?_|refine zX ?_|(refine zs ?_ ?_<;>intro hc))|refine zr ?_|exact ah)
    all_goals first|rfl|(exfalso;omega)
  ·have e:iU r=0:=by unfold iU;rw [if_neg h1,if_neg hf,if_neg h6]
   rw [if_pos e] at hcd
   have h7:fG r.purpose=true:=by
    cases hp:fG r.purpose with
    | true=>rfl
    | false=>exact absurd (.inl hp) h6
   have h8:¬ r.vendor<0:=fun h=>h6 (.inr (.inl h))
   have h9:¬ 40<r.vendor:=fun h=>h6 (.inr (.inr h))
   rw [h7] at c1
   repeat' (first|refine zt ?_|(refine isR ?_;first|refine zo ?_|refine zk ((c4 (by assumption))) ?_|refine zk c1 ?_|refine zX ?_|(refine zs ?_ ?_<;>intro hc))|refine zr ?_|exact ah)
   all_goals first|(exfalso;omega)|exact ⟨⟨by omega,hcd⟩,hk2,(by exact ah)⟩
 ·obtain rfl:k=p.rules.length:=by omega
  rw [List.drop_length] at hcd
  rw [← hcd,kg,if_neg (by simp)] at hR
  by_cases h1:fG p.dflt=false
  ·rw [if_pos (.inl h1)] at hR
   subst hR
   rw [h1] at c2
   repeat' (first|refine zt ?_|(refine isR ?_;first|refine zo ?_|refine zk c2 ?_|refine zX ?_|(refine zs ?_ ?_<;>intro hc))|refine zr ?_|exact ah)
   all_goals first|rfl|(exfalso;omega)
  ·have h1:fG p.dflt=true:=by simpa using h1
   rw [h1] at c2 hR
   by_cases h2:(Ea p.caps).any qd=true
   ·rw [if_pos (.inr h2)] at hR
    subst hR
    rw [h2] at c3
    repeat' (first|refine zt ?_|(refine isR ?_;first|refine zo ?_|refine zk c2 ?_|refine aaf af ?_|refine zk c3 ?_|refine zX ?_|(refine zs ?_ ?_<;>intro hc))|refine zr ?_|exact ah)
    all_goals first|rfl|(exfalso;omega)
   ·have h2:(Ea p.caps).any qd=false:=by simpa using h2
    rw [h2] at c3 hR
    rw [if_neg (by simp)] at hR
    subst hR
    repeat' (first|refine zt ?_|(refine isR ?_;first|refine zo ?_|refine zk c2 ?_|refine aaf af ?_|refine zk c3 ?_|refine zX ?_|(refine zs ?_ ?_<;>intro hc))|refine zr ?_|exact ah)
    all_goals first|rfl|(exfalso;omega)
abbrev TBN:Nat:=146
abbrev TBD:Nat:=147
abbrev byV (r:Rule) (f:Nat):Abs.V:=.agg [au r.text,.fn (.func f) [] []]
theorem UY (h:r.kind=1):aj Tryz.prog 57 [r.v] (.ifc TBN (byV r 91)):=by
 refine aU af Tryz.func57 rfl Tryz.ntmps57 Tryz.results57 rfl fun N=>?_
 repeat' (first|refine zt ?_|(refine isR ?_;first|refine zo ?_|refine zc5 ?_)|refine zr ?_|exact ah)
 all_goals first|rfl|(exfalso;omega)
theorem Uq (h:r.kind=2):aj Tryz.prog 57 [r.v] (.ifc TBN (byV r 92)):=by
 refine aU af Tryz.func57 rfl Tryz.ntmps57 Tryz.results57 rfl fun N=>?_
 repeat' (first|refine zt ?_|(refine isR ?_;first|refine zo ?_|refine zc5 ?_)|refine zr ?_|exact ah)
 all_goals first|rfl|(exfalso;omega)
theorem U7 (h:r.kind=3):aj Tryz.prog 57 [r.v] (.ifc TBN (byV r 93)):=by
 refine aU af Tryz.func57 rfl Tryz.ntmps57 Tryz.results57 rfl fun N=>?_
 repeat' (first|refine zt ?_|(refine isR ?_;first|refine zo ?_|refine zc5 ?_)|refine zr ?_|exact ah)
 all_goals first|rfl|(exfalso;omega)
theorem Tm (h:r.kind=4):aj Tryz.prog 57 [r.v] (.ifc TBD (au r.text)):=by
 refine aU af Tryz.func57 rfl Tryz.ntmps57 Tryz.results57 rfl fun N=>?_
 repeat' (first|refine zt ?_|(refine isR ?_;first|refine zo ?_|refine zc5 ?_)|refine zr ?_|exact ah)
 all_goals first|rfl|(exfalso;omega)
theorem qP {a b:List UInt8}:aj Tryz.prog 91 [au a,au b] (.bool (decide (a=b))):=by
 by_cases h:a=b
 ·subst h
  rw [decide_eq_true rfl]
  refine aW af Tryz.func91 rfl Tryz.ntmps91 Tryz.results91 rfl fun N=>?_
  repeat' (first|refine zt ?_|(refine isR ?_;first|refine zo ?_|refine zc5 ?_)|refine zr ?_|exact ah)
  all_goals first|rfl|(exfalso;simp_all;done)
 ·rw [decide_eq_false h]
  refine aW af Tryz.func91 rfl Tryz.ntmps91 Tryz.results91 rfl fun N=>?_
  repeat' (first|refine zt ?_|(refine isR ?_;first|refine zo ?_|refine zc5 ?_)|refine zr ?_|exact ah)
  all_goals first|rfl|(exfalso;simp_all;done)
theorem BU {f:Nat} {b:Bool} (hb:dZ Tryz.prog f=true) (h:aj Tryz.prog f [au c.name,au r.text] (.bool b)):aj Tryz.prog 287 [byV r f,c.v] (.bool b):=by
 refine aW af Tryz.func287 rfl Tryz.ntmps287 Tryz.results287 rfl fun N=>?_
 repeat' (first|refine zt ?_|(refine isR ?_;first|refine zo ?_|refine ak (h _) ?_|refine ak (h) ?_)|refine zr ?_|exact ah)
 all_goals rfl
theorem Zi (hd:c.domain.length≤4398046511104) (ht:r.text.length≤400):av Tryz.prog bI 288 [au r.text,c.v] (.bool (iq c.domain r.text)):=by
 have h:=A9 (l:=c.domain) (m:=r.text) hd (by omega)
 generalize iq c.domain r.text=b at *
 refine gQ af Tryz.func288 rfl Tryz.ntmps288 Tryz.results288 rfl fun N=>?_
 repeat' (first|refine zt ?_|(refine isR ?_;first|refine zo ?_|refine zk h ?_)|refine zr ?_|exact ah)
 all_goals rfl
theorem V8 {r : Rule} (c : ai) (hr : OkR r) (hd : c.domain.length ≤ 4398046511104) : ∃ (T : Nat) (v : Abs.V) (f : Nat), aj Tryz.prog 57 [r.v] (.ifc T v) ∧ DN Tryz.prog T "gingersnap/policy.names" f ∧ av Tryz.prog bI f [v, c.v] (.bool (jB r c)) ∧ dZ Tryz.prog f = true ∧ v.names = [] := by
 have hk:=hr.kind
 have m1 : DN Tryz.prog TBN "gingersnap/policy.names" 287 := fun _ _ => by kernel_rfl
 have b1:dZ Tryz.prog 287=true:=by kernel_rfl
 unfold jB
 by_cases h1:r.kind=1
 ·rw [if_pos h1]
  exact ⟨_,_,_,UY h1,m1,BU (by kernel_rfl) qP bI,b1,rfl⟩
 rw [if_neg h1]
 by_cases h2:r.kind=2
 ·rw [if_pos h2]
  exact ⟨_,_,_,Uq h2,m1,BU (by kernel_rfl) gH bI,b1,rfl⟩
 rw [if_neg h2]
 by_cases h3:r.kind=3
 ·rw [if_pos h3]
  exact ⟨_,_,_,U7 h3,m1,BU (by kernel_rfl) tK bI,b1,rfl⟩
 rw [if_neg h3]
 exact ⟨_,_,_,Tm (by omega),fun _ _=>by kernel_rfl,Zi hd hr.text,by kernel_rfl,rfl⟩
end yh
namespace yO
open Go.RowKit Mem Abs eO cu gV dV Rdy fI iP iQ uR yh
open lG (gD gu)
variable {g n:Int} {P:Nat→Bool} {L:List Int} {v:Int} {p:Pol} {U:List Int} {c:ai} {k:Int}
abbrev stD (p:Pol) (c:ai) (k:Nat):S:=⟨[(2,.fp (V.cells (iZ p)) 0),(3,.fp (V.cells c.v) 0),(9,.fro (p.rules.map Rule.v)),(10,nV p.rules.length),(11,nV k)],[],0,26⟩
theorem V7 (h:OkP p) (hd:c.domain.length≤4398046511104):av Tryz.prog bI 27 [iZ p,c.v] (.tup [.int .i64 (je p c).1,.int .i64 (je p c).2]):=by
 have hml:(p.rules.map Rule.v).length=p.rules.length:=List.length_map _
 have hlen:=h.len
 unfold je
 generalize hF:p.rules.find? (fun r=>jB r c)=F
 refine gQ af Tryz.func27 rfl Tryz.ntmps27 Tryz.results27 rfl fun N=>?_
 repeat' (first|refine zt ?_|(refine isR ?_;first|refine zo ?_|refine zX ?_)|refine zr ?_|exact ah)
 refine bE (fun k=>stD p c k) (fun k=>k≤p.rules.length∧(p.rules.drop k).find? (fun r=>jB r c)=F) p.rules.length 0 (by exact ah) ⟨Nat.zero_le _,hF⟩ ?_
 rintro k ⟨hk,hf⟩
 by_cases hk2:k<p.rules.length
 ·have hx:p.rules[k]? = some p.rules[k]:=by simp [hk2]
  obtain ⟨T,v,f,h1,h2,h3,h4,h5⟩:=V8 c (h.rules _ (List.getElem_mem hk2)) hd
  generalize p.rules[k]=r at *
  have hm:=bT (f:=Rule.v) hx
  rw [drop_at hx,List.find?_cons] at hf
  by_cases hn:jB r c=true
  ·rw [hn] at h3 hf
   subst hf
   repeat' (first|refine zt ?_|(refine isR ?_;first|refine zo ?_|refine zk h1 ?_|refine Z7 h3 h2 ?_ (hb:=h4) (hn:=by rw [V.bf,h5];rfl)|refine zX ?_)|refine zr ?_|exact ah)
   all_goals rfl
  ·have hn:jB r c=false:=by simpa using hn
   rw [hn] at h3 hf
   repeat' (first|refine zt ?_|(refine isR ?_;first|refine zo ?_|refine zk h1 ?_|refine Z7 h3 h2 ?_ (hb:=h4) (hn:=by rw [V.bf,h5];rfl)|refine zX ?_)|refine zr ?_|exact ah)
   exact ⟨⟨by omega,hf⟩,hk2,(by exact ah)⟩
 ·obtain rfl:k=p.rules.length:=by omega
  rw [List.drop_length] at hf
  subst hf
  repeat' (first|refine zt ?_|(refine isR ?_;first|refine zo ?_|refine zX ?_)|refine zr ?_|exact ah)
  all_goals rfl
theorem lN:aj Tryz.prog 94 [gu L,.int .i64 v] (.int .i64 (Ew (L.findIdx? fun x=>decide (x=v)))):=aj.lim fun hl=>by
 have hlen:=lG.wY hl.1
 clear hl
 have hml:(L.map (Abs.V.int .i64)).length=L.length:=List.length_map _
 generalize hR:Ew (L.findIdx? fun x=>decide (x=v))=R
 refine aW af Tryz.func94 rfl Tryz.ntmps94 Tryz.results94 rfl fun N=>?_
 repeat' (first|refine zt ?_|(refine isR ?_;first|refine zo ?_|refine zX ?_)|refine zr ?_|exact ah)
 refine bE (fun k=>⟨[(0,gu L),(1,.int .i64 v),(7,nV L.length),(8,nV k)],[],0,19⟩) (fun k=>k≤L.length∧∀ j x,j<k→L[j]? = some x→x≠v) L.length 0 (by exact ah) ⟨Nat.zero_le _,fun j x h=>by omega⟩ ?_
 rintro k ⟨hk,hd⟩
 by_cases hk2:k<L.length
 ·have hx:L[k]? = some L[k]:=by simp [hk2]
  have hfi:L[k]=v→L.findIdx? (fun x=>decide (x=v))=some k:=fun h=>by
   rw [List.findIdx?_eq_some_iff_getElem]
   exact ⟨hk2,by simp [h],fun j hj=>by simp [hd j (L[j]'(by omega)) hj (by simp [show j<L.length by omega])]⟩
  generalize L[k]=c at *
  have hm:=bT (f:=Abs.V.int .i64) hx
  by_cases h:v=c
  ·rw [hfi h.symm] at hR
   have hR:(k:Int)=R:=hR
   repeat' (first|refine zt ?_|(refine isR ?_;first|refine zo ?_|refine zX ?_)|refine zr ?_|exact ah)
   all_goals first|(rw [← hR];rfl)|(exfalso;omega)
  ·repeat' (first|refine zt ?_|(refine isR ?_;first|refine zo ?_|refine zX ?_)|refine zr ?_|exact ah)
   all_goals first|(exfalso;omega)|skip
   refine ⟨⟨by omega,fun j x hj hx2=>?_⟩,hk2,(by exact ah)⟩
   by_cases e:j=k
   ·subst e;rw [hx] at hx2;cases hx2;exact fun e=>h e.symm
   ·exact hd j x (by omega) hx2
 ·obtain rfl:k=L.length:=by omega
  have hn:L.findIdx? (fun x=>decide (x=v))=none:=by
   rw [List.findIdx?_eq_none_iff]
   intro x hx
   obtain ⟨j,hj⟩:=List.mem_iff_getElem?.1 hx
   simp [hd j x (List.getElem?_eq_some_iff.1 hj).1 hj]
  rw [hn] at hR
  subst hR
  repeat' (first|refine zt ?_|(refine isR ?_;first|refine zo ?_|refine zX ?_)|refine zr ?_|exact ah)
  all_goals rfl
theorem fD:aj Tryz.prog 58 [gu L,.int .i64 v] (.bool (L.contains v)):=by
 have c1:=lN (L:=L) (v:=v)
 cases hf:L.findIdx? (fun x=>decide (x=v)) with
 | none =>
  rw [hf] at c1
  change aj _ _ _ (.int .i64 (-1)) at c1
  have e:L.contains v=false:=by
   rw [List.contains_eq_any_beq,List.any_eq_false]
   intro x hx
   rw [List.findIdx?_eq_none_iff] at hf
   have:=hf x hx
   simp at this
   simp
   exact fun h=>this h.symm
  rw [e]
  refine aW af Tryz.func58 rfl Tryz.ntmps58 Tryz.results58 rfl fun N=>?_
  repeat' (first|refine zt ?_|(refine isR ?_;first|refine zo ?_|refine zk c1 ?_|refine zc4 ?_)|refine zr ?_|exact ah)
  all_goals first|rfl|(exfalso;omega)
 | some i =>
  rw [hf] at c1
  change aj _ _ _ (.int .i64 (i:Int)) at c1
  obtain ⟨hi,hd,_⟩:=List.findIdx?_eq_some_iff_getElem.1 hf
  have e:L.contains v=true:=by
   rw [List.contains_iff_mem]
   have:L[i]=v:=by simpa using hd
   rw [← this]
   exact List.getElem_mem hi
  rw [e]
  refine aW af Tryz.func58 rfl Tryz.ntmps58 Tryz.results58 rfl fun N=>?_
  repeat' (first|refine zt ?_|(refine isR ?_;first|refine zo ?_|refine zk c1 ?_|refine zc4 ?_)|refine zr ?_|exact ah)
  all_goals first|rfl|(exfalso;omega)
theorem Mv (h1:1≤k) (h2:k≤10):lJ (V.cells (gD g P U)) (1+(k-1).toNat*1) false 1=some (.bool (P (k-1).toNat)):=by
 have:k=1∨k=2∨k=3∨k=4∨k=5∨k=6∨k=7∨k=8∨k=9∨k=10:=by omega
 rcases this with rfl|rfl|rfl|rfl|rfl|rfl|rfl|rfl|rfl|rfl<;>rfl
theorem UC (h1:0≤k) (h2:k≤10):lJ (V.cells (iZ p)) (2+k.toNat*1) false 1=some (.int .i64 (p.caps k.toNat)):=by
 have:k=0∨k=1∨k=2∨k=3∨k=4∨k=5∨k=6∨k=7∨k=8∨k=9∨k=10:=by omega
 rcases this with rfl|rfl|rfl|rfl|rfl|rfl|rfl|rfl|rfl|rfl|rfl<;>rfl
theorem Ui (h1:0≤k) (h2:k≤10):aj Tryz.prog 28 [gD g P U,.int .i64 k,.int .i64 v] (.bool (EU P U k v)):=by
 have c1:=fD (L:=U) (v:=v)
 have hq:=fun h=>Mv (g:=g) (P:=P) (U:=U) (k:=k) h h2
 have hp:fG k=true:=Cc.2 ⟨h1,h2⟩
 unfold EU
 rw [hp,Bool.true_and]
 generalize P (k-1).toNat=q at *
 by_cases h0:k=0
 ·subst h0
  rw [decide_eq_true rfl,Bool.true_or,Bool.true_and]
  by_cases hv:v=0
  ·rw [decide_eq_true hv,Bool.true_or]
   refine vS af Tryz.func28 rfl Tryz.ntmps28 Tryz.results28 rfl fun N=>?_
   repeat' (first|refine zt ?_|(refine isR ?_;first|refine zo ?_|refine zX ?_)|refine zr ?_|exact ah)
   all_goals first|rfl|(exfalso;omega)
  ·rw [decide_eq_false hv,Bool.false_or]
   refine vS af Tryz.func28 rfl Tryz.ntmps28 Tryz.results28 rfl fun N=>?_
   repeat' (first|refine zt ?_|(refine isR ?_;first|refine zo ?_|refine zk c1 ?_|refine zX ?_)|refine zr ?_|exact ah)
   all_goals first|rfl|(exfalso;omega)
 ·have hq:=hq (by omega)
  rw [decide_eq_false h0,Bool.false_or]
  cases q with
  | false =>
   refine vS af Tryz.func28 rfl Tryz.ntmps28 Tryz.results28 rfl fun N=>?_
   repeat' (first|refine zt ?_|(refine isR ?_;first|refine zo ?_|refine Ld af hq ?_|refine zX ?_)|refine zr ?_|exact ah)
   all_goals first|rfl|(exfalso;omega)
  | true =>
   rw [Bool.true_and]
   by_cases hv:v=0
   ·rw [decide_eq_true hv,Bool.true_or]
    refine vS af Tryz.func28 rfl Tryz.ntmps28 Tryz.results28 rfl fun N=>?_
    repeat' (first|refine zt ?_|(refine isR ?_;first|refine zo ?_|refine Ld af hq ?_|refine zX ?_)|refine zr ?_|exact ah)
    all_goals first|rfl|(exfalso;omega)
   ·rw [decide_eq_false hv,Bool.false_or]
    refine vS af Tryz.func28 rfl Tryz.ntmps28 Tryz.results28 rfl fun N=>?_
    repeat' (first|refine zt ?_|(refine isR ?_;first|refine zo ?_|refine Ld af hq ?_|refine zk c1 ?_|refine zX ?_)|refine zr ?_|exact ah)
    all_goals first|rfl|(exfalso;omega)
theorem Jk (h:OkP p) (hd:c.domain.length≤4398046511104):av Tryz.prog bI 10 [iZ p,gD g P U,c.v] (.bool (jd p P U c)):=by
 have c1:=V7 h hd
 obtain ⟨h1,h2⟩:=AQ h c
 unfold jd
 generalize (je p c).1=k at *
 generalize (je p c).2=v at *
 have c2:=Ui (g:=g) (P:=P) (U:=U) (v:=v) h1 h2
 generalize EU P U k v=b at *
 refine K8 af Tryz.func10 rfl Tryz.ntmps10 Tryz.results10 rfl fun N=>?_
 repeat' (first|refine zt ?_|(refine isR ?_;first|refine zo ?_|refine zk c1 ?_|refine zk c2 ?_)|refine zr ?_|exact ah)
 all_goals rfl
theorem IV {s:Int} (h:isJ n=true) (h1:0≤s) (h2:s≤1000000000):aj Tryz.prog 165 [.int .i64 n,.int .i64 s] (.int .i64 (fV n s)):=by
 unfold isJ at h
 simp at h
 unfold fV
 have hq:(if s<253402300799-n then s else 253402300799-n)≤1000000000∧0≤(if s<253402300799-n then s else 253402300799-n):=by split<;>omega
 generalize hm:(if s<253402300799-n then s else 253402300799-n)=q at *
 refine aW af Tryz.func165 rfl Tryz.ntmps165 Tryz.results165 rfl fun N=>?_
 repeat' (first|refine zt ?_|(refine isR ?_;first|refine zo ?_|refine Vo (q:Int) (h:=hm) ?_|refine zX ?_)|refine zr ?_|exact ah)
 all_goals first|rfl|(exfalso;omega)
theorem QH (h:OkP p) (hd:c.domain.length≤4398046511104) (hc:isJ c.created=true):av Tryz.prog bI 124 [iZ p,c.v] (.int .i64 (vG p c)):=by
 have c1:=V7 h hd
 obtain ⟨h1,h2⟩:=AQ h c
 unfold vG
 generalize (je p c).1=k at *
 generalize (je p c).2=v at *
 have hq:=UC (p:=p) h1 h2
 have h3:=h.caps k.toNat (by omega)
 have c2:=IV (s:=p.caps k.toNat) hc (by omega) (by omega)
 generalize p.caps k.toNat=s at *
 generalize hA:fV c.created s=a at *
 refine gQ af Tryz.func124 rfl Tryz.ntmps124 Tryz.results124 rfl fun N=>?_
 repeat' (first|refine zt ?_|(refine isR ?_;first|refine zo ?_|refine zk c1 ?_|refine Ld af hq ?_|refine zk c2 ?_|refine zI ?_)|refine zr ?_|exact ah)
 all_goals first|rfl|(exfalso;omega)
theorem ZB (h:isJ n=true): -11644473600≤n∧n≤253402300799:=by unfold isJ at h;simpa using h
theorem aa6 (h:c.v.Lim): -9223372036854775808≤c.expiry∧c.expiry≤9223372036854775807:=by
 rw [ai.v,V.Lim] at h
 exact h.2.2.2.2.2.2.2.2.2.1
theorem FI (h:OkP p) (hd:c.domain.length≤4398046511104) (hc:isJ c.created=true):av Tryz.prog bI 100 [iZ p,c.v] (bM p c).v:=av.lim fun hl=>by
 have c1:=QH h hd hc
 have hx:=aa6 hl.2.1
 unfold bM
 have hb:vG p c≤253402300799 ∧ -11644473600≤vG p c:=by
  have:=ZB hc
  obtain ⟨h1,h2⟩:=AQ h c
  have h3:=h.caps (je p c).1.toNat (by omega)
  unfold vG fV
  split<;>omega
 generalize vG p c=a at *
 generalize hm:(if a<c.expiry then a else c.expiry)=q at *
 refine gQ af Tryz.func100 rfl Tryz.ntmps100 Tryz.results100 rfl fun N=>?_
 repeat' (first|refine zt ?_|(refine isR ?_;first|refine dQ [3] af rfl ?_|refine zn ?_|refine zk c1 ?_|refine Vo (q:Int) (h:=hm) ?_)|refine zr ?_|exact ah)
 all_goals first|rfl|(exfalso;omega)
end yO
end Go.Proofs.YtlfdjpgghiemfaaGreatDoor
