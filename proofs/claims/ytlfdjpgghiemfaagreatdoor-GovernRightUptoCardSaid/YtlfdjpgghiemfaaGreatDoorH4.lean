/- Texts of the proof, joined: Facts. -/
import Derived.OrdersHeld
import Derived.Below
namespace Go.Proofs.YtlfdjpgghiemfaaGreatDoor
namespace Facts
open Go.RowKit
def after (ops:Array Oper) (i:Nat):List Nat:=match ops[i]? with
 | some o=>(o.after.toList.filter (Region.binds .any)).map (·.on)
 | none=>[]
def deps (ops:Array Oper):List (List Nat):=(List.range ops.size).foldl (fun acc i=>acc++[((after ops i).flatMap fun j=>j::acc.getD j []).eraseDups]) []
def WU (ops:Array Oper) (D:List (List Nat)):Bool:=D.length==ops.size&&(List.range ops.size).all fun i=>(after ops i).all (· < i)&&(D.getD i []).all fun j=>(after ops i).any fun e=>e==j||(D.getD e []).contains j
def left (kills:List (List Nat)) (n m:Nat):List Nat:=(List.range (n+m)).filter fun j=>(List.range n).all fun s => !(kills.getD s []).contains j
structure acN where
 at':List Nat
 says:List Value→World→Prop
def fill (vs:Nat→Value):List Oper→Nat→Act→Act
 | [],_,a=>a
 | o::r,n,a=>fill vs r (n+1) (a.put o.dst (vs n))
section
variable {P:Program} {Q:Exit→Act→World→Prop}
variable (F:List acN) (I:World→Prop)
variable {listed:Array Bool} {j:Nat}
def fact (i:Nat) (v:Value) (vs:Nat→Value) (w:World):Prop:=match F[i]? with
 | some f=>f.says (v::f.at'.map vs) w
 | none=>True
structure St (m:Nat) (ops:Array Oper) (a0:Act) (kills:List (List Nat)) (listed:Array Bool) (a:Act) (w:World):Prop where
 size:listed.size=ops.size
 down:∀ k o,ops[k]? = some o→listed.getD k true=true→∀ e∈o.after,Region.binds .any e=true→listed.getD e.on false=true
 inv:I w
 acts:∃ vs,a=fill vs ops.toList 0 a0∧∀ j,j<ops.size+m→listed.getD j true=true→(∀ s,s<ops.size→listed.getD s true=true→(kills.getD s []).contains j=false)→fact F j (vs j) vs w
theorem pz {ops:Array Oper} {i e:Nat} (h:e∈after ops i):∃ o x,ops[i]? = some o∧x∈o.after∧Region.binds .any x=true∧x.on=e:=by
 unfold after at h
 split at h
 ·rename_i o ho
  obtain ⟨x,hx,rfl⟩:=List.mem_map.1 h
  rw [List.mem_filter] at hx
  exact ⟨o,x,ho,by simpa using hx.1,hx.2,rfl⟩
 ·cases h
theorem rY {ops:Array Oper} {D:List (List Nat)} {listed:Array Bool} (hD:WU ops D=true) (hsz:listed.size=ops.size)
  (down:∀ k o,ops[k]? = some o→listed.getD k true=true→∀ e∈o.after,Region.binds .any e=true→listed.getD e.on false=true) :
  ∀ (n i:Nat),i<n→i<ops.size→(∀ o,ops[i]? = some o→∀ e∈o.after,Region.binds .any e=true→listed.getD e.on false=true)→∀ j∈D.getD i [],j<i∧listed.getD j true=true
 | 0,_,h,_,_,_,_=>absurd h (Nat.not_lt_zero _)
 | n+1,i,hin,hi,hrd,j,hj=>by
  have h1:=List.all_eq_true.1 (Bool.and_eq_true _ _ ▸ hD:_∧_).2 i (List.mem_range.2 hi)
  rw [Bool.and_eq_true] at h1
  obtain ⟨e,he,hor⟩:=List.any_eq_true.1 (List.all_eq_true.1 h1.2 j hj)
  have hlt:e<i:=by simpa using List.all_eq_true.1 h1.1 e he
  obtain ⟨o,x,ho,hx,hb,rfl⟩:=pz he
  have hl:=hrd o ho x hx hb
  have hl':listed.getD x.on true=true:=by
   have hxs:x.on<listed.size:=by omega
   simp [hxs] at hl ⊢
   exact hl
  rw [Bool.or_eq_true] at hor
  rcases hor with hor|hor
  ·obtain rfl:x.on=j:=by simpa using hor
   exact ⟨hlt,hl'⟩
  ·have:=rY hD hsz down n x.on (by omega) (by omega) (fun o' ho' e' he' hb'=>down x.on o' ho' hl' e' he' hb') j (by simpa using hor)
   exact ⟨by omega,this.2⟩
theorem Cj {i:Nat} (hi:i<listed.size):(listed.setIfInBounds i true).getD j true=if j=i then true else listed.getD j true:=by
 by_cases e:j=i
 ·subst e;simp [hi]
 ·rw [if_neg e,getD_set_ne true (Ne.symm e)]
theorem Gs {i:Nat} (hi:i<listed.size):(listed.setIfInBounds i true).getD j false=if j=i then true else listed.getD j false:=by
 by_cases e:j=i
 ·subst e;simp [hi]
 ·rw [if_neg e,getD_set_ne false (Ne.symm e)]
end
section
variable {P:Program} {Q:Exit→Act→World→Prop} {F:List acN} {I:World→Prop} {ops:Array Oper} {a0:Act} {need oth:List Nat} {i:Nat} {o:Oper}
variable {ρ:Operand→Value} {w:World}
end
end Facts
end Go.Proofs.YtlfdjpgghiemfaaGreatDoor
