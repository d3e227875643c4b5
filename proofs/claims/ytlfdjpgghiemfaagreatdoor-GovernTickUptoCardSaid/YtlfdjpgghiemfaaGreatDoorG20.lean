/- Texts of the proof, joined: GrantP, PolP, JarB. -/
import Derived.Test.YtlfdjpgghiemfaaGreatDoorG19
namespace Go.Proofs.YtlfdjpgghiemfaaGreatDoor
namespace bF
open Scan
variable {V:List Int}
def kV (V:List Int) (i:Nat):Nat:=if V.getD i 0<1∨40<V.getD i 0 then 3 else if 0<i∧V.getD i 0≤V.getD (i-1) 0 then 4 else 0
def VY (g:Int):Nat:=if g<0∨68719476735<g then 3 else 0
def check (g:Int) (V:List Int):Nat:=if VY g=0 then scan (kV V) V.length else 3
theorem vg {i:Nat}:kV V i=0↔(1≤V.getD i 0∧V.getD i 0≤40)∧(0<i→V.getD (i-1) 0<V.getD i 0):=by
 unfold kV
 split
 ·constructor
  ·intro h;cases h
  ·intro h;omega
 ·split
  ·constructor
   ·intro h;cases h
   ·intro h;omega
  ·constructor
   ·intro _;omega
   ·intro _;rfl
def Right (V:List Int):Prop:=V.Pairwise (· < ·)∧∀ v∈V,1≤v∧v≤40
theorem xq (h:scan (kV V) V.length=0):Right V:=by
 have ha:=lJ.1 h
 have step:∀ i,i+1<V.length→V.getD i 0<V.getD (i+1) 0:=fun i hi=>(vg.1 (ha (i+1) hi)).2 (by omega)
 have lt:∀ d i,i+d+1<V.length→V.getD i 0<V.getD (i+d+1) 0:=by
  intro d
  induction d with
  | zero=>intro i hi;exact step i hi
  | succ d ih=>intro i hi;exact Int.lt_trans (ih i (by omega)) (step (i+d+1) hi)
 have at':∀ i (hi:i<V.length),V.getD i 0=V[i]:=fun i hi=>by rw [List.getD_eq_getElem?_getD,List.getElem?_eq_getElem hi];rfl
 refine ⟨List.pairwise_iff_getElem.2 fun i j hi hj hij=>?_,fun v hv=>?_⟩
 ·have:=lt (j-i-1) i (by omega)
  rw [show i+(j-i-1)+1=j from by omega,at' i hi,at' j hj] at this
  exact this
 ·obtain ⟨i,hi,rfl⟩:=List.mem_iff_getElem.1 hv
  have:=(vg.1 (ha i hi)).1
  rwa [at' i hi] at this
theorem SC (h:Right V):scan (kV V) V.length=0:=by
 have at':∀ i (hi:i<V.length),V.getD i 0=V[i]:=fun i hi=>by rw [List.getD_eq_getElem?_getD,List.getElem?_eq_getElem hi];rfl
 refine lJ.2 fun i hi=>vg.2 ⟨?_,fun h0=>?_⟩
 ·rw [at' i hi];exact h.2 _ (List.getElem_mem hi)
 ·rw [at' i hi,at' (i-1) (by omega)]
  exact List.pairwise_iff_getElem.1 h.1 (i-1) i (by omega) hi (by omega)
end bF
namespace xB
open Abs dh eB Rdy gy
abbrev Pol:=iU
abbrev Ci (C:Nat→Int):List Int:=[C 0,C 1,C 2,C 3,C 4,C 5,C 6,C 7,C 8,C 9,C 10]
abbrev kC (p:Pol):Abs.V:=iU.v p
def fe (n:Int):Bool:=decide (0≤n)&&decide (n≤10)
def jH (r:Rule):Nat:=if r.kind<1∨4<r.kind then 7 else if r.text=[]∨400<r.text.length∨(r.kind=4∧cu r.text=false) then 1 else if fe r.purpose=false∨r.vendor<0∨40<r.vendor then 3 else 0
def lT:List Rule→Nat
 | []=>0
 | r::l=>if jH r=0 then lT l else jH r
def pY (n:Int):Bool:=decide (n<1)||decide (1000000000<n)
def O5 (C:Nat→Int):Bool:=(Ci C).any pY
def gB (p:Pol):Nat:=if 12<p.rules.length then 2 else if lT p.rules≠0 then lT p.rules else if fe p.dflt=false∨O5 p.caps=true then 3 else 0
structure OkR (r:Rule):Prop where
 kind:1≤r.kind∧r.kind≤4
 text:r.text.length≤400
 fe:0≤r.purpose∧r.purpose≤10
theorem CG {n:Int}:fe n=true↔0≤n∧n≤10:=by unfold fe;simp
theorem NU {r:Rule} (h:jH r=0):OkR r:=by
 unfold jH at h
 split at h
 ·cases h
 ·split at h
  ·cases h
  ·split at h
   ·cases h
   ·rename_i h1 h2 h3
    exact ⟨by omega,Nat.le_of_not_lt fun h=>h2 (.inr (.inl h)),CG.1 (by
     cases hp:fe r.purpose with
     | true=>rfl
     | false=>exact absurd (.inl hp) h3)⟩
theorem zC:∀ {l:List Rule},lT l=0→∀ r∈l,OkR r
 | [],_,r,hr=>by cases hr
 | a::l,h,r,hr=>by
  rw [lT] at h
  split at h
  ·rename_i h0
   rcases List.mem_cons.1 hr with rfl|hr
   ·exact NU h0
   ·exact zC h r hr
  ·rename_i h0;exact absurd h h0
structure OkP (p:Pol):Prop where
 len:p.rules.length≤12
 rules:∀ r∈p.rules,OkR r
 dflt:0≤p.dflt∧p.dflt≤10
 caps:∀ i,i≤10→1≤p.caps i∧p.caps i≤1000000000
theorem gG {p:Pol} (h:gB p=0):OkP p:=by
 unfold gB at h
 split at h
 ·cases h
 ·split at h
  ·rename_i h1 h2;exact absurd h h2
  ·split at h
   ·cases h
   ·rename_i h1 h2 h3
    refine ⟨by omega,zC (by simpa using h2),CG.1 (by
     cases hp:fe p.dflt with
     | true=>rfl
     | false=>exact absurd (.inl hp) h3),fun i hi=>?_⟩
    have hb:O5 p.caps=false:=by
     cases hp:O5 p.caps with
     | false=>rfl
     | true=>exact absurd (.inr hp) h3
    have hm:p.caps i∈Ci p.caps:=by
     have:i=0∨i=1∨i=2∨i=3∨i=4∨i=5∨i=6∨i=7∨i=8∨i=9∨i=10:=by omega
     rcases this with rfl|rfl|rfl|rfl|rfl|rfl|rfl|rfl|rfl|rfl|rfl<;>simp [Ci]
    have:=List.any_eq_false.1 hb _ hm
    unfold pY at this
    simp at this
    omega
def qR (r:Rule) (c:ah):Bool:=if r.kind=1 then decide (c.name=r.text) else if r.kind=2 then pre c.name r.text else if r.kind=3 then zX c.name r.text else kK c.domain r.text
def nk (p:Pol) (c:ah):Int × Int:=match p.rules.find? (fun r=>qR r c) with
 | some r=>(r.purpose,r.vendor)
 | none=>(p.dflt,0)
theorem Gr {p:Pol} (h:OkP p) (c:ah):0≤(nk p c).1∧(nk p c).1≤10:=by
 unfold nk
 cases hf:p.rules.find? (fun r=>qR r c) with
 | none=>exact h.dflt
 | some r=>exact (h.rules r (List.mem_of_find?_eq_some hf)).fe
def EH (P:Nat→Bool) (U:List Int) (k v:Int):Bool:=(decide (k=0)||(fe k&&P (k-1).toNat))&&(decide (v=0)||U.contains v)
def ig (n s:Int):Int:=n+if s<253402300799-n then s else 253402300799-n
def Ku (p:Pol) (c:ah):Int:=ig c.created (p.caps (nk p c).1.toNat)
def gV (p:Pol) (c:ah):ah:={ c with expiry:=if Ku p c<c.expiry then Ku p c else c.expiry }
def qE (p:Pol) (P:Nat→Bool) (U:List Int) (c:ah):Bool:=EH P U (nk p c).1 (nk p c).2
def dF (p:Pol) (P:Nat→Bool) (U:List Int) (now:Int) (L:List ah):List ah:=L.flatMap fun c=>if qE p P U c=true∧now<(gV p c).expiry then [gV p c] else []
theorem Y8 {p:Pol} {P:Nat→Bool} {U:List Int} {now:Int} (L:List ah) {k:Nat} {c:ah} (h:L[k]? = some c):dF p P U now (L.take (k+1))=dF p P U now (L.take k)++if qE p P U c=true∧now<(gV p c).expiry then [gV p c] else []:=by
 unfold dF
 rw [List.take_add_one,h,List.flatMap_append]
 simp
theorem wZ {p:Pol} {P:Nat→Bool} {U:List Int} {now:Int}:∀ L:List ah,(dF p P U now L).length≤L.length
 | []=>Nat.zero_le _
 | c::L=>by
  have ih:=wZ (p:=p) (P:=P) (U:=U) (now:=now) L
  have e:dF p P U now (c::L)=(if qE p P U c=true∧now<(gV p c).expiry then [gV p c] else [])++dF p P U now L:=by unfold dF;rw [List.flatMap_cons]
  rw [e,List.length_append,List.length_cons]
  split
  ·rw [List.length_singleton];omega
  ·rw [List.length_nil];omega
def jP (p:Pol) (g:Int) (U:List Int):Nat:=if gB p≠0 then gB p else bF.check g U
end xB
namespace iY
open Go.RowKit Mem Abs Scan gy gY iW
abbrev TC:Nat:=46
abbrev nV (n:Nat):Abs.V:=.int .i64 (n:Int)
theorem di {α:Type} {f:α→Abs.V} {L:List α} {k:Nat} {x:α} (h:L[k]? = some x):(L.map f)[k]? = some (f x):=by rw [List.getElem?_map,h];rfl
def Rp (L:List ah) (c:ah) (k:Nat):Nat:=(L.take k).countP fun d=>decide (d.domain=c.domain)
theorem abO (L:List ah) (c:ah) (k:Nat):Rp L c k≤k:=Nat.le_trans List.countP_le_length (by rw [List.length_take];omega)
theorem YF {L:List ah} {nx:Int} {i:Nat} {c:ah} (hc:L[i]? = some c):jk L nx i=if kI c=true then 3 else if c.no<0∨nx≤c.no then 4
  else if (L.take i).any (fun d=>bq d c||decide (d.no=c.no))=true then 6
  else if Rp L c i=4 then 2 else 0:=by
 unfold jk
 rw [hc]
 rfl
end iY
end Go.Proofs.YtlfdjpgghiemfaaGreatDoor
