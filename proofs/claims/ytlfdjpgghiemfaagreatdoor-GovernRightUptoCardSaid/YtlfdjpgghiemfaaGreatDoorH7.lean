/- Texts of the proof, joined: AbsK. -/
import Derived.Test.YtlfdjpgghiemfaaGreatDoorH6
import Derived.Shelf.Abstract
namespace Go.Proofs.YtlfdjpgghiemfaaGreatDoor
section
namespace Abs
open Go.RowKit Mem Facts
mutual
def frz (b:Nat→Option Blk):V→Option V
 | .own n i len=>match b n with
  | some (.els _ _ xs)=>some (.fro ((xs.drop i).take len))
  | _=>none
 | .loc n i off=>match b n with
  | some (.els _ _ xs)=>match nth xs i with
   | some el=>some (.fp el.cells off)
   | none=>none
  | _=>none
 | .agg vs=>match j4 b vs with
  | some us=>some (.agg us)
  | none=>none
 | .tup vs=>match j4 b vs with
  | some us=>some (.tup us)
  | none=>none
 | .fn f fs bs=>match j4 b fs,j4 b bs with
  | some us,some vs=>some (.fn f us vs)
  | _,_=>none
 | .ifc t v=>match frz b v with
  | some u=>some (.ifc t u)
  | none=>none
 | .mp _=>none
 | v=>some v
def j4 (b:Nat→Option Blk):List V→Option (List V)
 | []=>some []
 | v::r=>match frz b v,j4 b r with
  | some u,some us=>some (u::us)
  | _,_=>none
end
mutual
def rQ (b:Nat→Option Blk):V→Prop
 | .own n i len=>match b n with
  | some (.els _ _ xs)=>(∀ x∈xs,x.names=[])∧i+len≤xs.length
  | _=>False
 | .loc n i _=>match b n with
  | some (.els _ _ xs)=>match nth xs i with
   | some el=>∀ u∈el.cells,u.names=[]
   | none=>False
  | _=>False
 | .agg vs=>jU b vs
 | .tup vs=>jU b vs
 | .fn _ fs bs=>jU b fs∧jU b bs
 | .ifc _ v=>rQ b v
 | .mp _=>False
 | _=>True
def jU (b:Nat→Option Blk):List V→Prop
 | []=>True
 | v::r=>rQ b v∧jU b r
end
section
variable {X A:Nat→Prop} {φ:Nat→Pl} {w:World} {P:Program} {tb:List Ty} {T:Nat} {e ee:Ty} {N:Env} {M:Nat→Prop} {o:Oper} {s:S} {a:Act}
variable {ts:Array TypeId} {g:Operand} {x:Value} {vs fs bs args:List V} {xs:Array Operand}
theorem ji {b:Nat→Option Blk}:∀ {vs us:List V},j4 b vs=some us→vs.length=us.length∧∀ (i:Nat) v,vs[i]? = some v→∃ u,us[i]? = some u∧frz b v=some u
 | [],us,h=>by rw [j4] at h;cases h;exact ⟨rfl,fun i v h=>by simp at h⟩
 | v::r,us,h=>by
  rw [j4] at h
  cases h1:frz b v with
  | none=>rw [h1] at h;cases h
  | some u =>
   cases h2:j4 b r with
   | none=>rw [h1,h2] at h;cases h
   | some q =>
    rw [h1,h2] at h;cases h
    obtain ⟨h3,h4⟩:=ji h2
    refine ⟨by simp [h3],fun i y hy=>?_⟩
    rcases i with _|i
    ·simp at hy;subst hy;exact ⟨u,rfl,h1⟩
    ·exact h4 i y (by simpa using hy)
theorem jf {b:Nat→Option Blk}:∀ {vs:List V},jU b vs→∀ v∈vs,rQ b v
 | x::r,h,v,hv=>by
  rw [jU] at h
  rcases List.mem_cons.1 hv with rfl|hv
  ·exact h.1
  ·exact jf h.2 v hv
theorem X8 {b:Nat→Option Blk} {v u:V} (h:frz b v=some u) (h1:v.one=true):u.one=true:=by
 cases v<;>first
  | (simp [V.one] at h1;done)
  | (simp only [frz] at h;cases h;rfl)
  | (rw [frz] at h;cases h;done)
  | (rw [frz] at h;split at h<;>first|(cases h;done)|(cases h;rfl)|(split at h<;>first|(cases h;done)|(cases h;rfl)))
theorem Rel.frz {b:Nat→Option Blk} (hr:Rel N M A φ s a w) (hb:∀ n k,b n=some k→s.blk n=some k) {v:V} {x:Value} (h:Rep (fun b=>M b∨N b) A φ w v x):∀ {u:V},frz b v=some u→rQ b v→Fz N w u x:=by
 have less:∀ {v:V} {x:Value},Fz (fun b=>M b∨N b) w v x→Fz N w v x:=fun h=>h.mono (fun b _ hb=>.inr hb) (.refl _ w)
 have nonm:∀ {v:V},v.names=[]→∀ {u},Abs.frz b v=some u→u=v:=by
  suffices H:∀ n:Nat,∀ v:V,SizeOf.sizeOf v≤n→v.names=[]→∀ {u},Abs.frz b v=some u→u=v from fun {v} h {u} hu=>H (SizeOf.sizeOf v) v (Nat.le_refl _) h hu
  intro n
  induction n with
  | zero=>intro v hv;cases v<;>simp at hv
  | succ n ih =>
   have ihL:∀ vs:List V,SizeOf.sizeOf vs≤n→V.bf vs=[]→∀ {us},j4 b vs=some us→us=vs:=fun vs=>by
    induction vs with
    | nil=>intro _ _ us h;rw [j4] at h;cases h;rfl
    | cons v r ih2 =>
     intro hv hn us h
     rw [V.bf,List.append_eq_nil_iff] at hn
     simp at hv
     rw [j4] at h
     cases h1:Abs.frz b v with
     | none=>rw [h1] at h;cases h
     | some u =>
      cases h2:j4 b r with
      | none=>rw [h1,h2] at h;cases h
      | some q =>
       rw [h1,h2] at h;cases h
       rw [ih v (by omega) hn.1 h1,ih2 (by omega) hn.2 h2]
   intro v hv hn u h
   cases v with
   | agg vs =>
    rw [V.names] at hn;rw [Abs.frz] at h
    cases h2:j4 b vs with
    | none=>rw [h2] at h;cases h
    | some q=>rw [h2] at h;cases h;simp at hv;rw [ihL vs (by omega) hn h2]
   | tup vs =>
    rw [V.names] at hn;rw [Abs.frz] at h
    cases h2:j4 b vs with
    | none=>rw [h2] at h;cases h
    | some q=>rw [h2] at h;cases h;simp at hv;rw [ihL vs (by omega) hn h2]
   | fn f fs bs =>
    rw [V.names,List.append_eq_nil_iff] at hn;rw [Abs.frz] at h
    simp at hv
    cases h1:j4 b fs with
    | none=>rw [h1] at h;cases h
    | some p =>
     cases h2:j4 b bs with
     | none=>rw [h1,h2] at h;cases h
     | some q=>rw [h1,h2] at h;cases h;rw [ihL fs (by omega) hn.1 h1,ihL bs (by omega) hn.2 h2]
   | ifc t v =>
    rw [V.names] at hn;rw [Abs.frz] at h
    simp at hv
    cases h1:Abs.frz b v with
    | none=>rw [h1] at h;cases h
    | some p=>rw [h1] at h;cases h;rw [ih v (by omega) hn h1]
   | own=>simp [V.names] at hn
   | loc=>simp [V.names] at hn
   | mp=>simp [V.names] at hn
   | _=>simp only [Abs.frz] at h;cases h;rfl
 induction h with
 | fz h =>
  intro u hu _
  have hn:=by
   have:∀ {v:V} {x:Value},Fz (fun b=>M b∨N b) w v x→v.names=[]:=by
    intro v x h
    induction h with
    | agg h1 h2 h3 ih => rename_i vs cs; rw [V.names]; exact List.eq_nil_iff_forall_not_mem.2 fun m hm => by
                           obtain ⟨v,hv,hm⟩:=aB.1 hm
                           obtain ⟨i,hi⟩:=List.mem_iff_getElem?.1 hv
                           have hl:i<cs.size:=by rw [← h1];exact (List.getElem?_eq_some_iff.1 hi).1
                           rw [ih i v cs[i] hi (by simp [hl])] at hm;cases hm
    | tup h1 h3 ih => rename_i vs cs; rw [V.names]; exact List.eq_nil_iff_forall_not_mem.2 fun m hm => by
                           obtain ⟨v,hv,hm⟩:=aB.1 hm
                           obtain ⟨i,hi⟩:=List.mem_iff_getElem?.1 hv
                           have hl:i<cs.size:=by rw [← h1];exact (List.getElem?_eq_some_iff.1 hi).1
                           rw [ih i v cs[i] hi (by simp [hl])] at hm;cases hm
    | fn h1 h2 h3 h4 ih1 ih2 =>
     rename_i f fs bs cs ds
     rw [V.names,List.append_eq_nil_iff]
     refine ⟨List.eq_nil_iff_forall_not_mem.2 fun m hm=>?_,List.eq_nil_iff_forall_not_mem.2 fun m hm=>?_⟩
     ·obtain ⟨v,hv,hm⟩:=aB.1 hm
      obtain ⟨i,hi⟩:=List.mem_iff_getElem?.1 hv
      have hl:i<cs.size:=by rw [← h1];exact (List.getElem?_eq_some_iff.1 hi).1
      rw [ih1 i v cs[i] hi (by simp [hl])] at hm;cases hm
     ·obtain ⟨v,hv,hm⟩:=aB.1 hm
      obtain ⟨i,hi⟩:=List.mem_iff_getElem?.1 hv
      have hl:i<ds.size:=by rw [← h2];exact (List.getElem?_eq_some_iff.1 hi).1
      rw [ih2 i v ds[i] hi (by simp [hl])] at hm;cases hm
    | ifc _ ih=>rw [V.names];exact ih
    | _=>rfl
   exact this h
  rw [nonm hn hu]
  exact less h
 | @agg vs cs h1 h2 h3 ih =>
  intro u hu hok
  rw [Abs.frz] at hu
  cases h4:j4 b vs with
  | none=>rw [h4] at hu;cases hu
  | some us =>
   rw [h4] at hu;cases hu
   obtain ⟨h5,h6⟩:=ji h4
   rw [rQ] at hok
   refine .agg (by rw [← h5];exact h1) (fun y hy=>?_) (fun i y c hy hc=>?_)
   ·obtain ⟨i,hi⟩:=List.mem_iff_getElem?.1 hy
    have hl:i<vs.length:=by rw [h5];exact (List.getElem?_eq_some_iff.1 hi).1
    obtain ⟨y',g1,g2⟩:=h6 i vs[i] (List.getElem?_eq_getElem hl)
    rw [hi] at g1;cases g1
    exact X8 g2 (h2 _ (List.getElem_mem hl))
   ·have hl:i<vs.length:=by rw [h5];exact (List.getElem?_eq_some_iff.1 hy).1
    obtain ⟨y',g1,g2⟩:=h6 i vs[i] (List.getElem?_eq_getElem hl)
    rw [hy] at g1;cases g1
    exact ih i vs[i] c (List.getElem?_eq_getElem hl) hc g2 (jf hok _ (List.getElem_mem hl))
 | @tup vs cs h1 h3 ih =>
  intro u hu hok
  rw [Abs.frz] at hu
  cases h4:j4 b vs with
  | none=>rw [h4] at hu;cases hu
  | some us =>
   rw [h4] at hu;cases hu
   obtain ⟨h5,h6⟩:=ji h4
   rw [rQ] at hok
   refine .tup (by rw [← h5];exact h1) (fun i y c hy hc=>?_)
   have hl:i<vs.length:=by rw [h5];exact (List.getElem?_eq_some_iff.1 hy).1
   obtain ⟨y',g1,g2⟩:=h6 i vs[i] (List.getElem?_eq_getElem hl)
   rw [hy] at g1;cases g1
   exact ih i vs[i] c (List.getElem?_eq_getElem hl) hc g2 (jf hok _ (List.getElem_mem hl))
 | @fn f fs bs cs ds h1 h2 h3 h4 ih1 ih2 =>
  intro u hu hok
  rw [Abs.frz] at hu
  cases g1:j4 b fs with
  | none=>rw [g1] at hu;cases hu
  | some us =>
   cases g2:j4 b bs with
   | none=>rw [g1,g2] at hu;cases hu
   | some vs =>
    rw [g1,g2] at hu;cases hu
    rw [rQ] at hok
    obtain ⟨k1,k2⟩:=ji g1
    obtain ⟨k3,k4⟩:=ji g2
    refine .fn (by rw [← k1];exact h1) (by rw [← k3];exact h2) (fun i y c hy hc=>?_) (fun i y c hy hc=>?_)
    ·have hl:i<fs.length:=by rw [k1];exact (List.getElem?_eq_some_iff.1 hy).1
     obtain ⟨y',q1,q2⟩:=k2 i fs[i] (List.getElem?_eq_getElem hl)
     rw [hy] at q1;cases q1
     exact ih1 i fs[i] c (List.getElem?_eq_getElem hl) hc q2 (jf hok.1 _ (List.getElem_mem hl))
    ·have hl:i<bs.length:=by rw [k3];exact (List.getElem?_eq_some_iff.1 hy).1
     obtain ⟨y',q1,q2⟩:=k4 i bs[i] (List.getElem?_eq_getElem hl)
     rw [hy] at q1;cases q1
     exact ih2 i bs[i] c (List.getElem?_eq_getElem hl) hc q2 (jf hok.2 _ (List.getElem_mem hl))
 | ifc _ ih =>
  intro u hu hok
  rw [Abs.frz] at hu
  split at hu<;>cases hu
  rename_i u' hu'
  rw [rQ] at hok
  exact .ifc (ih hu' hok)
 | @own0 n h1 h2 =>
  intro u hu hok
  rw [Abs.frz] at hu
  split at hu<;>cases hu
  simp only [List.drop_zero,List.take_zero]
  exact .fro0 (fun _=>rfl)
 | @own n i len b' h1 h2 h3 =>
  intro u hu hok
  rw [Abs.frz] at hu
  rw [rQ] at hok
  split at hu<;>cases hu
  rename_i T sz xs hbn
  rw [hbn] at hok
  obtain ⟨hok1,hok2⟩:=hok
  obtain ⟨_,g1,g2,g3,g4,g5⟩:=hr.st n _ (hb n _ hbn)
  have hlen:((xs.drop i).take len).length=len:=by simp;omega
  by_cases hl:len=0
  ·subst hl
   simp only [List.take_zero]
   exact .fro0 (fun h=>by cases h)
  ·rcases g5 with ⟨k1,k2,k3⟩|⟨b2,cur,k1,k2,k3,k4,k5,k6,k7⟩
   ·subst k2;simp at hok2;omega
   ·rw [h2] at k1;cases k1
    rw [g1]
    have hx:∀ (j:Nat) x,((xs.drop i).take len)[j]? = some x→xs[i+j]? = some x∧j<len:=fun j x hx=>by
     have hj:j<len:=by have:=(List.getElem?_eq_some_iff.1 hx).1;omega
     rw [List.getElem?_take_of_lt hj,List.getElem?_drop] at hx
     exact ⟨hx,hj⟩
    have hcell:∀ (j q:Nat) x u,((xs.drop i).take len)[j]? = some x→x.cells[q]? = some u→∃ c,cur[(i+j)*sz+q]? = some c∧Rep (fun b=>M b∨N b) A φ w u c:=fun j q x u h1 h2=>k7 (i+j) q x u (hx j x h1).1 h2
    have:=Fz.fro (X:=N) (w:=w) (xs:=(xs.drop i).take len) (b:=b') (o:=i*sz) (sz:=sz) (cap:=(φ n).cap-i) (fun j q=>(cur[(i+j)*sz+q]?).getD undef) (hr.dis b' k2) (hr.lim b' (.inl k2)) g2 (by omega) (by omega)
     (fun x hx'=>g4 x (List.mem_of_mem_drop (List.mem_of_mem_take hx'))) (fun j q x u h1 h2=>by
      obtain ⟨c,h3,_⟩:=hcell j q x u h1 h2
      rw [h3]
      have e:i*sz+j*sz+q=(i+j)*sz+q:=by rw [Nat.add_mul]
      rw [e]
      simp [World.cell?,k3,h3]) (fun j q x u h1 h2=>by
      obtain ⟨c,h3,h4⟩:=hcell j q x u h1 h2
      rw [h3]
      refine less (pK h4 ?_)
      have hn:=hok1 x (List.mem_of_getElem? (hx j x h1).1)
      cases x with
      | agg vs =>
       rw [V.names] at hn
       refine List.eq_nil_iff_forall_not_mem.2 fun m hm=>?_
       have h9:m∈V.bf vs:=aB.2 ⟨u,List.mem_of_getElem? h2,hm⟩
       rw [hn] at h9;cases h9
      | _=>simp only [V.cells,List.getElem?_singleton] at h2;split at h2<;>cases h2;exact hn)
    rw [hlen] at this
    exact this
 | @loc n i off b' h1 h2 =>
  intro u hu hok
  rw [Abs.frz] at hu
  rw [rQ] at hok
  split at hu<;>try (cases hu)
  rename_i T sz xs hbn
  rw [hbn] at hok
  simp only at hok
  split at hu<;>cases hu
  rename_i el hel
  rw [hel] at hok
  simp only at hok
  rw [dw] at hel
  obtain ⟨b2,k1,k2,k3,k4,k5,k6⟩:=GD hr (hb n _ hbn) hel
  rw [h2] at k1;cases k1
  rw [k2]
  refine .fp (fun j=>(w.cell? ⟨b',i*sz+j,none⟩).getD undef) (hr.dis b' k3) (hr.lim b' (.inl k3)) k5 (fun j u hu=>?_) (fun j u hu=>?_)
  ·obtain ⟨c,h3,_⟩:=k6 j u hu
   rw [h3];rfl
  ·obtain ⟨c,h3,h4⟩:=k6 j u hu
   rw [h3]
   exact less (pK h4 (hok u (List.mem_of_getElem? hu)))
 | mp=>intro u hu _;rw [Abs.frz] at hu;cases hu
def kG:List V→Nat→List (Nat × V)
 | [],_=>[]
 | v::r,n=>(n,v)::kG r (n+1)
def av (P:Program) (g:iI) (f:FuncId) (args:List V) (r:V):Prop :=
 ∀ (N:Nat→Prop) (w:World) (vs:Array Value),kC g N w→(∀ b,N b→b<w.heap.size)→args.length=vs.size→(∀ (i:Nat) v x,args[i]? = some v→vs[i]? = some x→Fz N w v x) →
  Calls P f vs w (fun e w'=>∃ x,e = .returned x∧Below w.heap.size w w'∧Fz N w' r x)
def aj (P:Program) (f:FuncId) (args:List V) (r:V):Prop:=∀ g,av P g f args r
def Kl (tb:List Ty) (s:S):ResultVar→Option V
 | .tmp t=>lk s.tm t
 | .cell t T=>match lk s.tm t,nth tb T with
  | some (.loc n i off),some e=>match s.blk n with
   | some (.els _ _ xs)=>match nth xs i with
    | some el=>lJ el.cells off e.agg e.size
    | none=>none
   | _=>none
  | some (.fp cs off),some e=>lJ cs off e.agg e.size
  | _,_=>none
def nG (tb:List Ty) (s:S):List ResultVar→Option (List V)
 | []=>some []
 | r::q=>match Kl tb s r,nG tb s q with
  | some v,some vs=>some (v::vs)
  | _,_=>none
def pack:List V→V
 | [v]=>v
 | vs=>.tup vs
structure Ends (tb:List Ty) (rs:List ResultVar) (s:S) (r:V):Prop where
 ex:∃ vs us,nG tb s rs=some vs∧j4 s.blk vs=some us∧jU s.blk vs∧pack us=r
def qO (tb:List Ty) (rs:List ResultVar) (r:V):Exit→S→Prop
 | .normal,s|.ret,s=>Ends tb rs s r
 | _,_=>False
theorem Tz {rv:ResultVar} {v:V} (htb:aL P tb) (hr:Rel N M A φ s a w) (h:Kl tb s rv=some v):∃ x,((match rv with
  | .tmp t=>pure (a.tmps.getD t undef)
  | .cell t T=>do loadVar T (← asAddr (a.tmps.getD t undef)):Sem Value)).run P w = .ok x w∧Rep (fun b=>M b∨N b) A φ w v x:=by
 cases rv with
 | tmp t=>exact ⟨_,rfl,(hr.tm t v h).2⟩
 | cell t T =>
  simp only [Kl] at h
  cases h1:lk s.tm t with
  | none=>rw [h1] at h;cases h
  | some p =>
   cases h2:nth tb T with
   | none=>rw [h1,h2] at h;cases p<;>cases h
   | some e =>
    rw [h1,h2] at h
    have hrep:=(hr.tm t p h1).2
    cases p with
    | loc n i off =>
     simp only at h
     cases h3:s.blk n with
     | none=>rw [h3] at h;cases h
     | some k =>
      rw [h3] at h
      cases k with
      | els T' sz xs =>
       simp only at h
       cases h4:nth xs i with
       | none=>rw [h4] at h;cases h
       | some el =>
        rw [h4] at h
        rw [dw] at h4
        obtain ⟨b,g1,g2⟩:=iX hrep
        obtain ⟨b',k1,k2,k3,k4,k5,k6⟩:=GD hr h3 h4
        rw [g1] at k1;cases k1
        rw [k2] at g2
        obtain ⟨x,q1,q2⟩:=Bb htb h2 k5 k6 h
        refine ⟨x,?_,q2⟩
        simp only [Sem.run_bind,g2,asAddr,Sem.run_pure,Result.andThen_ok]
        unfold Instr.loadAt Instr.sureAddr at q1
        simpa only [Sem.run_bind,Sem.run_pure,Result.andThen_ok] using q1
      | map es=>cases h
      | sit t p=>cases h
    | fp cs off =>
     simp only at h
     obtain ⟨b,o',g1,g2,g3,_⟩:=Tw hrep
     obtain ⟨x,q1,q2⟩:=Bb htb h2 g2 g3 h
     refine ⟨x,?_,q2⟩
     simp only [Sem.run_bind,g1,asAddr,Sem.run_pure,Result.andThen_ok]
     unfold Instr.loadAt Instr.sureAddr at q1
     simpa only [Sem.run_bind,Sem.run_pure,Result.andThen_ok] using q1
    | _=>cases h
theorem uJ (htb:aL P tb) (hr:Rel N M A φ s a w):∀ {rs:List ResultVar} {vs:List V},nG tb s rs=some vs→∃ xs:List Value,(rs.mapM fun
  | .tmp t=>pure (a.tmps.getD t undef)
  | .cell t T=>do loadVar T (← asAddr (a.tmps.getD t undef)):Sem (List Value)).run P w = .ok xs w∧vs.length=xs.length∧∀ (i:Nat) v x,vs[i]? = some v→xs[i]? = some x→Rep (fun b=>M b∨N b) A φ w v x
 | [],vs,h=>by rw [nG] at h;cases h;exact ⟨[],by simp,rfl,fun i v x h=>by simp at h⟩
 | rv::q,vs,h=>by
  rw [nG] at h
  cases h1:Kl tb s rv with
  | none=>rw [h1] at h;cases h
  | some v =>
   cases h2:nG tb s q with
   | none=>rw [h1,h2] at h;cases h
   | some us =>
    rw [h1,h2] at h;cases h
    obtain ⟨x,g1,g2⟩:=Tz htb hr h1
    obtain ⟨xs,g3,g4,g5⟩:=uJ htb hr h2
    refine ⟨x::xs,?_,by simp [g4],fun i y z hy hz=>?_⟩
    ·rw [List.mapM_cons]
     simp only [Sem.run_bind,g1,Result.andThen_ok,g3,Sem.run_pure]
    ·rcases i with _|i
     ·simp at hy hz;subst hy hz;exact g2
     ·exact g5 i y z (by simpa using hy) (by simpa using hz)
theorem GI:∀ (l:List V) (n t:Nat),lk (kG l n) t=if n≤t then l[t-n]? else none
 | [],n,t=>by simp [kG,lk]
 | v::r,n,t=>by
  rw [kG,bW,GI r (n+1) t]
  by_cases h:n=t
  ·subst h;simp
  ·rw [if_neg h]
   by_cases h2:n+1≤t
   ·rw [if_pos h2,if_pos (by omega)]
    rw [show t-n=(t-(n+1))+1 from by omega]
    simp
   ·rw [if_neg h2,if_neg (by omega)]
theorem BI {g:iI} {f:FuncId} {fn:Func} {c:Code} {r:V} (htb:aL P tb) (hf:P.funcs[f]? = some fn) (hb:fn.body=some c) (hn:Nat.ble args.length fn.ntmps=true) (h:∀ bl:Nat→Prop,AWp P ⟨⟨bl,g⟩,0,fun _=>⟨none,0,0⟩,[]⟩ c (qO tb fn.results.toList r) ⟨kG args 0,[],0,fn.ntmps⟩):av P g f args r:=fun N w vs hG hN hl hv=>by
 have hnt:args.length≤fn.ntmps:=Nat.le_of_ble_eq_true hn
 refine calls_of_wp hf hb (wp_mono (h N (fun _=>False) (fun _=>⟨none,0,0⟩) _ w ⟨fun t v ht=>?_,?_,fun n k hk=>?_,fun n n' k k' b hk=>?_,fun b hb=>?_,fun b hb=>hb.elim,rfl,fun n hn=>absurd hn (Nat.not_lt_zero n),hG.sub fun b hb=>hb.resolve_left id⟩) ?_)
 ·change lk (kG args 0) t=some v at ht
  rw [GI,if_pos (Nat.zero_le _),Nat.sub_zero] at ht
  have hlt:t<args.length:=(List.getElem?_eq_some_iff.1 ht).1
  refine ⟨Nat.lt_of_lt_of_le hlt hnt,.fz ?_⟩
  have hvt:vs[t]? = some vs[t]:=by simp [show t<vs.size by omega]
  have e:(vs++Array.replicate (fn.ntmps-vs.size) undef).getD t undef=vs[t]'(by omega):=by
   rw [Array.getD_eq_getD_getElem?,Array.getElem?_append_left (by omega),hvt];rfl
  rw [e]
  exact (hv t v _ ht hvt).mono (fun b _ h=>h.resolve_left id) (.refl _ w)
 ·simp;omega
 ·simp [S.blk,lk] at hk
 ·simp [S.blk,lk] at hk
 ·exact hN b (hb.resolve_left id)
 ·rintro e a' w' ⟨M',φ',s',h1,h2,h3,h4⟩
  have fin:Ends tb fn.results.toList s' r→a'.defers=[]∧∃ v,(results fn a'.tmps).run P w' = .ok v w'∧∃ x,Ending.returned v = .returned x∧Below w.heap.size w w'∧Fz N w' r x:=by
   rintro ⟨ws,us,g1,g2,g3,g4⟩
   obtain ⟨xs,k1,k2,k3⟩:=uJ htb h3 g1
   obtain ⟨l1,l2⟩:=ji g2
   have hbel:Below w.heap.size w w':=⟨h1.os,h1.tape,h1.output,h1.size,fun b hb=>h1.block b hb id⟩
   have hfz:∀ (i:Nat) u x,us[i]? = some u→xs[i]? = some x→Fz N w' u x:=fun i u x hu hx=>by
    have hil:i<ws.length:=by rw [l1];exact (List.getElem?_eq_some_iff.1 hu).1
    obtain ⟨u',m1,m2⟩:=l2 i ws[i] (List.getElem?_eq_getElem hil)
    rw [hu] at m1;cases m1
    exact h3.frz (fun _ _ h=>h) (k3 i ws[i] x (List.getElem?_eq_getElem hil) hx) m2 (jf g3 _ (List.getElem_mem hil))
   have hrun:(results fn a'.tmps).run P w' = .ok (if h:xs.toArray.size=1 then xs.toArray[0] else .tuple xs.toArray) w':=by
    unfold results
    rw [Array.mapM_eq_mapM_toList]
    have e:∀ (m:Sem (List Value)),m.run P w' = .ok xs w'→(List.toArray <$> m).run P w' = .ok xs.toArray w':=fun m hm=>by
     have:(List.toArray <$> m)=(m >>= fun l=>pure l.toArray):=rfl
     rw [this]
     simp only [Sem.run_bind,hm,Result.andThen_ok,Sem.run_pure]
    simp only [Sem.run_bind]
    erw [e _ k1]
    simp only [Result.andThen_ok,Sem.run_pure]
   refine ⟨h3.df,_,hrun,_,rfl,hbel,?_⟩
   subst g4
   match us,xs,l1,k2,hfz with
   | [u],[x],_,_,hfz=>exact hfz 0 u x rfl rfl
   | [],[],_,_,_=>exact .tup rfl (fun i v c h=>by simp at h)
   | u1::u2::us,x1::x2::xs,l1,k2,hfz=>exact .tup (by simp at l1 k2 ⊢;omega) (fun i v c hv hc=>hfz i v c hv (by simpa using hc))
   | [],_::_,l1,k2,_=>simp at l1 k2;simp [l1] at k2
   | _::_,[],l1,k2,_=>simp at l1 k2;simp [k2] at l1
   | [_],_::_::_,l1,k2,_=>simp at l1 k2;omega
   | _::_::_,[_],l1,k2,_=>simp at l1 k2;omega
  cases e with
  | normal=>exact fin h4
  | ret=>exact fin h4
  | _=>exact h4.elim
theorem R4 {f:FuncId} {fn:Func} {c:Code} {r:V} (htb:aL P tb) (hf:P.funcs[f]? = some fn) (hb:fn.body=some c) (hn:Nat.ble args.length fn.ntmps=true) (h:∀ b:Bg,AWp P ⟨b,0,fun _=>⟨none,0,0⟩,[]⟩ c (qO tb fn.results.toList r) ⟨kG args 0,[],0,fn.ntmps⟩):aj P f args r:=fun g=>BI htb hf hb hn fun bl=>h ⟨bl,g⟩
def dZ (P:Program) (f:FuncId):Bool:=match P.funcs[f]? with
 | some fn => fn.body.isSome && !(fn.name == "runtime.NumGoroutine")
 | none=>false
theorem enters {f:FuncId} (h:dZ P f=true):∀ (fs:Array Value) (w:World),(callFunc f fs).run P w = .ok (.enter f fs) w:=by
 unfold dZ at h
 cases hf:P.funcs[f]? with
 | none=>rw [hf] at h;cases h
 | some fn =>
  rw [hf] at h
  simp only [Bool.and_eq_true,Bool.not_eq_true'] at h
  obtain ⟨c,hc⟩:=Option.isSome_iff_exists.1 h.1
  exact Go.Proofs.enters_of hf h.2 hc
def jm:List Operand→List V→List (Operand × V)
 | x::r,v::q=>(x,v)::jm r q
 | _,_=>[]
theorem Ag {s:S}:∀ {xs:List Operand} {vs:List V} {ns:List (Nat × Blk)},Holds ⟨jm xs vs,ns⟩ s→∀ (i:Nat) x v,xs[i]? = some x→vs[i]? = some v→s.ev x=some v
 | [],_,_,_,_,_,_,h,_=>by simp at h
 | _::_,[],_,_,_,_,_,_,h=>by simp at h
 | x::r,v::q,ns,h,i,y,u,hy,hu=>by
  rcases i with _|i
  ·simp at hy hu;subst hy hu;exact h.1 (x,v) (by simp [jm])
  ·exact Ag (xs:=r) (vs:=q) (ns:=ns) ⟨fun p hp=>h.1 p (by simp [jm,hp]),h.2⟩ i y u (by simpa using hy) (by simpa using hu)
def vQ:V→Bool
 | .int _ _|.bool _|.str _|.nils|.nilp|.nilf|.nili|.nilm|.und=>true
 | _=>false
def DJ:V→Bool
 | .agg vs=>vs.all vQ
 | .tup vs=>vs.all fun v=>match v with
  | .agg us=>us.all vQ
  | v=>vQ v
 | v=>vQ v
theorem Bq {X X':Nat→Prop} {w:World} {v:V} (h:vQ v=true) (hf:Fz X w v x):Fz X' w v x:=by
 cases hf<;>first
  | (simp [vQ] at h;done)
  | exact .bool|exact .nils|exact .nilp|exact .nilf|exact .nili|exact .nilm|exact .und
  | (rename_i hs;exact .str hs)
  | (rename_i hs;exact .int hs)
theorem R7 {X X':Nat→Prop} {w:World} {v:V} (h:DJ v=true) (hf:Fz X w v x):Fz X' w v x:=by
 have agg:∀ {us:List V} {x:Value},us.all vQ=true→Fz X w (.agg us) x→Fz X' w (.agg us) x:=fun h hf=>by
  cases hf with
  | agg h1 h2 h3=>exact .agg h1 h2 fun i y c hy hc=>Bq (List.all_eq_true.1 h y (List.mem_of_getElem? hy)) (h3 i y c hy hc)
 unfold DJ at h
 split at h
 ·exact agg h hf
 ·cases hf with
  | tup h1 h2 =>
   refine .tup h1 fun i y c hy hc=>?_
   have:=List.all_eq_true.1 h y (List.mem_of_getElem? hy)
   split at this
   ·exact agg this (h2 i _ c hy hc)
   ·exact Bq this (h2 i _ c hy hc)
 ·exact Bq h hf
theorem wN {f:Nat} (ho:o.op = .call { callee:=.value (.func f),args:=xs,argTypes:=ts }) (hc:∀ (fs:Array Value) (w:World),(callFunc f fs).run P w = .ok (.enter f fs) w):(execOp a.eval o).run P w = .ok (.enter f (xs.map a.eval)) w:=by
 unfold execOp
 simp only [ho,resolve,Act.eval,Deferred.ofValue,Sem.run_bind,Sem.run_pure,Result.andThen_ok,invoke,Array.append_empty,Array.empty_append]
 exact hc _ _
theorem Dz {f:Nat} {r:V} (ho:o.op = .call { callee:=.value (.func f),args:=xs,argTypes:=ts }) (hc:∀ (fs:Array Value) (w:World),(callFunc f fs).run P w = .ok (.enter f fs) w) (hl:vs.length=xs.size) (h:av P N.g f vs r) (hn:V.bf vs=[]):aC P N o ⟨jm xs.toList vs,[]⟩ r [] []:=fun s M A φ a w hh hr _ hd=>by
 unfold Oper.wp
 rw [wN ho hc]
 refine Calls.mono (h (fun b=>M b∨N b) w (xs.map a.eval) hr.gl hr.lim (by simpa using hl) fun i v x hv hx=>?_) ?_
 ·simp only [Array.getElem?_map,Option.map_eq_some_iff] at hx
  obtain ⟨p,hp,rfl⟩:=hx
  refine pK (hr.ev (Ag hh i p v (by simpa using hp) hv)) (List.eq_nil_iff_forall_not_mem.2 fun m hm=>?_)
  have:=aB.2 ⟨v,List.mem_of_getElem? hv,hm⟩
  rw [hn] at this;cases this
 ·rintro e w' ⟨x,rfl,hb,hfz⟩
  exact gL hr hb (.fz hfz) hd
theorem wX {f:Nat} {us:List V} {r:V} (ns:List (Nat × Blk)) (ho:o.op = .call { callee:=.value (.func f),args:=xs,argTypes:=ts }) (hc:∀ (fs:Array Value) (w:World),(callFunc f fs).run P w = .ok (.enter f fs) w) (hl:vs.length=xs.size) (hf:j4 (lk ns) vs=some us) (hok:jU (lk ns) vs) (h:av P N.g f us r) (hp:DJ r=true):aC P N o ⟨jm xs.toList vs,ns⟩ r [] []:=fun s M A φ a w hh hr _ hd=>by
 unfold Oper.wp
 rw [wN ho hc]
 obtain ⟨l1,l2⟩:=ji hf
 refine Calls.mono (h N w (xs.map a.eval) (hr.gl.sub fun b hb=>.inr hb) (fun b hb=>hr.lim b (.inr hb)) (by rw [← l1];simpa using hl) fun i u x hu hx=>?_) ?_
 ·simp only [Array.getElem?_map,Option.map_eq_some_iff] at hx
  obtain ⟨p,hp,rfl⟩:=hx
  have hil:i<vs.length:=by rw [l1];exact (List.getElem?_eq_some_iff.1 hu).1
  obtain ⟨u',m1,m2⟩:=l2 i vs[i] (List.getElem?_eq_getElem hil)
  rw [hu] at m1;cases m1
  exact hr.frz (fun n k hk=>hh.2 (n,k) (yZ hk)) (hr.ev (Ag hh i p vs[i] (by simpa using hp) (List.getElem?_eq_getElem hil))) m2 (jf hok _ (List.getElem_mem hil))
 ·rintro e w' ⟨x,rfl,hb,hfz⟩
  exact gL hr hb (.fz (R7 hp hfz)) hd
theorem Gq {f:Nat} {cs ds:Array Value} (ho:o.op = .call { callee:=.value g,args:=xs,argTypes:=ts }) (hg:a.eval g = .func (.func f) cs ds) (hc:∀ (fs:Array Value) (w:World),(callFunc f fs).run P w = .ok (.enter f fs) w):(execOp a.eval o).run P w = .ok (.enter f (cs++xs.map a.eval++ds)) w:=by
 unfold execOp
 simp only [ho,resolve,hg,Deferred.ofValue,Sem.run_bind,Sem.run_pure,Result.andThen_ok,invoke]
 exact hc _ _
theorem UZ {f:Fn} (h:Rep X A φ w (.fn f fs bs) x):∃ cs ds,x = .func f cs ds∧fs.length=cs.size∧bs.length=ds.size∧(∀ (i:Nat) v c,fs[i]? = some v→cs[i]? = some c→Rep X A φ w v c)∧(∀ (i:Nat) v c,bs[i]? = some v→ds[i]? = some c→Rep X A φ w v c):=by
 cases h with
 | fz h=>cases h with
  | fn h1 h2 h3 h4=>exact ⟨_,_,rfl,h1,h2,fun i v c hv hc=>.fz (h3 i v c hv hc),fun i v c hv hc=>.fz (h4 i v c hv hc)⟩
 | fn h1 h2 h3 h4=>exact ⟨_,_,rfl,h1,h2,h3,h4⟩
theorem Jv {α β:Type} {R:α→β→Prop} {a b c:List α} {d e g:Array β} (h1:a.length=d.size) (h2:b.length=e.size) (k1:∀ (i:Nat) v x,a[i]? = some v→d[i]? = some x→R v x) (k2:∀ (i:Nat) v x,b[i]? = some v→e[i]? = some x→R v x) (k3:∀ (i:Nat) v x,c[i]? = some v→g[i]? = some x→R v x) :
  ∀ (i:Nat) v x,(a++b++c)[i]? = some v→(d++e++g)[i]? = some x→R v x:=fun i v x hv hx=>by
 by_cases i1:i<a.length
 ·rw [List.append_assoc,List.getElem?_append_left i1] at hv
  rw [Array.append_assoc,Array.getElem?_append_left (by omega)] at hx
  exact k1 i v x hv hx
 ·by_cases i2:i<a.length+b.length
  ·rw [List.getElem?_append_left (by simp;omega),List.getElem?_append_right (by omega)] at hv
   rw [Array.getElem?_append_left (by simp;omega),Array.getElem?_append_right (by omega)] at hx
   rw [h1] at hv
   exact k2 _ v x hv hx
  ·rw [List.getElem?_append_right (by simp;omega)] at hv
   rw [Array.getElem?_append_right (by simp;omega)] at hx
   rw [List.length_append,h1,h2] at hv
   rw [Array.size_append] at hx
   exact k3 _ v x hv hx
theorem yG {f:Nat} {r:V} (ho:o.op = .call { callee:=.value g,args:=xs,argTypes:=ts }) (hc:∀ (fs:Array Value) (w:World),(callFunc f fs).run P w = .ok (.enter f fs) w) (hl:vs.length=xs.size) (h:av P N.g f (fs++vs++bs) r) (hn:V.bf (fs++vs++bs)=[]):aC P N o ⟨(g,.fn (.func f) fs bs)::jm xs.toList vs,[]⟩ r [] []:=fun s M A φ a w hh hr _ hd=>by
 obtain ⟨cs,ds,g1,g2,g3,g4,g5⟩:=UZ (hr.ev hh.a)
 have hh':Holds ⟨jm xs.toList vs,[]⟩ s:=⟨fun p hp=>hh.1 p (List.mem_cons_of_mem _ hp),hh.2⟩
 unfold Oper.wp
 rw [Gq ho g1 hc]
 refine Calls.mono (h (fun b=>M b∨N b) w _ hr.gl hr.lim (by simp;omega) fun i v x hv hx=>pK (Jv (R:=Rep (fun b=>M b∨N b) A φ w) g2 (by simpa using hl) g4 (fun i v x hv hx=>?_) g5 i v x hv hx) (List.eq_nil_iff_forall_not_mem.2 fun m hm=>?_)) ?_
 ·simp only [Array.getElem?_map,Option.map_eq_some_iff] at hx
  obtain ⟨p,hp,rfl⟩:=hx
  exact hr.ev (Ag hh' i p v (by simpa using hp) hv)
 ·have:=aB.2 ⟨v,List.mem_of_getElem? hv,hm⟩
  rw [hn] at this;cases this
 ·rintro e w' ⟨x,rfl,hb,hfz⟩
  exact gL hr hb (.fz hfz) hd
end
end Abs
namespace Abs
open Go.RowKit Mem Facts
section
variable {P:Program} {N:Env} {l r:List Oper} {o:Oper} {tm:List (Nat × V)} {st:List (Nat × Option Blk)} {nx nt:Nat} {tr:List Tr} {K:S→List Tr→Prop} {fp:Fp} {v:V} {s:S} {tb:List Ty}
variable {ns:List (Nat × Blk)} {ts:List (Operand × V)} {d n id ν:Nat} {b:Blk} {Q:Exit→S→Prop}
theorem h0:Holds ⟨[],[]⟩ s:=⟨fun p h=>by simp at h,fun p h=>by simp at h⟩
theorem hT {x:Operand} {v:V} (h:s.ev x=some v) (k:Holds ⟨ts,ns⟩ s):Holds ⟨(x,v)::ts,ns⟩ s:=⟨fun p hp=>by
 rcases List.mem_cons.1 hp with rfl|hp
 ·exact h
 ·exact k.1 p hp,k.2⟩
theorem hN (h:s.blk n=some b) (k:Holds ⟨ts,ns⟩ s):Holds ⟨ts,(n,b)::ns⟩ s:=⟨k.1,fun p hp=>by
 rcases List.mem_cons.1 hp with rfl|hp
 ·exact h
 ·exact k.2 p hp⟩
theorem kV {a b:Nat} (h:Nat.blt a b=true):a<b:=by simpa using h
theorem aJ (hg:ax l o ⟨tm,st,nx,nt⟩=some true) (hd:o.dst=some d) (hlt:Nat.blt d nt=true) (law:aC P N o fp v [] []) (hh:Holds fp ⟨tm,st,nx,nt⟩) (k:ay P N l K r ⟨(d,v)::tm,st,nx,nt⟩ (tr++[aH l o fp []])):ay P N l K (o::r) ⟨tm,st,nx,nt⟩ tr :=
 .on fp v [] [] nx hg law hh ⟨Nat.le_refl _,fun n h=>by simp at h⟩ (fun d' h=>by rw [hd] at h;cases h;exact kV hlt) (by
  have e:S.eff ⟨tm,st,nx,nt⟩ o.dst v [] nx=⟨(d,v)::tm,st,nx,nt⟩:=by rw [hd];rfl
  rw [e];exact k)
theorem FB (hν:ν=nx) (hg:ax l o ⟨tm,st,nx,nt⟩=some true) (hd:o.dst=some d) (hlt:Nat.blt d nt=true) (law:aC P N o fp v [(ν,some b)] [ν]) (hh:Holds fp ⟨tm,st,nx,nt⟩) (k:ay P N l K r ⟨(d,v)::tm,(ν,some b)::st,nx+1,nt⟩ (tr++[aH l o fp [(ν,some b)]])):ay P N l K (o::r) ⟨tm,st,nx,nt⟩ tr :=
 .on fp v [(ν,some b)] [ν] (nx+1) hg law hh ⟨Nat.le_succ _,fun n h=>by rw [List.mem_singleton] at h;show nx≤n∧n<nx+1;omega⟩ (fun d' h=>by rw [hd] at h;cases h;exact kV hlt) (by
  have e:S.eff ⟨tm,st,nx,nt⟩ o.dst v [(ν,some b)] (nx+1)=⟨(d,v)::tm,(ν,some b)::st,nx+1,nt⟩:=by rw [hd];rfl
  rw [e];exact k)
theorem Mw (hν:ν=nx) (hg:ax l o ⟨tm,st,nx,nt⟩=some true) (hd:o.dst=some d) (hlt:Nat.blt d nt=true) (law:aC P N o fp v [(n,none),(ν,some b)] [ν]) (hh:Holds fp ⟨tm,st,nx,nt⟩) (k:ay P N l K r ⟨(d,v)::tm,(n,none)::(ν,some b)::st,nx+1,nt⟩ (tr++[aH l o fp [(n,none),(ν,some b)]])):ay P N l K (o::r) ⟨tm,st,nx,nt⟩ tr :=
 .on fp v [(n,none),(ν,some b)] [ν] (nx+1) hg law hh ⟨Nat.le_succ _,fun n h=>by rw [List.mem_singleton] at h;show nx≤n∧n<nx+1;omega⟩ (fun d' h=>by rw [hd] at h;cases h;exact kV hlt) (by
  have e:S.eff ⟨tm,st,nx,nt⟩ o.dst v [(n,none),(ν,some b)] (nx+1)=⟨(d,v)::tm,(n,none)::(ν,some b)::st,nx+1,nt⟩:=by rw [hd];rfl
  rw [e];exact k)
theorem BD (hg:ax l o ⟨tm,st,nx,nt⟩=some true) (hd:o.dst=none) (law:aC P N o fp v [(n,some b)] []) (hh:Holds fp ⟨tm,st,nx,nt⟩) (k:ay P N l K r ⟨tm,(n,some b)::st,nx,nt⟩ (tr++[aH l o fp [(n,some b)]])):ay P N l K (o::r) ⟨tm,st,nx,nt⟩ tr :=
 .on fp v [(n,some b)] [] nx hg law hh ⟨Nat.le_refl _,fun n h=>by simp at h⟩ (fun d' h=>by rw [hd] at h;cases h) (by
  have e:S.eff ⟨tm,st,nx,nt⟩ o.dst v [(n,some b)] nx=⟨tm,(n,some b)::st,nx,nt⟩:=by rw [hd];rfl
  rw [e];exact k)
theorem acZ (hg:ax l o ⟨tm,st,nx,nt⟩=some false) (hd:o.dst=some d) (hlt:Nat.blt d nt=true) (k:ay P N l K r ⟨(d,.und)::tm,st,nx,nt⟩ (tr++[aH l o ⟨[],[]⟩ []])):ay P N l K (o::r) ⟨tm,st,nx,nt⟩ tr :=
 .off hg (fun d' h=>by rw [hd] at h;cases h;exact kV hlt) (by
  have e:S.eff ⟨tm,st,nx,nt⟩ o.dst .und [] nx=⟨(d,.und)::tm,st,nx,nt⟩:=by rw [hd];rfl
  rw [e];exact k)
theorem abA (hg:ax l o ⟨tm,st,nx,nt⟩=some false) (hd:o.dst=none) (k:ay P N l K r ⟨tm,st,nx,nt⟩ (tr++[aH l o ⟨[],[]⟩ []])):ay P N l K (o::r) ⟨tm,st,nx,nt⟩ tr :=
 .off hg (fun d' h=>by rw [hd] at h;cases h) (by
  have e:S.eff ⟨tm,st,nx,nt⟩ o.dst .und [] nx=⟨tm,st,nx,nt⟩:=by rw [hd];rfl
  rw [e];exact k)
theorem qJ (h:Q .normal s):ay P N l (fun s _=>Q .normal s) [] s tr:=.nil h
theorem kX (hc:check l tr=true) (h:Q .normal s):ay P N l (fun s tr=>check l tr=true∧Q .normal s) [] s tr:=.nil ⟨hc,h⟩
theorem mE {y:Code} (h:AWp P N y Q s):lg (AWp P N y Q) Q .normal s:=h
theorem fM {K:S→Prop} (h:Q (.exit id) s):lg K Q (.exit id) s:=h
theorem iC {K:S→Prop} (h:Q .ret s):lg K Q .ret s:=h
theorem tJ (h:Q .normal s):vP id Q .normal s:=h
theorem jo (h:Q .ret s):vP id Q .ret s:=h
theorem iA (h:Q .normal s):vP id Q (.exit id) s:=by show (if id=id then Q .normal s else Q (.exit id) s);rw [if_pos rfl];exact h
theorem gZ {id':Nat} (hne:Nat.beq id' id=false) (h:Q (.exit id') s):vP id Q (.exit id') s:=by show (if id'=id then Q .normal s else Q (.exit id') s);rw [if_neg (fun e=>by rw [e] at hne;simp at hne)];exact h
theorem wrap64 {n:Int} (h1 : -9223372036854775808≤n) (h2:n≤9223372036854775807):IntKind.i64.wrap n=n:=by
 have:=IntWalk.i64_in n
 exact this ⟨h1,h2⟩
variable {f:FuncId} {fn:Func} {c:Code} {rs:List ResultVar} {w:V}
variable {b:V}
theorem AX {args:List V} (htb:aL P tb) (hf:P.funcs[f]? = some fn) (hb:fn.body=some c) (hnt:fn.ntmps=nt) (hrs:fn.results=rs.toArray) (hn:Nat.ble args.length nt=true) (h:∀ bg:Bg,AWp P ⟨bg,0,fun _=>⟨none,0,0⟩,[]⟩ c (qO tb rs w) ⟨kG args 0,[],0,nt⟩):aj P f args w :=
 R4 htb hf hb (by rw [hnt];exact hn) fun bg=>by rw [hnt,hrs];exact h bg
theorem SN (htb:aL P tb) (hf:P.funcs[f]? = some fn) (hb:fn.body=some c) (hnt:fn.ntmps=nt) (hrs:fn.results=rs.toArray) (h:∀ bg:Bg,AWp P ⟨bg,0,fun _=>⟨none,0,0⟩,[]⟩ c (qO tb rs w) ⟨[],[],0,nt⟩):aj P f [] w:=AX htb hf hb hnt hrs (by cases nt<;>rfl) h
theorem aU {a:V} (htb:aL P tb) (hf:P.funcs[f]? = some fn) (hb:fn.body=some c) (hnt:fn.ntmps=nt) (hrs:fn.results=rs.toArray) (hn:Nat.ble 1 nt=true) (h:∀ bg:Bg,AWp P ⟨bg,0,fun _=>⟨none,0,0⟩,[]⟩ c (qO tb rs w) ⟨[(0,a)],[],0,nt⟩):aj P f [a] w:=AX htb hf hb hnt hrs hn h
theorem aW {a:V} (htb:aL P tb) (hf:P.funcs[f]? = some fn) (hb:fn.body=some c) (hnt:fn.ntmps=nt) (hrs:fn.results=rs.toArray) (hn:Nat.ble 2 nt=true) (h:∀ bg:Bg,AWp P ⟨bg,0,fun _=>⟨none,0,0⟩,[]⟩ c (qO tb rs w) ⟨[(0,a),(1,b)],[],0,nt⟩):aj P f [a,b] w:=AX htb hf hb hnt hrs hn h
theorem vS {a d:V} (htb:aL P tb) (hf:P.funcs[f]? = some fn) (hb:fn.body=some c) (hnt:fn.ntmps=nt) (hrs:fn.results=rs.toArray) (hn:Nat.ble 3 nt=true) (h:∀ bg:Bg,AWp P ⟨bg,0,fun _=>⟨none,0,0⟩,[]⟩ c (qO tb rs w) ⟨[(0,a),(1,b),(2,d)],[],0,nt⟩):aj P f [a,b,d] w:=AX htb hf hb hnt hrs hn h
variable {gl:iI}
variable {d b:V}
theorem rR {args:List V} (htb:aL P tb) (hf:P.funcs[f]? = some fn) (hb:fn.body=some c) (hnt:fn.ntmps=nt) (hrs:fn.results=rs.toArray) (hn:Nat.ble args.length nt=true) (h:∀ bl:Nat→Prop,AWp P ⟨⟨bl,gl⟩,0,fun _=>⟨none,0,0⟩,[]⟩ c (qO tb rs w) ⟨kG args 0,[],0,nt⟩):av P gl f args w :=
 BI htb hf hb (by rw [hnt];exact hn) fun bl=>by rw [hnt,hrs];exact h bl
theorem adz (htb:aL P tb) (hf:P.funcs[f]? = some fn) (hb:fn.body=some c) (hnt:fn.ntmps=nt) (hrs:fn.results=rs.toArray) (h:∀ bl:Nat→Prop,AWp P ⟨⟨bl,gl⟩,0,fun _=>⟨none,0,0⟩,[]⟩ c (qO tb rs w) ⟨[],[],0,nt⟩):av P gl f [] w:=rR htb hf hb hnt hrs (by cases nt<;>rfl) h
theorem lZ {a:V} (htb:aL P tb) (hf:P.funcs[f]? = some fn) (hb:fn.body=some c) (hnt:fn.ntmps=nt) (hrs:fn.results=rs.toArray) (hn:Nat.ble 1 nt=true) (h:∀ bl:Nat→Prop,AWp P ⟨⟨bl,gl⟩,0,fun _=>⟨none,0,0⟩,[]⟩ c (qO tb rs w) ⟨[(0,a)],[],0,nt⟩):av P gl f [a] w:=rR htb hf hb hnt hrs hn h
theorem gQ {a:V} (htb:aL P tb) (hf:P.funcs[f]? = some fn) (hb:fn.body=some c) (hnt:fn.ntmps=nt) (hrs:fn.results=rs.toArray) (hn:Nat.ble 2 nt=true) (h:∀ bl:Nat→Prop,AWp P ⟨⟨bl,gl⟩,0,fun _=>⟨none,0,0⟩,[]⟩ c (qO tb rs w) ⟨[(0,a),(1,b)],[],0,nt⟩):av P gl f [a,b] w:=rR htb hf hb hnt hrs hn h
theorem K8 {a:V} (htb:aL P tb) (hf:P.funcs[f]? = some fn) (hb:fn.body=some c) (hnt:fn.ntmps=nt) (hrs:fn.results=rs.toArray) (hn:Nat.ble 3 nt=true) (h:∀ bl:Nat→Prop,AWp P ⟨⟨bl,gl⟩,0,fun _=>⟨none,0,0⟩,[]⟩ c (qO tb rs w) ⟨[(0,a),(1,b),(2,d)],[],0,nt⟩):av P gl f [a,b,d] w:=rR htb hf hb hnt hrs hn h
theorem KX {a e:V} (htb:aL P tb) (hf:P.funcs[f]? = some fn) (hb:fn.body=some c) (hnt:fn.ntmps=nt) (hrs:fn.results=rs.toArray) (hn:Nat.ble 4 nt=true) (h:∀ bl:Nat→Prop,AWp P ⟨⟨bl,gl⟩,0,fun _=>⟨none,0,0⟩,[]⟩ c (qO tb rs w) ⟨[(0,a),(1,b),(2,d),(3,e)],[],0,nt⟩):av P gl f [a,b,d,e] w:=rR htb hf hb hnt hrs hn h
end
mutual
def V.Lim:V→Prop
 | .str s=>s.size≤dY
 | .int k n=>InR k n
 | .fro xs=>xs.length≤LIM∧qR xs
 | .fp cs _=>qR cs
 | .agg vs=>qR vs
 | .tup vs=>qR vs
 | _=>True
def V.qR:List V→Prop
 | []=>True
 | v::r=>v.Lim∧qR r
end
variable {args:List V}
theorem mg:∀ {l:List V},V.qR l↔∀ v∈l,v.Lim
 | []=>by simp [V.qR]
 | v::r=>by simp [V.qR,mg (l:=r)]
theorem Fz.lim {X:Nat→Prop} {w:World} {v:V} {x:Value} (h:Fz X w v x):v.Lim:=by
 induction h with
 | str h=>exact h
 | int h=>exact h
 | @agg vs cs h1 h2 h3 ih =>
  rw [V.Lim,mg]
  intro v hv
  obtain ⟨i,hi⟩:=List.mem_iff_getElem?.1 hv
  have hl:i<cs.size:=by rw [← h1];exact (List.getElem?_eq_some_iff.1 hi).1
  exact ih i v cs[i] hi (by simp [hl])
 | @tup vs cs h1 h3 ih =>
  rw [V.Lim,mg]
  intro v hv
  obtain ⟨i,hi⟩:=List.mem_iff_getElem?.1 hv
  have hl:i<cs.size:=by rw [← h1];exact (List.getElem?_eq_some_iff.1 hi).1
  exact ih i v cs[i] hi (by simp [hl])
 | fro0 h=>rw [V.Lim];exact ⟨by simp [LIM],trivial⟩
 | @fro xs b o sz cap c h1 h2 h3 h4 h5 h6 h7 h8 ih =>
  rw [V.Lim,mg]
  refine ⟨h5,fun x hx=>?_⟩
  obtain ⟨i,hi⟩:=List.mem_iff_getElem?.1 hx
  have key:∀ u∈x.cells,u.Lim:=fun u hu=>by
   obtain ⟨j,hj⟩:=List.mem_iff_getElem?.1 hu
   exact ih i j x u hi hj
  cases x with
  | agg vs=>rw [V.Lim,mg];exact key
  | _=>exact key _ (by simp [V.cells])
 | @fp cs b o off c h1 h2 h3 h4 h5 ih =>
  rw [V.Lim,mg]
  intro v hv
  obtain ⟨i,hi⟩:=List.mem_iff_getElem?.1 hv
  exact ih i v hi
 | _=>simp [V.Lim]
theorem av.lim {P:Program} {g:iI} {f:FuncId} {r:V} (h:V.qR args→av P g f args r):av P g f args r:=fun N w vs hG hN hl hv=>h (mg.2 fun v hv'=>by
 obtain ⟨i,hi⟩:=List.mem_iff_getElem?.1 hv'
 have hil:i<vs.size:=by rw [← hl];exact (List.getElem?_eq_some_iff.1 hi).1
 exact (hv i v vs[i] hi (by simp [hil])).lim) N w vs hG hN hl hv
theorem aj.lim {P:Program} {f:FuncId} {r:V} (h:V.qR args→aj P f args r):aj P f args r:=fun g=>av.lim fun hl=>h hl g
end Abs
namespace Abs
open Go.RowKit Mem Facts
theorem aaX {k:IntKind} {n:Int}:(Lit.int k n).wf=true↔InR k n:=by
 simp only [Lit.wf,Bool.and_eq_true,decide_eq_true_eq,InR]
 have h1:(rng k).1=k.min:=by cases k<;>rfl
 have h2:(rng k).2=k.max:=by cases k<;>rfl
 rw [h1,h2]
section
variable {X:Nat→Prop} {w:World}
variable {α:Type} {L:List α} {x:Value} {g:α→Value}
theorem abM {vs:List V} (h:Fz X w (.agg vs) x):∃ cs,x = .agg cs∧vs.length=cs.size∧∀ (i:Nat) v c,vs[i]? = some v→cs[i]? = some c→Fz X w v c:=by
 cases h with
 | agg h1 h2 h3=>exact ⟨_,rfl,h1,h3⟩
theorem kS {k:IntKind} {n:Int} (h:Fz X w (.int k n) x):x = .int k n∧InR k n:=by cases h with|int h=>exact ⟨rfl,h⟩
theorem Pn {b:Bool} (h:Fz X w (.bool b) x):x = .bool b:=by cases h;rfl
theorem iJ {s:ByteArray} (h:Fz X w (.str s) x):x = .string s∧s.size≤dY:=by cases h with|str h=>exact ⟨rfl,h⟩
theorem WA {f:α→V} {b o cap:Nat} (hc:∀ y,(f y).cells=[f y]) (h1:∀ y,(f y).one=true) (hf:∀ y∈L,Fz X w (f y) (g y)) (hX:¬ X b) (hb:b<w.heap.size) (hcap:L.length≤cap) (hl:L.length≤LIM) (hr:∀ j (hj:j<L.length),w.cell? ⟨b,o+j,none⟩=some (g L[j])):Fz X w (.fro (L.map f)) (.slice (some ⟨b,o,none⟩) L.length cap):=by
 have:=Fz.fro (X:=X) (w:=w) (xs:=L.map f) (b:=b) (o:=o) (sz:=1) (cap:=cap) (fun i _=>((L[i]?).map g).getD undef) hX hb (by decide) (by simpa using hcap) (by simpa using hl) (fun x hx=>by
  obtain ⟨y,_,rfl⟩:=List.mem_map.1 hx
  rw [hc]
  exact ⟨rfl,fun u hu=>by rw [List.mem_singleton] at hu;subst hu;exact h1 y⟩) (fun i j x u hx hu=>by
  rw [List.getElem?_map,Option.map_eq_some_iff] at hx
  obtain ⟨y,hy,rfl⟩:=hx
  rw [hc] at hu
  obtain ⟨hi,rfl⟩:=List.getElem?_eq_some_iff.1 hy
  have hj:j=0:=by
   rcases j with _|j
   ·rfl
   ·simp at hu
  subst hj
  rw [Nat.mul_one,Nat.add_zero,hr i hi]
  simp [hi]) (fun i j x u hx hu=>by
  rw [List.getElem?_map,Option.map_eq_some_iff] at hx
  obtain ⟨y,hy,rfl⟩:=hx
  rw [hc] at hu
  have hu:u=f y:=by
   rcases j with _|j
   ·simp at hu;exact hu.symm
   ·simp at hu
  subst hu
  rw [hy]
  exact hf y (List.mem_of_getElem? hy))
 simpa using this
theorem Yf {f:α→V} {base T:Nat} {v:Value} (hc:∀ y,(f y).cells=[f y]) (h1:∀ y,(f y).one=true) (hf:∀ y∈L,Fz X w (f y) (g y)) (hX:∀ b,X b→b<base) (hl:L.length≤LIM) (h:w.ownsRow base T 1 v L.length (L.map g)):Fz X w (.fro (L.map f)) v:=by
 obtain ⟨hlen,⟨rfl,h2⟩|⟨b,cap,cur,rfl,hb,hg,hn,_,_,ht⟩⟩:=h
 ·have:L=[]:=by simpa using h2
  subst this
  exact .fro0 (fun _=>rfl)
 ·refine WA hc h1 hf (fun h=>by have:=hX b h;omega) (block_lt hg) hn hl fun j hj=>?_
  have:(cur.toList.take (L.length*1))[j]? = some (g L[j]):=by rw [ht];simp [hj]
  rw [List.getElem?_take_of_lt (by omega)] at this
  simp [World.cell?,hg] at this ⊢
  exact this
end
end Abs
namespace Abs
open Go.RowKit Mem Facts
def nm (ns:List Nat) (n:Nat):Nat:=match nth ns n with
 | some m=>m
 | none=>0
mutual
def nW (ns:List Nat):V→Option V
 | .own n i l=>match nth ns n with
  | some m=>some (.own m i l)
  | none=>none
 | .loc n i o=>match nth ns n with
  | some m=>some (.loc m i o)
  | none=>none
 | .mp n=>match nth ns n with
  | some m=>some (.mp m)
  | none=>none
 | .agg vs=>match jM ns vs with
  | some us=>some (.agg us)
  | none=>none
 | .tup vs=>match jM ns vs with
  | some us=>some (.tup us)
  | none=>none
 | .fn f a b=>match jM ns a,jM ns b with
  | some x,some y=>some (.fn f x y)
  | _,_=>none
 | .ifc t v=>match nW ns v with
  | some u=>some (.ifc t u)
  | none=>none
 | v=>some v
def jM (ns:List Nat):List V→Option (List V)
 | []=>some []
 | v::r=>match nW ns v,jM ns r with
  | some u,some us=>some (u::us)
  | _,_=>none
end
theorem lu {ns:List Nat} {n m:Nat} (h:nth ns n=some m):nm ns n=m∧n<ns.length:=by
 refine ⟨by unfold nm;rw [h],?_⟩
 rw [dw] at h
 exact (List.getElem?_eq_some_iff.1 h).1
mutual
theorem sG {ns:List Nat}:∀ {v u:V},nW ns v=some u→u=v.ren (nm ns)∧∀ n∈v.names,n<ns.length
 | .own n i l,u,h=>by
  rw [nW] at h
  split at h<;>cases h
  rename_i m hm
  obtain ⟨h1,h2⟩:=lu hm
  exact ⟨by rw [V.ren,h1],fun n hn=>by simp [V.names] at hn;subst hn;exact h2⟩
 | .loc n i l,u,h=>by
  rw [nW] at h
  split at h<;>cases h
  rename_i m hm
  obtain ⟨h1,h2⟩:=lu hm
  exact ⟨by rw [V.ren,h1],fun n hn=>by simp [V.names] at hn;subst hn;exact h2⟩
 | .mp n,u,h=>by
  rw [nW] at h
  split at h<;>cases h
  rename_i m hm
  obtain ⟨h1,h2⟩:=lu hm
  exact ⟨by rw [V.ren,h1],fun n hn=>by simp [V.names] at hn;subst hn;exact h2⟩
 | .agg vs,u,h=>by
  rw [nW] at h
  split at h<;>cases h
  rename_i us hus
  obtain ⟨h1,h2⟩:=ic hus
  exact ⟨by rw [V.ren,h1],fun n hn=>h2 n (by rw [V.names] at hn;exact hn)⟩
 | .tup vs,u,h=>by
  rw [nW] at h
  split at h<;>cases h
  rename_i us hus
  obtain ⟨h1,h2⟩:=ic hus
  exact ⟨by rw [V.ren,h1],fun n hn=>h2 n (by rw [V.names] at hn;exact hn)⟩
 | .fn f a b,u,h=>by
  rw [nW] at h
  split at h<;>cases h
  rename_i x y hx hy
  obtain ⟨h1,h2⟩:=ic hx
  obtain ⟨h3,h4⟩:=ic hy
  refine ⟨by rw [V.ren,h1,h3],fun n hn=>?_⟩
  rw [V.names,List.mem_append] at hn
  exact hn.elim (h2 n) (h4 n)
 | .ifc t v,u,h=>by
  rw [nW] at h
  split at h<;>cases h
  rename_i us hus
  obtain ⟨h1,h2⟩:=sG hus
  exact ⟨by rw [V.ren,h1],fun n hn=>h2 n (by rw [V.names] at hn;exact hn)⟩
 | .int _ _,u,h|.bool _,u,h|.str _,u,h|.fro _,u,h|.nils,u,h|.fp _ _,u,h|.nilp,u,h|.nilf,u,h|.nili,u,h|.nilm,u,h|.und,u,h=>by
  have e:u=_:=(Option.some.inj (show some _=some u from h)).symm
  subst e
  exact ⟨rfl,fun n hn=>by cases hn⟩
theorem ic {ns:List Nat}:∀ {vs us:List V},jM ns vs=some us→us=V.wh (nm ns) vs∧∀ n∈V.bf vs,n<ns.length
 | [],us,h=>by rw [jM] at h;cases h;exact ⟨rfl,fun n hn=>by simp [V.bf] at hn⟩
 | v::r,us,h=>by
  rw [jM] at h
  split at h<;>cases h
  rename_i x y hx hy
  obtain ⟨h1,h2⟩:=sG hx
  obtain ⟨h3,h4⟩:=ic hy
  refine ⟨by rw [V.wh,h1,h3],fun n hn=>?_⟩
  rw [V.bf,List.mem_append] at hn
  exact hn.elim (h2 n) (h4 n)
end
variable {ns:List Nat}
inductive cO (ns:List Nat):Blk→Blk→Prop
 | same {T sz xs}:V.bf xs=[]→cO ns (.els T sz xs) (.els T sz xs)
 | ren {T sz xs us}:jM ns xs=some us→cO ns (.els T sz xs) (.els T sz us)
 | map {es}:(∀ p∈es,p.2.names=[])→cO ns (.map es) (.map es)
 | sit {s p}:cO ns (.sit s p) (.sit s p)
inductive gJ (ns:List Nat):List Blk→List Blk→Prop
 | nil:gJ ns [] []
 | cons {b c l r}:cO ns b c→gJ ns l r→gJ ns (b::l) (c::r)
inductive dU (ns:List Nat):List (Option Blk)→List (Option Blk)→Prop
 | nil:dU ns [] []
 | no {l r}:dU ns l r→dU ns (none::l) (none::r)
 | on {b c l r}:cO ns b c→dU ns l r→dU ns (some b::l) (some c::r)
theorem gJ.len {l r:List Blk} (h:gJ ns l r):l.length=r.length:=by
 induction h with
 | nil=>rfl
 | cons _ _ ih=>simp [ih]
theorem gJ.at {ns:List Nat} {l r:List Blk} (h:gJ ns l r):∀ (i:Nat) b,l[i]? = some b→∃ c,r[i]? = some c∧cO ns b c:=by
 induction h with
 | nil=>intro i b h;simp at h
 | cons h1 _ ih =>
  intro i b h
  rcases i with _|i
  ·simp at h;subst h;exact ⟨_,rfl,h1⟩
  ·exact ih i b (by simpa using h)
theorem dU.len {l r:List (Option Blk)} (h:dU ns l r):l.length=r.length:=by
 induction h with
 | nil=>rfl
 | no _ ih=>simp [ih]
 | on _ _ ih=>simp [ih]
theorem dU.back {l r:List (Option Blk)} (h:dU ns l r):∀ (i:Nat) c,r[i]? = some (some c)→∃ b,l[i]? = some (some b)∧cO ns b c:=by
 induction h with
 | nil=>intro i b h;simp at h
 | no _ ih =>
  intro i b h
  rcases i with _|i
  ·simp at h
  ·exact ih i b (by simpa using h)
 | on h1 _ ih =>
  intro i b h
  rcases i with _|i
  ·simp at h;subst h;exact ⟨_,rfl,h1⟩
  ·exact ih i b (by simpa using h)
theorem dU.VF {l r:List (Option Blk)} (h:dU ns l r):∀ (i:Nat) b,l[i]? = some (some b)→∃ c,r[i]? = some (some c)∧cO ns b c:=by
 induction h with
 | nil=>intro i b h;simp at h
 | no _ ih =>
  intro i b h
  rcases i with _|i
  ·simp at h
  ·exact ih i b (by simpa using h)
 | on h1 _ ih =>
  intro i b h
  rcases i with _|i
  ·simp at h;subst h;exact ⟨_,rfl,h1⟩
  ·exact ih i b (by simpa using h)
section
variable {X X' A A':Nat→Prop} {φ φ':Nat→Pl} {w:World}
theorem Rep.aam {ρ:Nat→Nat} {v:V} {x:Value} (h:Rep X A φ w v x):(∀ n∈v.names,A n→A' (ρ n)∧φ' (ρ n)=φ n)→Rep X A' φ' w (v.ren ρ) x:=by
 induction h with
 | @fz v x h =>
  intro _
  have key:∀ {v:V} {x:Value},Fz X w v x→V.names v=[]→v.ren ρ=v:=fun _ hn=>Nt _ hn
  have nn:∀ {v:V} {x:Value},Fz X w v x→v.names=[]:=by
   intro v x h
   induction h with
   | @agg vs cs h1 h2 h3 ih =>
    rw [V.names]
    refine List.eq_nil_iff_forall_not_mem.2 fun m hm=>?_
    obtain ⟨v,hv,hm⟩:=aB.1 hm
    obtain ⟨i,hi⟩:=List.mem_iff_getElem?.1 hv
    have hl:i<cs.size:=by rw [← h1];exact (List.getElem?_eq_some_iff.1 hi).1
    rw [ih i v cs[i] hi (by simp [hl])] at hm;cases hm
   | @tup vs cs h1 h3 ih =>
    rw [V.names]
    refine List.eq_nil_iff_forall_not_mem.2 fun m hm=>?_
    obtain ⟨v,hv,hm⟩:=aB.1 hm
    obtain ⟨i,hi⟩:=List.mem_iff_getElem?.1 hv
    have hl:i<cs.size:=by rw [← h1];exact (List.getElem?_eq_some_iff.1 hi).1
    rw [ih i v cs[i] hi (by simp [hl])] at hm;cases hm
   | @fn f as' bs cs ds h1 h2 h3 h4 ih1 ih2 =>
    rw [V.names,List.append_eq_nil_iff]
    refine ⟨List.eq_nil_iff_forall_not_mem.2 fun m hm=>?_,List.eq_nil_iff_forall_not_mem.2 fun m hm=>?_⟩
    ·obtain ⟨v,hv,hm⟩:=aB.1 hm
     obtain ⟨i,hi⟩:=List.mem_iff_getElem?.1 hv
     have hl:i<cs.size:=by rw [← h1];exact (List.getElem?_eq_some_iff.1 hi).1
     rw [ih1 i v cs[i] hi (by simp [hl])] at hm;cases hm
    ·obtain ⟨v,hv,hm⟩:=aB.1 hm
     obtain ⟨i,hi⟩:=List.mem_iff_getElem?.1 hv
     have hl:i<ds.size:=by rw [← h2];exact (List.getElem?_eq_some_iff.1 hi).1
     rw [ih2 i v ds[i] hi (by simp [hl])] at hm;cases hm
   | ifc _ ih=>rw [V.names];exact ih
   | _=>rfl
  rw [key h (nn h)]
  exact .fz h
 | @agg vs cs h1 h2 h3 ih =>
  intro hn
  rw [V.ren,dK]
  refine .agg (by simpa using h1) (fun v hv=>?_) (fun i y c hy hc=>?_)
  ·obtain ⟨u,hu,rfl⟩:=List.mem_map.1 hv
   rw [AU];exact h2 u hu
  ·rw [List.getElem?_map,Option.map_eq_some_iff] at hy
   obtain ⟨u,hu,rfl⟩:=hy
   exact ih i u c hu hc fun n hn'=>hn n (by rw [V.names,aB];exact ⟨u,List.mem_of_getElem? hu,hn'⟩)
 | @tup vs cs h1 h3 ih =>
  intro hn
  rw [V.ren,dK]
  refine .tup (by simpa using h1) (fun i y c hy hc=>?_)
  rw [List.getElem?_map,Option.map_eq_some_iff] at hy
  obtain ⟨u,hu,rfl⟩:=hy
  exact ih i u c hu hc fun n hn'=>hn n (by rw [V.names,aB];exact ⟨u,List.mem_of_getElem? hu,hn'⟩)
 | @fn f as' bs cs ds h1 h2 h3 h4 ih1 ih2 =>
  intro hn
  rw [V.ren,dK,dK]
  refine .fn (by simpa using h1) (by simpa using h2) (fun i y c hy hc=>?_) (fun i y c hy hc=>?_)
  ·rw [List.getElem?_map,Option.map_eq_some_iff] at hy
   obtain ⟨u,hu,rfl⟩:=hy
   exact ih1 i u c hu hc fun n hn'=>hn n (by rw [V.names,List.mem_append,aB,aB];exact .inl ⟨u,List.mem_of_getElem? hu,hn'⟩)
  ·rw [List.getElem?_map,Option.map_eq_some_iff] at hy
   obtain ⟨u,hu,rfl⟩:=hy
   exact ih2 i u c hu hc fun n hn'=>hn n (by rw [V.names,List.mem_append,aB,aB];exact .inr ⟨u,List.mem_of_getElem? hu,hn'⟩)
 | ifc _ ih=>intro hn;rw [V.ren];exact .ifc (ih fun n hn'=>hn n (by rw [V.names];exact hn'))
 | @own0 n h1 h2 =>
  intro hn
  obtain ⟨g1,g2⟩:=hn n (by simp [V.names]) h1
  rw [V.ren];exact .own0 g1 (by rw [g2];exact h2)
 | @own n i len b h1 h2 h3 h4 =>
  intro hn
  obtain ⟨g1,g2⟩:=hn n (by simp [V.names]) h1
  rw [V.ren]
  rw [← g2] at h2 h3 h4 ⊢
  exact .own g1 h2 h3 h4
 | @loc n i off b h1 h2 =>
  intro hn
  obtain ⟨g1,g2⟩:=hn n (by simp [V.names]) h1
  rw [V.ren]
  rw [← g2] at h2 ⊢
  exact .loc g1 h2
 | @mp n b h1 h2 =>
  intro hn
  obtain ⟨g1,g2⟩:=hn n (by simp [V.names]) h1
  rw [V.ren]
  rw [← g2] at h2
  exact .mp g1 h2
theorem nN {v:V} {j:Nat} {u:V} (h:v.cells[j]? = some u):∀ n∈u.names,n∈v.names:=by
 intro n hn
 cases v<;>simp only [V.cells] at h<;>first
  | (rw [V.names,aB];exact ⟨u,List.mem_of_getElem? h,hn⟩)
  | (rcases j with _ | j
     ·simp at h;subst h;exact hn
     ·simp at h)
end
structure zH (g:iI) (N M A:Nat→Prop) (φ:Nat→Pl) (bs:List (Option Blk)) (w:World):Prop where
 st:∀ n k,bs[n]? = some (some k)→A n∧iT (fun b=>M b∨N b) M A φ w (φ n) k
 inj:∀ n n' k k' b,bs[n]? = some (some k)→bs[n']? = some (some k')→(φ n).blk=some b→(φ n').blk=some b→n=n'
 lim:∀ b,M b∨N b→b<w.heap.size
 dis:∀ b,M b→¬ N b
 gl:kC g (fun b=>M b∨N b) w
def aR (P:Program) (g:iI) (f:FuncId) (args:List V) (st:List Blk) (r:V) (st':List (Option Blk)):Prop :=
 ∀ (N M:Nat→Prop) (φ:Nat→Pl) (w:World) (vs:Array Value),zH g N M (· < st.length) φ (st.map some) w→args.length=vs.size →
  (∀ (i:Nat) v x,args[i]? = some v→vs[i]? = some x→Rep (fun b=>M b∨N b) (· < st.length) φ w v x) →
  Calls P f vs w (fun e w'=>∃ x M' φ',e = .returned x∧bF M w w'∧(∀ b,b<w.heap.size→M' b→M b)∧(∀ n,n<st.length→φ' n=φ n) ∧
   zH g N M' (· < st'.length) φ' st' w'∧Rep (fun b=>M' b∨N b) (· < st'.length) φ' w' r x)
def aK (P:Program) (f:FuncId) (args:List V) (st:List Blk) (r:V) (st':List (Option Blk)):Prop:=∀ g,aR P g f args st r st'
section
variable {P:Program} {tb:List Ty} {N:Env} {M M' A A':Nat→Prop} {φ φ':Nat→Pl} {s:S} {a:Act} {w w':World} {o:Oper}
variable {ns:List Nat} {ts:Array TypeId} {vs:List V} {r2:V} {bs:List Blk} {args:List V} {φc:Nat→Pl} {pl:Pl} {b:Blk} {xs:Array Operand} {ms:List Nat}
theorem iT.BM {X X':Nat→Prop} {c:Blk} (hX:∀ b,b<w.heap.size→X' b→X b) (h:cO ns b c) (hA:∀ n,n<ns.length→A' n∧φc n=φ (nm ns n)) (hM:∀ b,pl.blk=some b→M b→M' b) (hc:iT X M A φ w pl c):iT X' M' A' φc w pl b:=by
 cases h with
 | same hn =>
  obtain ⟨h1,h2,h3,h4,h5⟩:=hc
  refine ⟨h1,h2,h3,h4,h5.imp id ?_⟩
  rintro ⟨b,cur,g1,g2,g3,g4,g5,g6,g7⟩
  refine ⟨b,cur,g1,hM b g1 g2,g3,g4,g5,g6,fun i j x u hx hu=>?_⟩
  obtain ⟨c,hc,hr⟩:=g7 i j x u hx hu
  refine ⟨c,hc,sD (List.eq_nil_iff_forall_not_mem.2 fun m hm=>?_) (hr.mono hX (.refl _ w) (fun _ h=>h) fun _ _=>rfl)⟩
  have:=aB.2 ⟨x,List.mem_of_getElem? hx,nN hu m hm⟩
  rw [hn] at this;cases this
 | @ren T sz xs us he =>
  obtain ⟨e1,e2⟩:=ic he
  subst e1
  rw [dK] at hc
  obtain ⟨h1,h2,h3,h4,h5⟩:=hc
  rw [List.length_map] at h3
  refine ⟨h1,h2,h3,fun x hx=>?_,?_⟩
  ·obtain ⟨k1,k2⟩:=h4 _ (List.mem_map.2 ⟨x,hx,rfl⟩)
   rw [kr] at k1 k2
   rw [List.length_map] at k1
   exact ⟨k1,fun u hu=>by rw [← AU];exact k2 _ (List.mem_map.2 ⟨u,hu,rfl⟩)⟩
  ·rcases h5 with ⟨k1,k2,k3⟩|⟨b,cur,g1,g2,g3,g4,g5,g6,g7⟩
   ·exact .inl ⟨k1,by simpa using k2,k3⟩
   ·rw [List.length_map] at g5
    refine .inr ⟨b,cur,g1,hM b g1 g2,g3,g4,g5,g6,fun i j x u hx hu=>?_⟩
    obtain ⟨c,hc,hr⟩:=g7 i j (x.ren (nm ns)) (u.ren (nm ns)) (by simp [hx]) (by rw [kr];simp [hu])
    exact ⟨c,hc,Rep.ren (ρ:=nm ns) (fun n hn=>hA n (e2 n (aB.2 ⟨x,List.mem_of_getElem? hx,nN hu n hn⟩))) (hr.mono hX (.refl _ w) (fun _ h=>h) fun _ _=>rfl)⟩
 | map hn =>
  obtain ⟨b,ents,clock,g1,g2,g3,g4,g5⟩:=hc
  exact ⟨b,ents,clock,g1,hM b g1 g2,g3,g4,fun i k v e hk he=>⟨(g5 i k v e hk he).1.mono hX (.refl _ w),sD (hn _ (List.mem_of_getElem? hk)) ((g5 i k v e hk he).2.mono hX (.refl _ w) (fun _ h=>h) fun _ _=>rfl)⟩⟩
 | sit=>obtain ⟨h0,b,g1,g2,g3⟩:=hc;exact ⟨h0,b,g1,hM b g1 g2,g3⟩
theorem iT.aa3 {X X':Nat→Prop} {c:Blk} (hX:∀ b,b<w.heap.size→X' b→X b) (h:cO ns b c) (hA:∀ n,n<ns.length→A' n→A (nm ns n)∧φ (nm ns n)=φc n) (hM:∀ b,pl.blk=some b→M b→M' b) (hb:iT X M A' φc w pl b):iT X' M' A φ w pl c:=by
 cases h with
 | same hn =>
  obtain ⟨h1,h2,h3,h4,h5⟩:=hb
  refine ⟨h1,h2,h3,h4,h5.imp id ?_⟩
  rintro ⟨b,cur,g1,g2,g3,g4,g5,g6,g7⟩
  refine ⟨b,cur,g1,hM b g1 g2,g3,g4,g5,g6,fun i j x u hx hu=>?_⟩
  obtain ⟨c,hc,hr⟩:=g7 i j x u hx hu
  refine ⟨c,hc,sD (List.eq_nil_iff_forall_not_mem.2 fun m hm=>?_) (hr.mono hX (.refl _ w) (fun _ h=>h) fun _ _=>rfl)⟩
  have:=aB.2 ⟨x,List.mem_of_getElem? hx,nN hu m hm⟩
  rw [hn] at this;cases this
 | @ren T sz xs us he =>
  obtain ⟨e1,e2⟩:=ic he
  subst e1
  rw [dK]
  obtain ⟨h1,h2,h3,h4,h5⟩:=hb
  refine ⟨h1,h2,by simpa using h3,fun x hx=>?_,?_⟩
  ·obtain ⟨y,hy,rfl⟩:=List.mem_map.1 hx
   obtain ⟨k1,k2⟩:=h4 y hy
   rw [kr]
   refine ⟨by simpa using k1,fun u hu=>?_⟩
   obtain ⟨z,hz,rfl⟩:=List.mem_map.1 hu
   rw [AU];exact k2 z hz
  ·rcases h5 with ⟨k1,k2,k3⟩|⟨b,cur,g1,g2,g3,g4,g5,g6,g7⟩
   ·exact .inl ⟨k1,by simpa using k2,k3⟩
   ·refine .inr ⟨b,cur,g1,hM b g1 g2,g3,g4,by simpa using g5,g6,fun i j x u hx hu=>?_⟩
    rw [List.getElem?_map,Option.map_eq_some_iff] at hx
    obtain ⟨y,hy,rfl⟩:=hx
    rw [kr,List.getElem?_map,Option.map_eq_some_iff] at hu
    obtain ⟨z,hz,rfl⟩:=hu
    obtain ⟨c,hc,hr⟩:=g7 i j y z hy hz
    exact ⟨c,hc,(hr.mono hX (.refl _ w) (fun _ h=>h) fun _ _=>rfl).aam (ρ:=nm ns) fun n hn ha=>hA n (e2 n (aB.2 ⟨y,List.mem_of_getElem? hy,nN hz n hn⟩)) ha⟩
 | map hn =>
  obtain ⟨b,ents,clock,g1,g2,g3,g4,g5⟩:=hb
  exact ⟨b,ents,clock,g1,hM b g1 g2,g3,g4,fun i k v e hk he=>⟨(g5 i k v e hk he).1.mono hX (.refl _ w),sD (hn _ (List.mem_of_getElem? hk)) ((g5 i k v e hk he).2.mono hX (.refl _ w) (fun _ h=>h) fun _ _=>rfl)⟩⟩
 | sit=>obtain ⟨h0,b,g1,g2,g3⟩:=hb;exact ⟨h0,b,g1,hM b g1 g2,g3⟩
theorem Vx {X:Nat→Prop} {k:Blk} {b:Nat} (h:iT X M A φ w pl k) (hb:pl.blk=some b):M b:=by
 cases k with
 | els T sz xs =>
  obtain ⟨_,_,_,_,h1|⟨b',cur,h1,h2,_⟩⟩:=h
  ·rw [hb] at h1;cases h1.1
  ·rw [hb] at h1;cases h1;exact h2
 | map es=>obtain ⟨b',_,_,h1,h2,_⟩:=h;rw [hb] at h1;cases h1;exact h2
 | sit s pos=>obtain ⟨_,b',h1,h2,_⟩:=h;rw [hb] at h1;cases h1;exact h2
def gU:List Blk→Nat→List (Nat × Option Blk)
 | [],_=>[]
 | b::r,n=>(n,some b)::gU r (n+1)
theorem A8:∀ (l:List Blk) (n t:Nat),lk (gU l n) t=if n≤t then (l[t-n]?).map some else none
 | [],n,t=>by simp [gU,lk]
 | v::r,n,t=>by
  rw [gU,bW,A8 r (n+1) t]
  by_cases h:n=t
  ·subst h;simp
  ·rw [if_neg h]
   by_cases h2:n+1≤t
   ·rw [if_pos h2,if_pos (by omega)]
    rw [show t-n=(t-(n+1))+1 from by omega]
    simp
   ·rw [if_neg h2,if_neg (by omega)]
def wR (ms:List Nat) (k nx:Nat):Bool:=((List.range k).all fun n=>match nth ms n with
 | some m=>Nat.beq m n
 | none=>false)&&(ms.all fun m=>Nat.blt m nx)&&(List.range ms.length).all fun i=>(List.range ms.length).all fun j=>Nat.beq i j||match nth ms i,nth ms j with
 | some x,some y => !Nat.beq x y
 | _,_=>false
inductive Pub (s:S):List Nat→List (Option Blk)→Prop
 | nil:Pub s [] []
 | no {m ms l}:Pub s ms l→Pub s (m::ms) (none::l)
 | on {m ms b l}:s.blk m=some b→Pub s ms l→Pub s (m::ms) (some b::l)
theorem Pub.len {l:List (Option Blk)} (h:Pub s ms l):ms.length=l.length:=by
 induction h with
 | nil=>rfl
 | no _ ih=>simp [ih]
 | on _ _ ih=>simp [ih]
theorem Pub.at {ms:List Nat} {l:List (Option Blk)} (h:Pub s ms l):∀ (i:Nat) b,l[i]? = some (some b)→∃ m,ms[i]? = some m∧s.blk m=some b:=by
 induction h with
 | nil=>intro i b h;simp at h
 | no _ ih =>
  intro i b h
  rcases i with _|i
  ·simp at h
  ·exact ih i b (by simpa using h)
 | on h1 _ ih =>
  intro i b h
  rcases i with _|i
  ·simp at h;subst h;exact ⟨_,rfl,h1⟩
  ·exact ih i b (by simpa using h)
structure aaq (tb:List Ty) (rs:List ResultVar) (k:Nat) (r:V) (st':List (Option Blk)) (s:S):Prop where
 ex:∃ ms vs us,wR ms k s.nx=true∧nG tb s rs=some vs∧nW ms r=some (pack vs)∧dU ms st' us∧Pub s ms us
def Q0 (tb:List Ty) (rs:List ResultVar) (k:Nat) (r:V) (st':List (Option Blk)):Exit→S→Prop
 | .normal,s|.ret,s=>aaq tb rs k r st' s
 | _,_=>False
theorem L8 {k nx:Nat} (h:wR ms k nx=true):(∀ n,n<k→n<ms.length∧nm ms n=n)∧(∀ n,n<ms.length→nm ms n<nx)∧∀ i j,i<ms.length→j<ms.length→nm ms i=nm ms j→i=j:=by
 unfold wR at h
 simp only [Bool.and_eq_true] at h
 obtain ⟨⟨h1,h2⟩,h3⟩:=h
 refine ⟨fun n hn=>?_,fun n hn=>?_,fun i j hi hj e=>?_⟩
 ·have:=List.all_eq_true.1 h1 n (List.mem_range.2 hn)
  cases hm:nth ms n with
  | none=>rw [hm] at this;cases this
  | some m =>
   rw [hm] at this
   obtain ⟨g1,g2⟩:=lu hm
   exact ⟨g2,by rw [g1];exact Nat.eq_of_beq_eq_true this⟩
 ·have e:nth ms n=some ms[n]:=by rw [dw];simp [hn]
  rw [(lu e).1]
  simpa using List.all_eq_true.1 h2 _ (List.getElem_mem hn)
 ·have:=List.all_eq_true.1 (List.all_eq_true.1 h3 i (List.mem_range.2 hi)) j (List.mem_range.2 hj)
  have e1:nth ms i=some ms[i]:=by rw [dw];simp [hi]
  have e2:nth ms j=some ms[j]:=by rw [dw];simp [hj]
  rw [(lu e1).1,(lu e2).1] at e
  rw [e1,e2,Bool.or_eq_true] at this
  rcases this with h|h
  ·exact Nat.eq_of_beq_eq_true h
  ·simp [e] at h
theorem Cv {g:iI} {f:FuncId} {fn:Func} {c:Code} {st:List Blk} {r:V} {st':List (Option Blk)} (htb:aL P tb) (hf:P.funcs[f]? = some fn) (hb:fn.body=some c) (hn:Nat.ble args.length fn.ntmps=true) (h:∀ (bl:Nat→Prop) (pl:Nat→Pl),AWp P ⟨⟨bl,g⟩,st.length,pl,[]⟩ c (Q0 tb fn.results.toList st.length r st') ⟨kG args 0,gU st 0,st.length,fn.ntmps⟩):aR P g f args st r st':=fun N M φ w vs hrow hl hv=>by
 have hnt:args.length≤fn.ntmps:=Nat.le_of_ble_eq_true hn
 have eb:∀ n,S.blk ⟨kG args 0,gU st 0,st.length,fn.ntmps⟩ n=st[n]? := fun n=>by
  have e:=A8 st 0 n
  rw [if_pos (Nat.zero_le _),Nat.sub_zero] at e
  unfold S.blk
  rw [e]
  cases st[n]? <;> rfl
 have em:∀ n k,st[n]? = some k→(st.map some)[n]? = some (some k):=fun n k h=>by rw [List.getElem?_map,h];rfl
 refine calls_of_wp hf hb (wp_mono (h N φ M φ _ w ⟨fun t v ht=>?_,?_,fun n k hk=>?_,fun n n' k k' b h1 h2=>?_,hrow.lim,hrow.dis,rfl,fun n hn=>⟨hn,rfl⟩,hrow.gl⟩) ?_)
 ·change lk (kG args 0) t=some v at ht
  rw [GI,if_pos (Nat.zero_le _),Nat.sub_zero] at ht
  have hlt:t<args.length:=(List.getElem?_eq_some_iff.1 ht).1
  refine ⟨Nat.lt_of_lt_of_le hlt hnt,?_⟩
  have hvt:vs[t]? = some vs[t]:=by simp [show t<vs.size by omega]
  have e:(vs++Array.replicate (fn.ntmps-vs.size) undef).getD t undef=vs[t]'(by omega):=by
   rw [Array.getD_eq_getD_getElem?,Array.getElem?_append_left (by omega),hvt];rfl
  rw [e]
  exact hv t v _ ht hvt
 ·simp;omega
 ·rw [eb] at hk
  exact hrow.st n k (em n k hk)
 ·rw [eb] at h1 h2
  exact hrow.inj n n' k k' b (em _ _ h1) (em _ _ h2)
 ·rintro e a' w' ⟨M',φ',s',h1,h2,h3,h4⟩
  have fin:aaq tb fn.results.toList st.length r st' s'→a'.defers=[]∧∃ v,(results fn a'.tmps).run P w' = .ok v w'∧∃ x M' φ',Ending.returned v = .returned x∧bF M w w'∧(∀ b,b<w.heap.size→M' b→M b)∧(∀ n,n<st.length→φ' n=φ n) ∧
    zH g N M' (· < st'.length) φ' st' w'∧Rep (fun b=>M' b∨N b) (· < st'.length) φ' w' r x:=by
   rintro ⟨ms,ws,us,g0,g1,g2,g3,g4⟩
   obtain ⟨o1,o2,o3⟩:=L8 g0
   have hlen:ms.length=st'.length:=g4.len.trans g3.len.symm
   obtain ⟨xs,k1,k2,k3⟩:=uJ htb h3 g1
   have hrun:(results fn a'.tmps).run P w' = .ok (if h:xs.toArray.size=1 then xs.toArray[0] else .tuple xs.toArray) w':=by
    unfold results
    rw [Array.mapM_eq_mapM_toList]
    have e:∀ (m:Sem (List Value)),m.run P w' = .ok xs w'→(List.toArray <$> m).run P w' = .ok xs.toArray w':=fun m hm=>by
     have:(List.toArray <$> m)=(m >>= fun l=>pure l.toArray):=rfl
     rw [this]
     simp only [Sem.run_bind,hm,Result.andThen_ok,Sem.run_pure]
    simp only [Sem.run_bind]
    erw [e _ k1]
    simp only [Result.andThen_ok,Sem.run_pure]
   obtain ⟨r1,r2⟩:=sG g2
   have hpin:∀ n,n<st.length→φ' (nm ms n)=φ n:=fun n hn=>by
    rw [(o1 n hn).2];exact (h3.pin n hn).2
   have hrep:Rep (fun b=>M' b∨N b) (· < s'.nx) φ' w' (pack ws) (if h:xs.toArray.size=1 then xs.toArray[0] else .tuple xs.toArray):=by
    match ws,xs,k2,k3 with
    | [u],[x],_,hfz=>exact hfz 0 u x rfl rfl
    | [],[],_,_=>exact .tup rfl (fun i v c h=>by simp at h)
    | u1::u2::us,x1::x2::xs,k2,hfz =>
     have:¬ (x1::x2::xs).toArray.size=1:=by simp
     rw [dif_neg this]
     exact .tup (by simpa using k2) (fun i v c hv hc=>hfz i v c hv (by simpa using hc))
    | [],_::_,k2,_=>simp at k2
    | _::_,[],k2,_=>simp at k2
    | [_],_::_::_,k2,_=>simp at k2
    | _::_::_,[_],k2,_=>simp at k2
   refine ⟨h3.df,_,hrun,_,M',fun n=>φ' (nm ms n),rfl,h1,h2,hpin,⟨fun n k hk=>?_,fun n n' k k' b e1 e2 e3 e4=>?_,h3.lim,h3.dis,h3.gl⟩,?_⟩
   ·obtain ⟨c,hc,hren⟩:=g3.VF n k hk
    obtain ⟨m,hm,hbk⟩:=g4.at n c hc
    have hnl:n<st'.length:=(List.getElem?_eq_some_iff.1 hk).1
    have hnm:nm ms n=m:=(lu (by rw [dw];exact hm)).1
    refine ⟨hnl,?_⟩
    rw [hnm]
    exact iT.BM (fun _ _ h=>h) hren (fun n hn=>⟨by rw [← hlen];exact hn,rfl⟩) (fun _ _ h=>h) (h3.st m c hbk).2
   ·obtain ⟨c,hc,_⟩:=g3.VF n k e1
    obtain ⟨c',hc',_⟩:=g3.VF n' k' e2
    obtain ⟨m,hm,hbk⟩:=g4.at n c hc
    obtain ⟨m',hm',hbk'⟩:=g4.at n' c' hc'
    have hnm:nm ms n=m:=(lu (by rw [dw];exact hm)).1
    have hnm':nm ms n'=m':=(lu (by rw [dw];exact hm')).1
    refine o3 n n' (by rw [hlen];exact (List.getElem?_eq_some_iff.1 e1).1) (by rw [hlen];exact (List.getElem?_eq_some_iff.1 e2).1) ?_
    rw [hnm] at e3 ⊢
    rw [hnm'] at e4 ⊢
    exact h3.inj m m' c c' b hbk hbk' e3 e4
   ·rw [r1] at hrep
    exact Rep.ren (ρ:=nm ms) (fun n hn=>⟨by rw [← hlen];exact r2 n hn,rfl⟩) hrep
  cases e with
  | normal=>exact fin h4
  | ret=>exact fin h4
  | _=>exact h4.elim
def yR:List Nat→List (Option Blk)→Option (List (Nat × Option Blk))
 | [],[]=>some []
 | n::r,b::q=>match yR r q with
  | some l=>some ((n,b)::l)
  | none=>none
 | _,_=>none
def uS:List Nat→List Blk→List (Nat × Blk)
 | n::r,b::q=>(n,b)::uS r q
 | _,_=>[]
def dO:List Nat→Bool
 | []=>true
 | n::r=>(r.all fun m => !Nat.beq n m)&&dO r
theorem Bh:∀ {ns:List Nat} {bs:List Blk} (i:Nat) {n:Nat} {b:Blk},ns[i]? = some n→bs[i]? = some b→(n,b)∈uS ns bs
 | [],_,i,n,b,h,_=>by simp at h
 | _::_,[],i,n,b,_,h=>by simp at h
 | m::r,c::q,i,n,b,h,k=>by
  rcases i with _|i
  ·simp at h k;subst h k;simp [uS]
  ·simp only [uS,List.mem_cons];exact .inr (Bh i (by simpa using h) (by simpa using k))
theorem lH:∀ {ns:List Nat},dO ns=true→∀ i j,i<ns.length→j<ns.length→nm ns i=nm ns j→i=j
 | [],_,i,j,h,_,_=>by simp at h
 | n::r,h,i,j,hi,hj,e=>by
  rw [dO,Bool.and_eq_true] at h
  have h1:∀ k,k<r.length→nm (n::r) (k+1)=nm r k:=fun k _=>rfl
  have h2:∀ k,k<r.length→n≠nm r k:=fun k hk e=>by
   have e1:nth r k=some r[k]:=by rw [dw];simp [hk]
   have:=List.all_eq_true.1 h.1 _ (List.getElem_mem hk)
   rw [(lu e1).1] at e
   rw [e] at this
   simp at this
  simp only [List.length_cons] at hi hj
  rcases i with _|i<;>rcases j with _|j
  ·rfl
  ·exact absurd e (h2 j (by omega))
  ·exact absurd e.symm (h2 i (by omega))
  ·rw [lH h.2 i j (by omega) (by omega) e]
theorem O4:∀ {ns:List Nat} {us:List (Option Blk)} {up:List (Nat × Option Blk)},yR ns us=some up→dO ns=true→ns.length=us.length∧(∀ i,i<ns.length→lk up (nm ns i)=us[i]?)∧∀ m,(∀ i,i<ns.length→nm ns i≠m)→lk up m=none
 | [],[],up,h,_=>by rw [yR] at h;cases h;exact ⟨rfl,fun i h=>by simp at h,fun m _=>rfl⟩
 | [],_::_,up,h,_=>by simp [yR] at h
 | _::_,[],up,h,_=>by simp [yR] at h
 | n::r,b::q,up,h,hd=>by
  rw [yR] at h
  split at h<;>cases h
  rename_i l hl
  have hd0:=hd
  rw [dO,Bool.and_eq_true] at hd
  obtain ⟨h1,h2,h3⟩:=O4 hl hd.2
  refine ⟨by simp [h1],fun i hi=>?_,fun m hm=>?_⟩
  ·rw [bW]
   rcases i with _|i
   ·have:nm (n::r) 0=n:=rfl
    rw [this,if_pos rfl];rfl
   ·have hi':i<r.length:=by simpa using hi
    have:nm (n::r) (i+1)=nm r i:=rfl
    rw [this,if_neg (fun e=>?_),h2 i hi']
    ·simp
    ·have:=lH hd0 0 (i+1) (by simp) hi e
     omega
  ·have hm0:¬ n=m:=hm 0 (by simp)
   rw [bW,if_neg hm0,h3 m fun i hi=>hm (i+1) (by simpa using hi)]
theorem uY {st:List Blk} {r:V} {st' us:List (Option Blk)} {up:List (Nat × Option Blk)} {f:FuncId} {fp:Fp} (ns news:List Nat) (hop:∀ s M A φ a w,Holds fp s→Rel N M A φ s a w→∃ gs:Array Value,(execOp a.eval o).run P w = .ok (.enter f gs) w∧vs.length=gs.size∧∀ (i:Nat) v x,vs[i]? = some v→gs[i]? = some x→Rep (fun b=>M b∨N b) A φ w v x) (hns:∀ (i:Nat) n b,ns[i]? = some n→bs[i]? = some b→(n,b)∈fp.ns) (hargs:jM ns args=some vs) (hst:gJ ns st bs) (hlen:ns.length=st.length) (hdis:dO (ns++news)=true) (h:aR P N.g f args st r st') (hlen':(ns++news).length=st'.length) (hr2:nW (ns++news) r=some r2) (hus:dU (ns++news) st' us) (hup:yR (ns++news) us=some up):aC P N o fp r2 up news:=fun s M A φ a w hh hr hν hd=>by
 obtain ⟨gs,hrun,hgl,hgv⟩:=hop s M A φ a w hh hr
 unfold Oper.wp
 rw [hrun]
 obtain ⟨a1,a2⟩:=ic hargs
 obtain ⟨r21,r22⟩:=sG hr2
 rw [dK] at a1
 have hnm:∀ n,n<ns.length→nm (ns++news) n=nm ns n:=fun n hn=>by
  unfold nm;rw [dw,dw,List.getElem?_append_left hn]
 have hnew:∀ n,ns.length≤n→n<(ns++news).length→nm (ns++news) n∈news:=fun n h1 h2=>by
  have e:nth (ns++news) n=some ((ns++news)[n]):=by rw [dw];simp
  rw [(lu e).1,List.getElem_append_right h1]
  exact List.getElem_mem _
 have hof:∀ m,m∈news→∃ n,ns.length≤n∧n<(ns++news).length∧nm (ns++news) n=m:=fun m hm=>by
  obtain ⟨i,hi,rfl⟩:=List.getElem_of_mem hm
  refine ⟨ns.length+i,by omega,by simp;omega,?_⟩
  have e:nth (ns++news) (ns.length+i)=some news[i]:=by rw [dw,List.getElem?_append_right (by omega)];simp [hi]
  exact (lu e).1
 have hinj:=lH hdis
 have hlt:∀ n,n<ns.length→n<(ns++news).length:=fun n hn=>by simp;omega
 have hrow:∀ n k,st[n]? = some k→∃ c,s.blk (nm ns n)=some c∧cO ns k c:=fun n k hk=>by
  obtain ⟨c,hc,hren⟩:=hst.at n k hk
  have hn:n<ns.length:=by rw [hlen];exact (List.getElem?_eq_some_iff.1 hk).1
  have e:ns[n]? = some ns[n]:=by simp [hn]
  have:=hh.2 _ (hns n _ _ e hc)
  refine ⟨c,?_,hren⟩
  have e2:nth ns n=some ns[n]:=by rw [dw];exact e
  rw [(lu e2).1];exact this
 have hAns:∀ n,n<ns.length→A (nm ns n):=fun n hn=>by
  obtain ⟨c,hc,_⟩:=hrow n _ (List.getElem?_eq_getElem (by omega))
  exact (hr.st _ _ hc).1
 let H:Nat→Prop:=fun b=>∃ n,n<ns.length∧(φ (nm ns n)).blk=some b
 have hHM:∀ b,H b→M b:=fun b ⟨n,hn,hb⟩=>by
  obtain ⟨c,hc,_⟩:=hrow n _ (List.getElem?_eq_getElem (by omega))
  exact hr.gy hc hb
 have hX:∀ b,(H b∨((M b∧¬ H b)∨N b))→M b∨N b:=fun b hb=>by
  rcases hb with hb|hb|hb
  ·exact .inl (hHM b hb)
  ·exact .inl hb.1
  ·exact .inr hb
 have rows:zH N.g (fun b=>(M b∧¬ H b)∨N b) H (· < st.length) (fun n=>φ (nm ns n)) (st.map some) w:=by
  refine ⟨fun n k hk=>?_,fun n n' k k' b e1 e2 e3 e4=>?_,fun b hb=>hr.lim b (hX b hb),fun b hb hn=>?_,hr.gl.sub hX⟩
  ·have hk:st[n]? = some k:=by simpa using hk
   have hn:n<ns.length:=by rw [hlen];exact (List.getElem?_eq_some_iff.1 hk).1
   obtain ⟨c,hc,hren⟩:=hrow n k hk
   exact ⟨by rw [← hlen];exact hn,iT.BM (fun b _ h=>hX b h) hren (fun m hm=>⟨by rw [← hlen];exact hm,rfl⟩) (fun b hb _=>⟨n,hn,hb⟩) (hr.st _ _ hc).2⟩
  ·have e1:st[n]? = some k:=by simpa using e1
   have e2:st[n']? = some k':=by simpa using e2
   obtain ⟨c,hc,_⟩:=hrow n k e1
   obtain ⟨c',hc',_⟩:=hrow n' k' e2
   have h1:n<ns.length:=by rw [hlen];exact (List.getElem?_eq_some_iff.1 e1).1
   have h2:n'<ns.length:=by rw [hlen];exact (List.getElem?_eq_some_iff.1 e2).1
   exact hinj n n' (hlt n h1) (hlt n' h2) (by rw [hnm n h1,hnm n' h2];exact hr.inj _ _ _ _ b hc hc' e3 e4)
  ·rcases hn with hn|hn
   ·exact hn.2 hb
   ·exact hr.dis b (hHM b hb) hn
 refine Calls.mono (h (fun b=>(M b∧¬ H b)∨N b) H (fun n=>φ (nm ns n)) w gs rows (by rw [← hgl,a1];simp) fun i v x hv hx=>?_) ?_
 ·have hvs:vs[i]? = some (v.ren (nm ns)):=by rw [a1];simp [hv]
  refine Rep.ren (ρ:=nm ns) (fun n hn=>⟨?_,rfl⟩) ((hgv i _ x hvs hx).mono (fun b _ h=>hX b h) (.refl _ w) (fun _ h=>h) fun _ _=>rfl)
  rw [← hlen]
  exact a2 n (aB.2 ⟨v,List.mem_of_getElem? hv,hn⟩)
 ·rintro e w' ⟨x,M',φ',rfl,hs,hM,hpin,hrows,hrep⟩
  show ∃ _ _,_
  let M2:Nat→Prop:=fun b=>M' b∨(M b∧¬ H b)
  let φ2:Nat→Pl:=fun m=>open Classical in if h:∃ n,n<(ns++news).length∧nm (ns++news) n=m then φ' h.choose else φ m
  have hφ2:∀ n,n<(ns++news).length→φ2 (nm (ns++news) n)=φ' n:=fun n hn=>by
   have h:∃ n',n'<(ns++news).length∧nm (ns++news) n'=nm (ns++news) n:=⟨n,hn,rfl⟩
   show dite _ _ _=_
   rw [dif_pos h,hinj _ _ h.choose_spec.1 hn h.choose_spec.2]
  have hφA:∀ m,A m→φ2 m=φ m:=fun m hm=>by
   by_cases h:∃ n,n<(ns++news).length∧nm (ns++news) n=m
   ·obtain ⟨n,hn,rfl⟩:=h
    by_cases hk:n<ns.length
    ·rw [hφ2 n hn,hpin n (by rw [← hlen];exact hk),hnm n hk]
    ·exact absurd hm (hν _ (hnew n (by omega) hn))
   ·show dite _ _ _=_
    rw [dif_neg h]
  have hsX:bF (fun b=>M b∨N b) w w':=⟨hs.os,hs.tape,hs.output,hs.size,fun b hb hm=>hs.block b hb fun h=>hm (.inl (hHM b h))⟩
  have hsM:bF M w w':=⟨hs.os,hs.tape,hs.output,hs.size,fun b hb hm=>hs.block b hb fun h=>hm (hHM b h)⟩
  have hM2:∀ b,b<w.heap.size→M2 b→M b:=fun b hb h=>h.elim (fun h=>hHM b (hM b hb h)) fun h=>h.1
  have hX2:∀ b,b<w.heap.size→(M2 b∨N b)→M b∨N b:=fun b hb h=>h.imp (hM2 b hb) id
  have hA2:∀ n,A n→A n∨n∈news:=fun n h=>.inl h
  obtain ⟨z1,z2,z3⟩:=O4 hup hdis
  have hup2:∀ n,n<st'.length→A (nm (ns++news) n)∨nm (ns++news) n∈news:=fun n hn=>by
   by_cases hk:n<ns.length
   ·exact .inl (by rw [hnm n hk];exact hAns n hk)
   ·exact .inr (hnew n (by omega) (by omega))
  have eb:∀ m,(s.eff none .und up s.nx).blk m=match lk up m with
    | some q=>q
    | none=>s.blk m:=fun m=>by
   unfold S.blk S.eff
   simp only [Mg]
   cases lk up m<;>rfl
  have ec:∀ m k,(s.eff none .und up s.nx).blk m=some k→(∃ n k0,n<(ns++news).length∧nm (ns++news) n=m∧st'[n]? = some (some k0)∧cO (ns++news) k0 k)∨((∀ n,n<(ns++news).length→nm (ns++news) n≠m)∧s.blk m=some k):=fun m k hk=>by
   rw [eb] at hk
   by_cases h:∃ n,n<(ns++news).length∧nm (ns++news) n=m
   ·obtain ⟨n,hn,rfl⟩:=h
    rw [z2 n hn] at hk
    have hul:n<us.length:=by omega
    rw [List.getElem?_eq_getElem hul] at hk
    simp only at hk
    obtain ⟨k0,h1,h2⟩:=hus.back n k (by rw [List.getElem?_eq_getElem hul,hk])
    exact .inl ⟨n,k0,hn,rfl,h1,h2⟩
   ·have h:∀ n,n<(ns++news).length→nm (ns++news) n≠m:=fun n hn e=>h ⟨n,hn,e⟩
    rw [z3 m h] at hk
    exact .inr ⟨h,hk⟩
  have old:∀ m k,(∀ n,n<(ns++news).length→nm (ns++news) n≠m)→s.blk m=some k→∀ b,(φ m).blk=some b→¬ H b∧M b:=fun m k hm hk b hb=>by
   refine ⟨fun ⟨n,hn,e⟩=>?_,hr.gy hk hb⟩
   obtain ⟨c,hc,_⟩:=hrow n _ (List.getElem?_eq_getElem (by omega))
   exact hm n (hlt n hn) (by rw [hnm n hn];exact hr.inj _ _ _ _ b hc hk e hb)
  have hgrow:Rel N M2 (fun n=>A n∨n∈news) φ2 (s.eff none .und up s.nx) a w':=by
   refine ⟨fun t u ht=>?_,hr.nt,fun m k hk=>?_,fun m m' k k' b e1 e2 e3 e4=>?_,fun b hb=>?_,fun b hb hn=>?_,hr.df,fun n hn=>⟨.inl (hr.pin n hn).1,(hφA n (hr.pin n hn).1).trans (hr.pin n hn).2⟩,hr.gl.stays hsX hX2⟩
   ·obtain ⟨g1,g2⟩:=hr.tm t u ht
    exact ⟨g1,g2.mono hX2 hsX hA2 hφA⟩
   ·rcases ec m k hk with ⟨n,k0,hn,rfl,h1,h2⟩|⟨h1,h2⟩
    ·obtain ⟨g1,g2⟩:=hrows.st n k0 h1
     refine ⟨hup2 n (by omega),?_⟩
     rw [hφ2 n hn]
     exact iT.aa3 (fun b _ h=>by
      rcases h with (h|h)|h
      ·exact .inl h
      ·exact .inr (.inl h)
      ·exact .inr (.inr h)) h2 (fun m hm ha=>⟨hup2 m (by omega),hφ2 m hm⟩) (fun b _ h=>.inl h) g2
    ·obtain ⟨g1,g2⟩:=hr.st m k h2
     refine ⟨.inl g1,?_⟩
     rw [hφA m g1]
     have g3:∀ b,(φ m).blk=some b→w'.heap[b]? = w.heap[b]? := fun b hb=>hs.block b (hr.lim b (.inl (hr.gy h2 hb))) (old m k h1 h2 b hb).1
     have g4:=g2.mono (M':=M) hX2 hsX hA2 hφA (fun _ h=>h) g3
     cases k with
     | els T sz xs =>
      obtain ⟨q1,q2,q3,q4,q5⟩:=g4
      refine ⟨q1,q2,q3,q4,q5.imp id ?_⟩
      rintro ⟨b,cur,p1,p2,p3⟩
      exact ⟨b,cur,p1,.inr ⟨p2,(old m _ h1 h2 b p1).1⟩,p3⟩
     | map es =>
      obtain ⟨b,ents,clock,p1,p2,p3⟩:=g4
      exact ⟨b,ents,clock,p1,.inr ⟨p2,(old m _ h1 h2 b p1).1⟩,p3⟩
     | sit q p =>
      obtain ⟨p0,b,p1,p2,p3⟩:=g4
      exact ⟨p0,b,p1,.inr ⟨p2,(old m _ h1 h2 b p1).1⟩,p3⟩
   ·have far:∀ n k0 m k,st'[n]? = some (some k0)→(∀ n,n<(ns++news).length→nm (ns++news) n≠m)→s.blk m=some k→(φ' n).blk=some b→(φ m).blk=some b→False:=fun n k0 m k h1 h2 h3 h4 h5=>by
     have g1:=Vx (hrows.st n k0 h1).2 h4
     obtain ⟨g2,g3⟩:=old m k h2 h3 b h5
     exact g2 (hM b (hr.lim b (.inl g3)) g1)
    rcases ec m k e1 with ⟨n,k0,hn,rfl,h1,h2⟩|⟨h1,h2⟩<;>rcases ec m' k' e2 with ⟨n',k0',hn',rfl,h1',h2'⟩|⟨h1',h2'⟩
    ·rw [hφ2 n hn] at e3
     rw [hφ2 n' hn'] at e4
     rw [hrows.inj n n' _ _ b h1 h1' e3 e4]
    ·rw [hφ2 n hn] at e3
     rw [hφA m' (hr.st m' k' h2').1] at e4
     exact (far n k0 m' k' h1 h1' h2' e3 e4).elim
    ·rw [hφ2 n' hn'] at e4
     rw [hφA m (hr.st m k h2).1] at e3
     exact (far n' k0' m k h1' h1 h2 e4 e3).elim
    ·rw [hφA m (hr.st m k h2).1] at e3
     rw [hφA m' (hr.st m' k' h2').1] at e4
     exact hr.inj _ _ _ _ b h2 h2' e3 e4
   ·rcases hb with (hb|hb)|hb
    ·exact hrows.lim b (.inl hb)
    ·exact Nat.lt_of_lt_of_le (hr.lim b (.inl hb.1)) hs.size
    ·exact Nat.lt_of_lt_of_le (hr.lim b (.inr hb)) hs.size
   ·rcases hb with hb|hb
    ·exact hrows.dis b hb (.inr hn)
    ·exact hr.dis b hb.1 hn
  have hv:Rep (fun b=>M2 b∨N b) (fun n=>A n∨n∈news) φ2 w' r2 x:=by
   rw [r21]
   refine (hrep.mono (X':=fun b=>M2 b∨N b) (fun b _ h=>?_) (.refl _ w') (fun _ h=>h) (fun _ _=>rfl)).aam (ρ:=nm (ns++news)) fun n hn ha=>⟨hup2 n ha,hφ2 n (by omega)⟩
   rcases h with (h|h)|h
   ·exact .inl h
   ·exact .inr (.inl h)
   ·exact .inr (.inr h)
  refine ⟨M2,φ2,hsM,hM2,?_⟩
  have h9:=eX (nx:=s.nx) hgrow hv hd
  refine h9.as (fun t=>?_) (fun n=>rfl) rfl
  cases o.dst<;>rfl
theorem za {f:Nat} {st:List Blk} {r:V} {st' us:List (Option Blk)} {up:List (Nat × Option Blk)} (ns news:List Nat) (ho:o.op = .call { callee:=.value (.func f),args:=xs,argTypes:=ts }) (hc:∀ (fs:Array Value) (w:World),(callFunc f fs).run P w = .ok (.enter f fs) w) (h:aR P N.g f args st r st') (hargs:jM ns args=some vs) (hl:vs.length=xs.size) (hst:gJ ns st bs) (hlen:Nat.beq ns.length st.length=true) (hdis:dO (ns++news)=true) (hlen':Nat.beq (ns++news).length st'.length=true) (hr2:nW (ns++news) r=some r2) (hus:dU (ns++news) st' us) (hup:yR (ns++news) us=some up):aC P N o ⟨jm xs.toList vs,uS ns bs⟩ r2 up news :=
 uY ns news (fun s M A φ a w hh hr=>⟨_,wN ho hc,by simpa using hl,fun i v x hv hx=>by
  simp only [Array.getElem?_map,Option.map_eq_some_iff] at hx
  obtain ⟨p,hp,rfl⟩:=hx
  exact hr.ev (Ag hh i p v (by simpa using hp) hv)⟩) (fun i n b hn hb=>Bh i hn hb) hargs hst (Nat.eq_of_beq_eq_true hlen) hdis h (Nat.eq_of_beq_eq_true hlen') hr2 hus hup
theorem Nn {f:Nat} {g:Operand} {fs bs' ws:List V} {st:List Blk} {r:V} {st' us:List (Option Blk)} {up:List (Nat × Option Blk)} (ns news:List Nat) (ho:o.op = .call { callee:=.value g,args:=xs,argTypes:=ts }) (hc:∀ (fs:Array Value) (w:World),(callFunc f fs).run P w = .ok (.enter f fs) w) (h:aR P N.g f args st r st') (hargs:jM ns args=some ws) (hws:ws=fs++vs++bs') (hl:vs.length=xs.size) (hst:gJ ns st bs) (hlen:Nat.beq ns.length st.length=true) (hdis:dO (ns++news)=true) (hlen':Nat.beq (ns++news).length st'.length=true) (hr2:nW (ns++news) r=some r2) (hus:dU (ns++news) st' us) (hup:yR (ns++news) us=some up):aC P N o ⟨(g,.fn (.func f) fs bs')::jm xs.toList vs,uS ns bs⟩ r2 up news :=
 uY ns news (fun s M A φ a w hh hr=>by
  obtain ⟨cs,ds,g1,g2,g3,g4,g5⟩:=UZ (hr.ev hh.a)
  have hh':Holds ⟨jm xs.toList vs,uS ns bs⟩ s:=⟨fun p hp=>hh.1 p (List.mem_cons_of_mem _ hp),hh.2⟩
  refine ⟨_,Gq ho g1 hc,by rw [hws];simp;omega,fun i v x hv hx=>Jv (R:=Rep (fun b=>M b∨N b) A φ w) g2 (by simpa using hl) g4 (fun i v x hv hx=>?_) g5 i v x (by rw [← hws];exact hv) hx⟩
  simp only [Array.getElem?_map,Option.map_eq_some_iff] at hx
  obtain ⟨p,hp,rfl⟩:=hx
  exact hr.ev (Ag hh' i p v (by simpa using hp) hv)) (fun i n b hn hb=>Bh i hn hb) hargs hst (Nat.eq_of_beq_eq_true hlen) hdis h (Nat.eq_of_beq_eq_true hlen') hr2 hus hup
end
section
variable {P:Program} {N:Env} {l r:List Oper} {o:Oper} {tm:List (Nat × V)} {st st2:List (Nat × Option Blk)} {nx nx' nt:Nat} {tr:List Tr} {K:S→List Tr→Prop} {fp:Fp} {v:V} {up:List (Nat × Option Blk)} {news:List Nat}
def Ey:List (Nat × Option Blk)→List (Nat × Option Blk)→Option (List (Nat × Option Blk))
 | [],s=>some s
 | p::r,s=>match Ey r s with
  | some q=>some (p::q)
  | none=>none
theorem Be:∀ {u s q:List (Nat × Option Blk)},Ey u s=some q→q=u++s
 | [],s,q,h=>by rw [Ey] at h;cases h;rfl
 | p::r,s,q,h=>by
  rw [Ey] at h
  split at h<;>cases h
  rename_i l hl
  rw [Be hl];rfl
def sP (nx nx':Nat) (news:List Nat):Bool:=Nat.ble nx nx'&&news.all fun n=>Nat.ble nx n&&Nat.blt n nx'
theorem PK (h:sP nx nx' news=true):nx≤nx'∧∀ n∈news,nx≤n∧n<nx':=by
 unfold sP at h
 rw [Bool.and_eq_true] at h
 refine ⟨Nat.le_of_ble_eq_true h.1,fun n hn=>?_⟩
 have:=List.all_eq_true.1 h.2 n hn
 rw [Bool.and_eq_true] at this
 exact ⟨Nat.le_of_ble_eq_true this.1,by simpa using this.2⟩
theorem r_m {d:Nat} (law:aC P N o fp v up news) (nx':Nat) (hn:sP nx nx' news=true) (hg:ax l o ⟨tm,st,nx,nt⟩=some true) (hd:o.dst=some d) (hlt:Nat.blt d nt=true) (hh:Holds fp ⟨tm,st,nx,nt⟩) (hst:Ey up st=some st2) (k:ay P N l K r ⟨(d,v)::tm,st2,nx',nt⟩ (tr++[aH l o fp up])):ay P N l K (o::r) ⟨tm,st,nx,nt⟩ tr :=
 .on fp v up news nx' hg law hh (PK hn) (fun d' h=>by rw [hd] at h;cases h;exact kV hlt) (by
  have e:S.eff ⟨tm,st,nx,nt⟩ o.dst v up nx'=⟨(d,v)::tm,st2,nx',nt⟩:=by rw [hd,Be hst];rfl
  rw [e];exact k)
theorem adU (law:aC P N o fp v up news) (nx':Nat) (hn:sP nx nx' news=true) (hg:ax l o ⟨tm,st,nx,nt⟩=some true) (hd:o.dst=none) (hh:Holds fp ⟨tm,st,nx,nt⟩) (hst:Ey up st=some st2) (k:ay P N l K r ⟨tm,st2,nx',nt⟩ (tr++[aH l o fp up])):ay P N l K (o::r) ⟨tm,st,nx,nt⟩ tr :=
 .on fp v up news nx' hg law hh (PK hn) (fun d' h=>by rw [hd] at h;cases h) (by
  have e:S.eff ⟨tm,st,nx,nt⟩ o.dst v up nx'=⟨tm,st2,nx',nt⟩:=by rw [hd,Be hst];rfl
  rw [e];exact k)
end
section
variable {P:Program} {N:Env} {tb:List Ty} {st:List Blk} {st' us:List (Option Blk)} {f:FuncId} {fn:Func} {c:Code} {rs:List ResultVar} {w:V} {nt:Nat} {s:S} {k:Nat}
variable {args:List V} {s0:List (Nat × Option Blk)}
theorem bL {gl:iI} {tm:List (Nat × V)} {k:Nat} (htb:aL P tb) (hf:P.funcs[f]? = some fn) (hb:fn.body=some c) (hnt:fn.ntmps=nt) (hrs:fn.results=rs.toArray) (hn:Nat.ble args.length nt=true) (htm:kG args 0=tm) (hs0:gU st 0=s0) (hk:st.length=k) (h:∀ (bl:Nat→Prop) (pl:Nat→Pl),AWp P ⟨⟨bl,gl⟩,k,pl,[]⟩ c (Q0 tb rs k w st') ⟨tm,s0,k,nt⟩):aR P gl f args st w st' :=
 Cv htb hf hb (by rw [hnt];exact hn) fun bl pl=>by subst htm hs0 hk;rw [hnt,hrs];exact h bl pl
theorem bP {tm:List (Nat × V)} {k:Nat} (htb:aL P tb) (hf:P.funcs[f]? = some fn) (hb:fn.body=some c) (hnt:fn.ntmps=nt) (hrs:fn.results=rs.toArray) (hn:Nat.ble args.length nt=true) (htm:kG args 0=tm) (hs0:gU st 0=s0) (hk:st.length=k) (h:∀ (b:Bg) (pl:Nat→Pl),AWp P ⟨b,k,pl,[]⟩ c (Q0 tb rs k w st') ⟨tm,s0,k,nt⟩):aK P f args st w st' :=
 fun g=>Cv htb hf hb (by rw [hnt];exact hn) fun bl pl=>by subst htm hs0 hk;rw [hnt,hrs];exact h ⟨bl,g⟩ pl
end
end Abs
end
end Go.Proofs.YtlfdjpgghiemfaaGreatDoor
