/- Texts of the proof, joined: AbsP. -/
import Derived.Test.YtlfdjpgghiemfaaGreatDoorH8
import Derived.Test.YtlfdjpgghiemfaaGreatDoorH9
namespace Go.Proofs.YtlfdjpgghiemfaaGreatDoor
section
namespace Abs
open Go.RowKit Mem Facts Seen Go.WideShapes Go.ChangeShapes Go.Deep
def xO (P:Program) (t:TypeId):Bool:=match P.underlying t with
 | some (.struct _)|some (.array _ _)=>true
 | _=>false
def Dp (agg:Bool) (x:List V):V:=bif agg then .agg x else x.headD .und
section
variable (P:Program) (okS:Nat→Prop) (okL:TypeId→Nat→Prop)
def Typed:Nat→TypeId→List V→Prop
 | 0,_,_=>False
 | n+1,t,us=>match P.underlying t with
  | some .bool=>∃ b,us=[.bool b]
  | some (.int k)=>∃ i,us=[.int k i]
  | some .string=>∃ s,us=[.str s]∧okS s.size
  | some (.slice e)=>∃ L:List (List V),us=[.fro (L.map (Dp (xO P e)))]∧(∃ c,L.length≤c∧(c=0∨okL e c))∧(∀ x∈L,x.length=P.cellsOf e)∧∀ x∈L,Typed n e x
  | some (.struct fs)=>us.length=P.cellsOf t∧∀ (j:Nat) (f:Field),fs[j]? = some f→Typed n f.type ((us.drop f.offset).take (P.cellsOf f.type))
  | some (.array m e)=>us.length=P.cellsOf t∧∀ i,i<m→Typed n e ((us.drop (i*P.cellsOf e)).take (P.cellsOf e))
  | _=>False
def zT:Nat→Nat→List Field→Bool
 | acc,tot,[]=>acc==tot
 | acc,tot,f::r=>f.offset==acc&&zT (acc+P.cellsOf f.type) tot r
def fK:Nat→TypeId→Bool
 | 0,_=>false
 | n+1,t=>match P.underlying t with
  | some .bool|some (.int _)|some .string=>P.cellsOf t==1
  | some (.slice e)=>P.cellsOf t==1&&fK n e&&Nat.ble 1 (P.cellsOf e)&&Nat.ble 1 (P.bytesOf e)
  | some (.struct fs)=>zT P 0 (P.cellsOf t) fs.toList&&fs.toList.all fun f=>fK n f.type
  | some (.array m e)=>P.cellsOf t==m*P.cellsOf e&&fK n e
  | _=>false
end
section
variable {P:Program} {w:World} {okS:Nat→Prop} {okL:TypeId→Nat→Prop}
def Cells (w:World) (us:List V) (cs:List Value):Prop:=us.length=cs.length∧(∀ u∈us,u.one=true)∧∀ (i:Nat) u c,us[i]? = some u→cs[i]? = some c→Fz (fun _=>False) w u c
theorem xS {a b:List V} {c d:List Value} (h:Cells w a c) (k:Cells w b d):Cells w (a++b) (c++d):=by
 refine ⟨by simp [h.1,k.1],fun u hu=>(List.mem_append.1 hu).elim (h.2.1 u) (k.2.1 u),fun i u x hu hx=>?_⟩
 by_cases hi:i<a.length
 ·rw [List.getElem?_append_left hi] at hu
  rw [List.getElem?_append_left (by rw [← h.1];exact hi)] at hx
  exact h.2.2 i u x hu hx
 ·rw [List.getElem?_append_right (by omega)] at hu
  rw [List.getElem?_append_right (by rw [← h.1];omega),← h.1] at hx
  exact k.2.2 _ u x hu hx
theorem vW {n:Nat}:∀ (L:List (List Value)),(∀ x∈L,x.length=n)→∀ (i j:Nat) x c,L[i]? = some x→x[j]? = some c→L.flatten[i*n+j]? = some c
 | [],_,_,_,_,_,h,_=>by simp at h
 | y::L,hn,0,j,x,c,hx,hc=>by
  simp at hx;subst hx
  have:j<y.length:=(List.getElem?_eq_some_iff.1 hc).1
  rw [List.flatten_cons,List.getElem?_append_left (by omega)];simpa using hc
 | y::L,hn,i+1,j,x,c,hx,hc=>by
  have hy:=hn y (by simp)
  rw [List.flatten_cons,List.getElem?_append_right (by rw [hy,Nat.add_mul];omega)]
  have:=vW L (fun z hz=>hn z (by simp [hz])) i j x c (by simpa using hx) hc
  rw [hy,show (i+1)*n+j-n=i*n+j from by rw [Nat.add_mul];omega]
  exact this
theorem Ko {R:List Value→List V→Prop}:∀ (L:List (List Value)),(∀ x∈L,∃ us,R x us)→∃ L':List (List V),L'.length=L.length∧∀ (i:Nat) x us,L[i]? = some x→L'[i]? = some us→R x us
 | [],_=>⟨[],rfl,fun i x us h=>by simp at h⟩
 | y::L,h=>by
  obtain ⟨us,hu⟩:=h y (by simp)
  obtain ⟨L',h1,h2⟩:=Ko L fun x hx=>h x (by simp [hx])
  refine ⟨us::L',by simp [h1],fun i x vs hx hv=>?_⟩
  rcases i with _|i
  ·simp at hx hv;subst hx hv;exact hu
  ·exact h2 i x vs (by simpa using hx) (by simpa using hv)
theorem wJ {n:Nat} {cs:List Value} {tot:Nat} (ih:∀ t cs,fK P n t=true→sQ P w okS okL n t cs→∃ us,Typed P okS okL n t us∧Cells w us cs):∀ (fs:List Field) (acc:Nat),zT P acc tot fs=true→(fs.all fun f=>fK P n f.type)=true→cs.length=tot →
  (∀ (j:Nat) f,fs[j]? = some f→sQ P w okS okL n f.type ((cs.drop f.offset).take (P.cellsOf f.type)))→acc≤tot →
  ∃ us,Cells w us (cs.drop acc)∧∀ (j:Nat) f,fs[j]? = some f→acc≤f.offset∧Typed P okS okL n f.type ((us.drop (f.offset-acc)).take (P.cellsOf f.type))
 | [],acc,hl,_,hc,_,_=>by
  simp only [zT,beq_iff_eq] at hl
  refine ⟨[],⟨by simp;omega,fun u hu=>by simp at hu,fun i u c h=>by simp at h⟩,fun j f h=>by simp at h⟩
 | f::r,acc,hl,hp,hc,hs,hacc=>by
  simp only [zT,Bool.and_eq_true,beq_iff_eq] at hl
  simp only [List.all_cons,Bool.and_eq_true] at hp
  obtain ⟨us1,t1,c1⟩:=ih f.type _ hp.1 (hs 0 f rfl)
  rw [hl.1] at c1
  have hmono:∀ (fs:List Field) (a:Nat),zT P a tot fs=true→a≤tot:=fun fs=>by
   induction fs with
   | nil=>intro a h;simp only [zT,beq_iff_eq] at h;omega
   | cons f r ih=>intro a h;simp only [zT,Bool.and_eq_true] at h;have:=ih _ h.2;omega
  have h2:=hmono r _ hl.2
  obtain ⟨us2,c2,t2⟩:=wJ ih r (acc+P.cellsOf f.type) hl.2 hp.2 hc (fun j g hg=>hs (j+1) g (by simpa using hg)) h2
  have hlen:us1.length=P.cellsOf f.type:=by
   rw [c1.1];simp;omega
  refine ⟨us1++us2,?_,fun j g hg=>?_⟩
  ·have:=xS c1 c2
   have e:(cs.drop acc).take (P.cellsOf f.type)++cs.drop (acc+P.cellsOf f.type)=cs.drop acc:=by
    rw [← List.drop_drop];exact List.take_append_drop _ _
   rw [e] at this
   exact this
  ·rcases j with _|j
   ·simp at hg;subst hg
    refine ⟨by omega,?_⟩
    rw [hl.1,Nat.sub_self,List.drop_zero,List.take_append_of_le_length (by omega),List.take_of_length_le (by omega)]
    exact t1
   ·obtain ⟨k1,k2⟩:=t2 j g (by simpa using hg)
    refine ⟨by omega,?_⟩
    rw [List.drop_append,List.drop_of_length_le (by omega),List.nil_append,hlen,show g.offset-acc-P.cellsOf f.type=g.offset-(acc+P.cellsOf f.type) from by omega]
    exact k2
theorem LU {n e:Nat} {cs:List Value} (ih:∀ t cs,fK P n t=true→sQ P w okS okL n t cs→∃ us,Typed P okS okL n t us∧Cells w us cs) (hp:fK P n e=true):∀ (m:Nat),cs.length=m*P.cellsOf e→(∀ i,i<m→sQ P w okS okL n e ((cs.drop (i*P.cellsOf e)).take (P.cellsOf e))) →
  ∃ us,Cells w us cs∧∀ i,i<m→Typed P okS okL n e ((us.drop (i*P.cellsOf e)).take (P.cellsOf e)):=fun m=>by
 suffices H:∀ k,k≤m→cs.length=m*P.cellsOf e→(∀ i,i<m→sQ P w okS okL n e ((cs.drop (i*P.cellsOf e)).take (P.cellsOf e)))→∃ us,Cells w us (cs.take (k*P.cellsOf e))∧∀ i,i<k→Typed P okS okL n e ((us.drop (i*P.cellsOf e)).take (P.cellsOf e)) from fun hc hs=>by
  obtain ⟨us,h1,h2⟩:=H m (Nat.le_refl _) hc hs
  rw [List.take_of_length_le (by omega)] at h1
  exact ⟨us,h1,h2⟩
 intro k
 induction k with
 | zero=>intro _ hc hs;exact ⟨[],⟨by simp,fun u hu=>by simp at hu,fun i u c h=>by simp at h⟩,fun i hi=>by omega⟩
 | succ k ih2 =>
  intro hk hc hs
  obtain ⟨us,h1,h2⟩:=ih2 (by omega) hc hs
  obtain ⟨vs,t1,c1⟩:=ih e _ hp (hs k (by omega))
  have hle:(k+1)*P.cellsOf e≤m*P.cellsOf e:=Nat.mul_le_mul_right _ hk
  rw [Nat.add_mul,Nat.one_mul] at hle
  have hlen:us.length=k*P.cellsOf e:=by rw [h1.1];simp;omega
  have hvl:vs.length=P.cellsOf e:=by rw [c1.1];simp;omega
  refine ⟨us++vs,?_,fun i hi=>?_⟩
  ·have:=xS h1 c1
   rw [Nat.add_mul,Nat.one_mul,List.take_add]
   exact this
  ·by_cases h:i<k
   ·have h3:(i+1)*P.cellsOf e≤k*P.cellsOf e:=Nat.mul_le_mul_right _ h
    rw [Nat.add_mul,Nat.one_mul] at h3
    rw [List.drop_append_of_le_length (by omega),List.take_append_of_le_length (by simp;omega)]
    exact h2 i h
   ·obtain rfl:i=k:=by omega
    rw [← hlen,List.drop_append_of_le_length (Nat.le_refl _),List.drop_length,List.nil_append,List.take_of_length_le (by omega)]
    exact t1
theorem Br (hL:∀ e n,okL e n→n*P.bytesOf e≤140737488351232) (hS:∀ n,okS n→n≤dY):∀ (n:Nat) (t:TypeId) (cs:List Value),fK P n t=true→sQ P w okS okL n t cs→∃ us,Typed P okS okL n t us∧Cells w us cs
 | 0,_,_,_,h=>h.elim
 | n+1,t,cs,hp,h=>by
  have ih:=Br hL hS n
  unfold fK at hp
  unfold sQ at h
  unfold Typed
  cases hu:P.underlying t with
  | none=>rw [hu] at hp;cases hp
  | some d =>
   rw [hu] at hp h
   cases d with
   | bool =>
    obtain ⟨b,rfl⟩:=h
    exact ⟨[.bool b],⟨b,rfl⟩,rfl,by simp [V.one],fun i u c hu hc=>by
     rcases i with _|i
     ·simp at hu hc;subst hu hc;exact .bool
     ·simp at hu⟩
   | int k =>
    obtain ⟨i,rfl,hwf⟩:=h
    exact ⟨[.int k i],⟨i,rfl⟩,rfl,by simp [V.one],fun j u c hu hc=>by
     rcases j with _|j
     ·simp at hu hc;subst hu hc;exact .int (aaX.1 hwf)
     ·simp at hu⟩
   | string =>
    obtain ⟨s,rfl,hs⟩:=h
    exact ⟨[.str s],⟨s,rfl,hs⟩,rfl,by simp [V.one],fun j u c hu hc=>by
     rcases j with _|j
     ·simp at hu hc;subst hu hc;exact .str (hS _ hs)
     ·simp at hu⟩
   | slice e =>
    simp only [Bool.and_eq_true,beq_iff_eq] at hp
    obtain ⟨⟨⟨_,hpe⟩,hc0⟩,hb0⟩:=hp
    have hc0:=Nat.le_of_ble_eq_true hc0
    have hb0:=Nat.le_of_ble_eq_true hb0
    obtain ⟨A,c,L,rfl,h1,h2,h3,h4,h5,h6⟩:=h
    obtain ⟨L',l1,l2⟩:=Ko (R:=fun x us=>Typed P okS okL n e us∧Cells w us x) L fun x hx=>ih e x hpe (h6 x hx)
    have hlc:L.length≤LIM:=by
     rcases h3 with h3|h3
     ·have:=h1 h3;simp only [LIM];omega
     ·have:=hL e c h3
      have:c*1≤c*P.bytesOf e:=Nat.mul_le_mul_left _ hb0
      simp only [LIM];omega
    have at':∀ (i:Nat) us,L'[i]? = some us→∃ x,L[i]? = some x∧Typed P okS okL n e us∧Cells w us x:=fun i us hi=>by
     have hl:i<L.length:=by rw [← l1];exact (List.getElem?_eq_some_iff.1 hi).1
     exact ⟨L[i],List.getElem?_eq_getElem hl,l2 i L[i] us (List.getElem?_eq_getElem hl) hi⟩
    have mem':∀ us∈L',Typed P okS okL n e us∧us.length=P.cellsOf e∧∀ u∈us,u.one=true:=fun us hus=>by
     obtain ⟨i,hi⟩:=List.mem_iff_getElem?.1 hus
     obtain ⟨x,k1,k2,k3⟩:=at' i us hi
     exact ⟨k2,by rw [k3.1];exact h5 x (List.mem_of_getElem? k1),k3.2.1⟩
    refine ⟨[.fro (L'.map (Dp (xO P e)))],⟨L',rfl,⟨c,by omega,h3.imp h1 id⟩,fun x hx=>(mem' x hx).2.1,fun x hx=>(mem' x hx).1⟩,rfl,by simp [V.one],fun j u c' hu hc'=>?_⟩
    rcases j with _|j
    ·simp at hu hc'
     subst hu hc'
     by_cases h0:L=[]
     ·subst h0
      have:L'=[]:=by simpa using l1
      subst this
      exact .fro0 h1
     ·have hpos:0<L.flatten.length:=by
       cases L with
       | nil=>exact absurd rfl h0
       | cons y L =>
        have:=h5 y (by simp)
        rw [List.flatten_cons,List.length_append];omega
      obtain ⟨b,o,rfl,hb,hcell⟩:=h4 hpos
      have cellsEl:∀ us∈L',(Dp (xO P e) us).cells=us:=fun us hus=>by
       unfold Dp
       cases ha:xO P e with
       | true=>rfl
       | false =>
        obtain ⟨k1,k2,k3⟩:=mem' us hus
        have h1c:P.cellsOf e=1:=by
         cases n with
         | zero=>exact k1.elim
         | succ m =>
          unfold fK at hpe
          unfold xO at ha
          cases hue:P.underlying e with
          | none=>rw [hue] at hpe;cases hpe
          | some de =>
           rw [hue] at hpe ha
           cases de<;>first
            | (simp at ha;done)
            | (simp at hpe;done)
            | (simp only [beq_iff_eq] at hpe;exact hpe)
            | (simp only [Bool.and_eq_true,beq_iff_eq] at hpe;exact hpe.1.1.1)
        rw [h1c] at k2
        match us,k2 with
        | [u],_ =>
         have:=k3 u (by simp)
         cases u<;>first|rfl|(simp [V.one] at this)
      have:=Fz.fro (X:=fun _=>False) (w:=w) (xs:=L'.map (Dp (xO P e))) (b:=b) (o:=o) (sz:=P.cellsOf e) (cap:=c) (fun i j=>(w.cell? ⟨b,o+i*P.cellsOf e+j,none⟩).getD undef) id hb (by omega) (by simp;omega) (by simp;omega)
       (fun x hx=>by
        obtain ⟨us,hus,rfl⟩:=List.mem_map.1 hx
        rw [cellsEl us hus]
        exact (mem' us hus).2)
       (fun i j x u hx hu=>by
        rw [List.getElem?_map,Option.map_eq_some_iff] at hx
        obtain ⟨us,hus,rfl⟩:=hx
        rw [cellsEl us (List.mem_of_getElem? hus)] at hu
        obtain ⟨y,k1,k2,k3⟩:=at' i us hus
        have hj:j<y.length:=by rw [← k3.1];exact (List.getElem?_eq_some_iff.1 hu).1
        have hfl:=vW L h5 i j y y[j] k1 (List.getElem?_eq_getElem hj)
        obtain ⟨hfl1,hfl2⟩:=List.getElem?_eq_some_iff.1 hfl
        have:=hcell _ hfl1
        rw [hfl2,← Nat.add_assoc] at this
        rw [this];rfl)
       (fun i j x u hx hu=>by
        rw [List.getElem?_map,Option.map_eq_some_iff] at hx
        obtain ⟨us,hus,rfl⟩:=hx
        rw [cellsEl us (List.mem_of_getElem? hus)] at hu
        obtain ⟨y,k1,k2,k3⟩:=at' i us hus
        have hj:j<y.length:=by rw [← k3.1];exact (List.getElem?_eq_some_iff.1 hu).1
        have hfl:=vW L h5 i j y y[j] k1 (List.getElem?_eq_getElem hj)
        obtain ⟨hfl1,hfl2⟩:=List.getElem?_eq_some_iff.1 hfl
        have:=hcell _ hfl1
        rw [hfl2,← Nat.add_assoc] at this
        rw [this]
        exact k3.2.2 j u _ hu (List.getElem?_eq_getElem hj))
      rw [List.length_map,l1] at this
      exact this
    ·simp at hu
   | struct fs =>
    simp only [Bool.and_eq_true] at hp
    obtain ⟨h1,h2⟩:=h
    obtain ⟨us,c1,t1⟩:=wJ (cs:=cs) ih fs.toList 0 hp.1 hp.2 h1 (fun j f hj=>h2 j f (by simpa using hj)) (Nat.zero_le _)
    rw [List.drop_zero] at c1
    exact ⟨us,⟨by rw [c1.1];exact h1,fun j f hj=>by have:=(t1 j f (by simpa using hj)).2;rwa [Nat.sub_zero] at this⟩,c1⟩
   | array m e =>
    simp only [Bool.and_eq_true,beq_iff_eq] at hp
    obtain ⟨h1,h2⟩:=h
    obtain ⟨us,c1,t1⟩:=LU ih hp.2 m (by rw [h1,hp.1]) h2
    exact ⟨us,⟨by rw [c1.1];exact h1,t1⟩,c1⟩
   | _=>cases hp
def abV (P:Program) (w:World) (okS:Nat→Prop) (okL:TypeId→Nat→Prop) (t:TypeId) (v:Value):Prop:=∃ n us,Typed P okS okL n t us∧Fz (fun _=>False) w (Dp (xO P t) us) v
theorem qp:∀ (n:Nat) (t:TypeId) (k:Nat),fK P n t=true→n≤k→fK P k t=true
 | 0,_,_,h,_=>by simp [fK] at h
 | n+1,t,0,_,hk=>by omega
 | n+1,t,k+1,h,hk=>by
  unfold fK at h ⊢
  cases hu:P.underlying t with
  | none=>rw [hu] at h;cases h
  | some d =>
   rw [hu] at h
   cases d with
   | slice e =>
    simp only [Bool.and_eq_true] at h ⊢
    exact ⟨⟨⟨h.1.1.1,qp n e k h.1.1.2 (by omega)⟩,h.1.2⟩,h.2⟩
   | struct fs =>
    simp only [Bool.and_eq_true] at h ⊢
    refine ⟨h.1,List.all_eq_true.2 fun f hf=>qp n f.type k (List.all_eq_true.1 h.2 f hf) (by omega)⟩
   | array m e =>
    simp only [Bool.and_eq_true] at h ⊢
    exact ⟨h.1,qp n e k h.2 (by omega)⟩
   | _=>exact h
theorem uF:∀ (n:Nat) (t:TypeId) (cs:List Value) (k:Nat),sQ P w okS okL n t cs→n≤k→sQ P w okS okL k t cs
 | 0,_,_,_,h,_=>h.elim
 | n+1,t,cs,0,_,hk=>by omega
 | n+1,t,cs,k+1,h,hk=>by
  unfold sQ at h ⊢
  cases hu:P.underlying t with
  | none=>trivial
  | some d =>
   rw [hu] at h
   cases d with
   | slice e =>
    obtain ⟨A,c,L,h1,h2,h3,h4,h5,h6,h7⟩:=h
    exact ⟨A,c,L,h1,h2,h3,h4,h5,h6,fun x hx=>uF n e x k (h7 x hx) (by omega)⟩
   | struct fs=>exact ⟨h.1,fun j f hj=>uF n f.type _ k (h.2 j f hj) (by omega)⟩
   | array m e=>exact ⟨h.1,fun i hi=>uF n e _ k (h.2 i hi) (by omega)⟩
   | _=>exact h
theorem Kq {r:Reach} {b0:Nat} {t:TypeId} {v:Value} (hL:∀ e n,okL e n→n*P.bytesOf e≤140737488351232) (hS:∀ n,okS n→n≤dY) (hp:fK P 12 t=true) (hv:Value.okWide P w r b0 t v) (h:∃ n,sQ P w okS okL n t v.cells.toList):abV P w okS okL t v:=by
 obtain ⟨n,h⟩:=h
 have h':=uF n t _ (max n 12) h (by omega)
 have hp':=qp 12 t (max n 12) hp (by omega)
 obtain ⟨us,t1,c1⟩:=Br hL hS _ t _ hp' h'
 refine ⟨_,us,t1,?_⟩
 have one:us.length=1→v.cells = #[v]→Fz (fun _=>False) w (us.headD .und) v:=fun h1 e=>by
  match us,h1 with
  | [u],_ =>
   rw [e] at c1
   exact c1.2.2 0 u v rfl rfl
 have one':v.cells = #[v]→Fz (fun _=>False) w (us.headD .und) v:=fun e=>one (by rw [c1.1,e];rfl) e
 unfold Dp xO
 unfold fK at hp
 cases hu:P.underlying t with
 | none=>rw [hu] at hp;cases hp
 | some d =>
  rw [hu] at hp
  have agg:(∃ cs:Array Value,v = .agg cs)→Fz (fun _=>False) w (.agg us) v:=fun ⟨cs,e⟩=>by
   subst e
   exact .agg (by simpa [Value.cells] using c1.1) c1.2.1 (fun i u c hu hc=>c1.2.2 i u c hu (by simpa [Value.cells] using hc))
  cases d with
  | bool=>obtain ⟨b,rfl⟩:=okWide_bool hu hv;exact one' rfl
  | int k=>obtain ⟨b,rfl⟩:=okWide_int hu hv;exact one' rfl
  | string=>obtain ⟨b,rfl⟩:=okWide_string hu hv;exact one' rfl
  | slice e=>obtain ⟨A,l,c,rfl⟩:=okWide_slice hu hv;exact one' rfl
  | struct fs=>obtain ⟨cs,h1,_⟩:=okWide_struct hu hv;exact agg ⟨cs,h1⟩
  | array m e =>
   refine agg ?_
   simp only [Value.okWide,hu] at hv
   obtain ⟨cs,h1,_⟩:=hv
   exact ⟨cs,h1⟩
  | _=>cases hp
variable {n:Nat} {t:TypeId} {us:List V}
variable {vs:List Value} {fs:Array Field}
theorem fu (ht:P.underlying t=some .bool) (h:Typed P okS okL n t us):∃ b,us=[.bool b]:=by
 cases n with
 | zero=>exact h.elim
 | succ n=>unfold Typed at h;rw [ht] at h;exact h
theorem dG {k:IntKind} (ht:P.underlying t=some (.int k)) (h:Typed P okS okL n t us):∃ i,us=[.int k i]:=by
 cases n with
 | zero=>exact h.elim
 | succ n=>unfold Typed at h;rw [ht] at h;exact h
theorem abn (ht:P.underlying t=some .string) (h:Typed P okS okL n t us):∃ s,us=[.str s]∧okS s.size:=by
 cases n with
 | zero=>exact h.elim
 | succ n=>unfold Typed at h;rw [ht] at h;exact h
theorem iO (ht:P.underlying t=some (.struct fs)) (h:Typed P okS okL n t us):∃ m,us.length=P.cellsOf t∧∀ (j:Nat) (f:Field),fs[j]? = some f→Typed P okS okL m f.type ((us.drop f.offset).take (P.cellsOf f.type)):=by
 cases n with
 | zero=>exact h.elim
 | succ n=>unfold Typed at h;rw [ht] at h;exact ⟨n,h⟩
theorem Kt {m e:Nat} (ht:P.underlying t=some (.array m e)) (h:Typed P okS okL n t us):∃ q,us.length=P.cellsOf t∧∀ i,i<m→Typed P okS okL q e ((us.drop (i*P.cellsOf e)).take (P.cellsOf e)):=by
 cases n with
 | zero=>exact h.elim
 | succ n=>unfold Typed at h;rw [ht] at h;exact ⟨n,h⟩
theorem aQ {m:Nat} (hf:∀ (j:Nat) (f:Field),fs[j]? = some f→Typed P okS okL m f.type ((us.drop f.offset).take (P.cellsOf f.type))) (j:Nat) {f:Field} (off sz:Nat) (ty:TypeId) (hj:fs[j]? = some f) (ho:f.offset=off) (ht:f.type=ty) (hs:P.cellsOf ty=sz):Typed P okS okL m ty ((us.drop off).take sz):=by
 subst ho ht hs;exact hf j f hj
theorem wP {e:TypeId} {α:Type} (enc:α→V) (Q:α→Prop) (ht:P.underlying t=some (.slice e)) (h:Typed P okS okL n t us) (hd:∀ m x,Typed P okS okL m e x→∃ a,Dp (xO P e) x=enc a∧Q a):∃ L:List α,us=[.fro (L.map enc)]∧(∀ a∈L,Q a)∧∃ c,L.length≤c∧(c=0∨okL e c):=by
 cases n with
 | zero=>exact h.elim
 | succ n =>
  unfold Typed at h;rw [ht] at h
  obtain ⟨L,rfl,h1,h2,h3⟩:=h
  have:∀ L:List (List V),(∀ x∈L,Typed P okS okL n e x)→∃ M:List α,M.length=L.length∧L.map (Dp (xO P e))=M.map enc∧∀ a∈M,Q a:=fun L=>by
   induction L with
   | nil=>exact fun _=>⟨[],rfl,rfl,by simp⟩
   | cons x L ih =>
    intro hx
    obtain ⟨a,ha,hq⟩:=hd n x (hx x (by simp))
    obtain ⟨M,m1,m2,m3⟩:=ih fun y hy=>hx y (by simp [hy])
    exact ⟨a::M,by simp [m1],by simp [m2,ha],fun b hb=>by
     rcases List.mem_cons.1 hb with rfl|hb
     ·exact hq
     ·exact m3 b hb⟩
  obtain ⟨M,m1,m2,m3⟩:=this L h3
  exact ⟨M,by rw [m2],m3,by rw [m1];exact h1⟩
theorem mk_one {e:TypeId} {u:V} (h:xO P e=false):Dp (xO P e) [u]=u:=by rw [h];rfl
theorem Ed {e:TypeId} {us:List V} (h:xO P e=true):Dp (xO P e) us = .agg us:=by rw [h];rfl
inductive Ad (w:World):List V→List Value→Prop
 | nil:Ad w [] []
 | cons {u v us vs}:Fz (fun _=>False) w u v→Ad w us vs→Ad w (u::us) (v::vs)
theorem Ad.len {us:List V} (h:Ad w us vs):us.length=vs.length:=by
 induction h with
 | nil=>rfl
 | cons _ _ ih=>simp [ih]
theorem Ad.at {us:List V} {vs:List Value} (h:Ad w us vs):∀ (i:Nat) u v,us[i]? = some u→vs[i]? = some v→Fz (fun _=>False) w u v:=by
 induction h with
 | nil=>intro i u v h;simp at h
 | cons h1 _ ih =>
  intro i u v hu hv
  rcases i with _|i
  ·simp at hu hv;subst hu hv;exact h1
  ·exact ih i u v (by simpa using hu) (by simpa using hv)
theorem NP {g:iI} {f:FuncId} {us:List V} (h:av P g f us (.bool true)) (hG:kC g (fun _=>False) w) (hv:Ad w us vs):Calls P f vs.toArray w (Gives (.bool true) w) :=
 (h (fun _=>False) w vs.toArray hG (fun _ h=>h.elim) (by simpa using hv.len) fun i u x hu hx=>hv.at i u x hu (by simpa using hx)).mono fun e w' ⟨x,h1,h2,h3⟩=>⟨by rw [h1,Pn h3],h2⟩
end
end Abs
namespace Abs
open Go.RowKit Mem Facts
def str (l:List UInt8):ByteArray:=⟨l.toArray⟩
abbrev au (l:List UInt8):V:=.str (str l)
abbrev qM (L:List (List UInt8)):V:=.fro (L.map au)
abbrev bB (c:UInt8):V:=.int .u8 (c.toNat:Int)
theorem Bv (s:ByteArray):str s.data.toList=s:=by apply ByteArray.ext;simp [str]
theorem aY (l:List UInt8):(str l).data.toList=l:=by simp [str]
theorem aM (l:List UInt8):(str l).size=l.length:=by simp [str,ByteArray.size]
theorem str_inj {l m:List UInt8}:str l=str m↔l=m:=⟨fun h=>by rw [← aY l,h,aY],fun h=>by rw [h]⟩
theorem YB (l m:List UInt8):str l++str m=str (l++m):=by apply ByteArray.ext;simp [str,ByteArray.data_append]
theorem str_slice (l:List UInt8) (a b:Nat):(str l).extract a b=str ((l.take b).drop a):=by
 apply ByteArray.ext
 simp only [str,ByteArray.data_extract]
 apply Array.ext'
 simp [List.extract_eq_take_drop,List.drop_take]
theorem YO {l:List UInt8} {i:Nat} {c:UInt8} (h:l[i]? = some c):(str l)[i]? = some c:=by
 obtain ⟨hi,e⟩:=List.getElem?_eq_some_iff.1 h
 rw [getElem?_pos (str l) i (by rw [aM];exact hi)]
 exact congrArg some e
theorem lM {P:Program} {t:TypeId} {okS:Nat→Prop} {okL:TypeId→Nat→Prop} {n:Nat} {us:List V} (ht:P.underlying t=some .string) (h:Typed P okS okL n t us):∃ l:List UInt8,us=[au l]∧okS l.length:=by
 obtain ⟨s,h1,h2⟩:=abn ht h
 exact ⟨s.data.toList,by rw [h1,au,Bv],by rw [← aM,Bv];exact h2⟩
section
variable {P:Program} {N:Env} {o:Oper} {tb:List Ty} {T:Nat} {e ee:Ty} {t t':TypeId} {x y z:Operand} {l m:List UInt8} {r:Bool}
variable {b a:Int} {k:IntKind}
theorem qz (ho:o.op = .binOp .eql t x y t') (h:decide (l=m)=r):aC P N o ⟨[(x,au l),(y,au m)],[]⟩ (.bool r) [] []:=LV ho (by rw [← h];simp only [str_inj])
theorem pE (ho:o.op = .binOp .neq t x y t') (h:decide (l≠m)=r):aC P N o ⟨[(x,au l),(y,au m)],[]⟩ (.bool r) [] []:=Kw ho (by rw [← h];simp only [ne_eq,str_inj])
theorem Qr (ho:o.op = .binOp .add t x y t') (h:l.length+m.length≤dY):aC P N o ⟨[(x,au l),(y,au m)],[]⟩ (au (l++m)) [] []:=by
 have:=XD (P:=P) (N:=N) (a:=str l) (b:=str m) ho (by rw [aM,aM];exact h)
 rwa [YB] at this
theorem Jl (ho:o.op = .call { callee:=.builtin .len,args := #[x],argTypes := #[t] }) (ht:P.underlying t=some .string):aC P N o ⟨[(x,au l)],[]⟩ (.int .i64 l.length) [] []:=by
 have:=K6 (P:=P) (N:=N) (a:=str l) ho ht
 rwa [aM] at this
theorem Df {i:Int} {c:UInt8} (htb:aL P tb) (ho:o.op = .index T x y) (hT:nth tb T=some e) (hk:e.knd=2) (h0:0≤i) (hv:l[i.toNat]? = some c):aC P N o ⟨[(x,au l),(y,.int k i)],[]⟩ (bB c) [] []:=EI htb ho hT hk h0 (YO hv)
theorem Ep {k':IntKind} (htb:aL P tb) (ho:o.op = .slice T x (some y) (some z) none) (hT:nth tb T=some e) (hk:e.knd=2) (h0:0≤a) (h1:a≤b) (h2:b≤l.length):aC P N o ⟨[(x,au l),(y,.int k a),(z,.int k' b)],[]⟩ (au ((l.take b.toNat).drop a.toNat)) [] []:=by
 have:=ES (P:=P) (N:=N) (s:=str l) (k:=k) (k':=k') htb ho hT hk h0 h1 (by rw [aM];exact h2)
 rwa [str_slice] at this
theorem uQ (htb:aL P tb) (ho:o.op = .slice T x (some y) none none) (hT:nth tb T=some e) (hk:e.knd=2) (h0:0≤a) (h1:a≤l.length):aC P N o ⟨[(x,au l),(y,.int k a)],[]⟩ (au (l.drop a.toNat)) [] []:=by
 have:=vY (P:=P) (N:=N) (s:=str l) (k:=k) htb ho hT hk h0 (by rw [aM];exact h1)
 rwa [str_slice,aM,List.take_length] at this
theorem yo (htb:aL P tb) (ho:o.op = .slice T x none (some z) none) (hT:nth tb T=some e) (hk:e.knd=2) (h0:0≤b) (h2:b≤l.length):aC P N o ⟨[(x,au l),(z,.int k b)],[]⟩ (au (l.take b.toNat)) [] []:=by
 have:=zf (P:=P) (N:=N) (s:=str l) (k:=k) htb ho hT hk h0 (by rw [aM];exact h2)
 rwa [str_slice,List.drop_zero] at this
theorem MP {src dst:TypeId} {el:Nat} {e':Ty} (htb:aL P tb) (ho:o.op = .convert src dst x) (hS:nth tb src=some e) (hD:nth tb dst=some e') (hk:Nat.beq e.knd 2=true) (hs:e'.sl=some el) (hE:nth tb el=some ee) (he:Nat.beq ee.knd 24=true) (hl:l.length≤LIM) :
  aC P N o ⟨[(x,au l)],[]⟩ (.fro (l.map bB)) [] []:=by
 have:=QG (P:=P) (N:=N) (b:=str l) htb ho hS hD hk hs hE he (by rw [aM];exact hl)
 rwa [aY] at this
end
variable {φ:Nat→Pl} {X A:Nat→Prop}
theorem P6 {w:World} {t:TypeId} {v:V} {x:Value} (h:Rep X A φ w (.ifc t v) x):∃ u,x = .iface t u:=by
 cases h with
 | fz h=>cases h with
  | ifc h=>exact ⟨_,rfl⟩
 | ifc h=>exact ⟨_,rfl⟩
theorem oQ {w:World} {x:Value} (h:Rep X A φ w .nili x):x = .nilIface:=by
 cases h with
 | fz h=>cases h;rfl
section
variable {P:Program} {N:Env} {o:Oper} {T T' t:TypeId} {x y:Operand} {v:V}
theorem J5 (ho:o.op = .binOp .neq T x y T') (h:P.underlying T=some (.interface (P.methodsAt T))):aC P N o ⟨[(x,.ifc t v),(y,.nili)],[]⟩ (.bool true) [] []:=aD fun s M A φ a w hh hr=>by
 refine ⟨.bool true,?_,.fz .bool⟩
 obtain ⟨u,hu⟩:=P6 (hr.ev hh.a)
 have e:=run_neq_held_nil w T t u h
 unfold execOp
 simp only [ho,hu,oQ (hr.ev hh.b),eqGuard]
 simp only [Sem.run_bind,Bool.not_true,Bool.false_eq_true,if_false,Sem.run_pure,Result.andThen_ok,e]
theorem JV (ho:o.op = .binOp .eql T x y T') (h:P.underlying T=some (.interface (P.methodsAt T))):aC P N o ⟨[(x,.ifc t v),(y,.nili)],[]⟩ (.bool false) [] []:=aD fun s M A φ a w hh hr=>by
 refine ⟨.bool false,?_,.fz .bool⟩
 obtain ⟨u,hu⟩:=P6 (hr.ev hh.a)
 have e:=run_eql_held_nil w T t u h
 unfold execOp
 simp only [ho,hu,oQ (hr.ev hh.b),eqGuard]
 simp only [Sem.run_bind,Bool.not_true,Bool.false_eq_true,if_false,Sem.run_pure,Result.andThen_ok,e]
theorem G5 {c:Value} (ho:o.op = .binOp .neq T x (.const c) T') (h:P.underlying T=some (.interface (P.methodsAt T))):aC P N o ⟨[(x,.nili),(.const c,.nili)],[]⟩ (.bool false) [] []:=aD fun s M A φ a w hh hr=>by
 refine ⟨.bool false,?_,.fz .bool⟩
 have e:=run_neq_nil_nil w T h
 unfold execOp
 simp only [ho,oQ (hr.ev hh.a),oQ (hr.ev hh.b),eqGuard]
 simp only [Sem.run_bind,Bool.not_true,Bool.or_true,if_true,Bool.false_eq_true,if_false,Sem.run_pure,Result.andThen_ok,e]
theorem I9 {c:Value} (ho:o.op = .binOp .eql T x (.const c) T') (h:P.underlying T=some (.interface (P.methodsAt T))):aC P N o ⟨[(x,.nili),(.const c,.nili)],[]⟩ (.bool true) [] []:=aD fun s M A φ a w hh hr=>by
 refine ⟨.bool true,?_,.fz .bool⟩
 have e:=run_eql_nil_nil w T h
 unfold execOp
 simp only [ho,oQ (hr.ev hh.a),oQ (hr.ev hh.b),eqGuard]
 simp only [Sem.run_bind,Bool.not_true,Bool.or_true,if_true,Bool.false_eq_true,if_false,Sem.run_pure,Result.andThen_ok,e]
end
theorem isR {P:Program} {N:Env} {l r:List Oper} {s:S} {tr:List Tr} {K:S→List Tr→Prop} (g:ay P N l K r s tr):ay P N l K r s tr:=g
section
variable {P:Program} {N:Env} {l r:List Oper} {o:Oper} {tm:List (Nat × V)} {st:List (Nat × Option Blk)} {nx nt:Nat} {tr:List Tr} {K:S→List Tr→Prop} {fp:Fp} {s:S} {Q:Exit→S→Prop} {x y:Code}
variable {d:Nat} {b:Bool}
theorem kK {p:Prop} [Decidable p] (hg:ax l o ⟨tm,st,nx,nt⟩=some true) (hd:o.dst=some d) (hlt:Nat.blt d nt=true) (law:∀ r,decide p=r→aC P N o fp (.bool r) [] []) (hh:Holds fp ⟨tm,st,nx,nt⟩) (k1:p→ay P N l K r ⟨(d,.bool true)::tm,st,nx,nt⟩ (tr++[aH l o fp []])) (k2:¬ p→ay P N l K r ⟨(d,.bool false)::tm,st,nx,nt⟩ (tr++[aH l o fp []])):ay P N l K (o::r) ⟨tm,st,nx,nt⟩ tr:=by
 by_cases h:p
 ·exact aJ hg hd hlt (law true (decide_eq_true h)) hh (k1 h)
 ·exact aJ hg hd hlt (law false (decide_eq_false h)) hh (k2 h)
theorem si (hg:ax l o ⟨tm,st,nx,nt⟩=some true) (hd:o.dst=some d) (hlt:Nat.blt d nt=true) (law:aC P N o fp (.bool b) [] []) (hh:Holds fp ⟨tm,st,nx,nt⟩) (k1:b=true→ay P N l K r ⟨(d,.bool true)::tm,st,nx,nt⟩ (tr++[aH l o fp []])) (k2:b=false→ay P N l K r ⟨(d,.bool false)::tm,st,nx,nt⟩ (tr++[aH l o fp []])):ay P N l K (o::r) ⟨tm,st,nx,nt⟩ tr:=by
 cases b with
 | true=>exact aJ hg hd hlt law hh (k1 rfl)
 | false=>exact aJ hg hd hlt law hh (k2 rfl)
theorem fT {c:Operand} (hc:s.ev c=some (.bool b)) (k1:b=true→AWp P N x Q s) (k2:b=false→AWp P N y Q s):AWp P N (.cond c x y) Q s:=by
 refine Ct hc ?_
 cases b with
 | true=>exact k1 rfl
 | false=>exact k2 rfl
end
end Abs
namespace Abs
open Go.RowKit Mem Facts
mutual
theorem El:∀ v:V,v.ren id=v
 | .agg vs=>by rw [V.ren,lS vs]
 | .tup vs=>by rw [V.ren,lS vs]
 | .fn f a b=>by rw [V.ren,lS a,lS b]
 | .ifc t v=>by rw [V.ren,El v]
 | .own _ _ _|.loc _ _ _|.mp _|.int _ _|.bool _|.str _|.fro _|.nils|.fp _ _|.nilp|.nilf|.nili|.nilm|.und=>rfl
theorem lS:∀ l:List V,V.wh id l=l
 | []=>rfl
 | v::r=>by rw [V.wh,El v,lS r]
end
def NLt (nx:Nat) (v:V):Prop:=(v.names.all fun n=>Nat.blt n nx)=true
def Yd (s:S) (nx:Nat):List (Nat × V)→Prop
 | []=>True
 | p::r=>(lk s.tm p.1=some p.2∧NLt nx p.2)∧Yd s nx r
def StI (s:S) (nx:Nat):List (Nat × Option Blk)→Prop
 | []=>True
 | (n,none)::r=>StI s nx r∧n=n
 | (n,some (.els T sz xs))::r=>((s.blk n=some (.els T sz xs)∧((V.bf xs).all fun n=>Nat.blt n nx)=true)∧Nat.blt n nx=true)∧StI s nx r
 | (n,some k)::r=>(s.blk n=some k∧Nat.blt n nx=true∧(match k with|.map es=>∀ p∈es,p.2.names=[]|_=>True))∧StI s nx r
theorem C9 {l:List V} {nx:Nat} (h:∀ v∈l,v.names=[]):((V.bf l).all fun n=>Nat.blt n nx)=true:=by
 have:V.bf l=[]:=List.eq_nil_iff_forall_not_mem.2 fun m hm=>by
  obtain ⟨v,hv,hm⟩:=aB.1 hm
  rw [h v hv] at hm;cases hm
 rw [this];rfl
theorem QB {α:Type} {L:List α} {f:α→V} {nx:Nat} (h:∀ a,(f a).names=[]):((V.bf (L.map f)).all fun n=>Nat.blt n nx)=true:=C9 fun v hv=>by
 obtain ⟨a,_,rfl⟩:=List.mem_map.1 hv
 exact h a
structure LeI (K:Nat) (s1 s:S):Prop where
 nt:s1.nt=s.nt
 tm:Yd s s1.nx s1.tm
 st:StI s s1.nx s1.st
 ks:rz id s1.st=true
 hk:Nat.ble K s1.nx=true
theorem ac3 {s:S} {nx nt:Nat}:∀ {l:List (Nat × V)},Yd s nx l→J2 id s nx nt l
 | [],_=>trivial
 | p::r,h=>⟨⟨by rw [El];exact h.1.1,h.1.2⟩,ac3 h.2⟩
theorem stI {s:S} {nx:Nat}:∀ {l:List (Nat × Option Blk)},StI s nx l→Nu id s nx l
 | [],_=>trivial
 | (n,none)::r,h=>⟨stI h.1,rfl⟩
 | (n,some (.els T sz xs))::r,h=>⟨⟨.inr ⟨by rw [lS];exact h.1.1.1,h.1.1.2⟩,h.1.2⟩,stI h.2⟩
 | (n,some (.map es))::r,h=>⟨h.1,stI h.2⟩
 | (n,some (.sit s p))::r,h=>⟨h.1,stI h.2⟩
theorem LeI.le {K:Nat} {s1 s:S} (h:LeI K s1 s):Le id s1 s∧D9 id K s1.nx=true:=by
 refine ⟨⟨h.nt,ac3 h.tm,stI h.st,h.ks⟩,List.all_eq_true.2 fun n hn=>?_⟩
 have h1:=Nat.le_of_ble_eq_true h.hk
 have h2:=List.mem_range.1 hn
 simp only [id,Bool.and_eq_true]
 exact ⟨by simp,by simpa using Nat.lt_of_lt_of_le h2 h1⟩
section
variable {P:Program} {N:Env} {Q:Exit→S→Prop} {s:S} {c:Code}
variable {s1:S}
theorem Iy (h:LeI N.K s1 s) (k:AWp P N c Q s1):AWp P N c Q s:=acB h.le.1 h.le.2 k
theorem bE (st:Nat→S) (I:Nat→Prop) (n k0:Nat) (h0:LeI N.K (st k0) s) (hI:I k0) (round:∀ k,I k→AWp P N c (lg (fun s'=>I (k+1)∧k<n∧LeI N.K (st (k+1)) s') Q) (st k)):AWp P N (.loop c) Q s:=by
 refine tq st I (fun k=>n-k) k0 id h0.le.1 h0.le.2 hI fun k hk=>(round k hk).mono fun e s' h=>?_
 cases e with
 | normal =>
  obtain ⟨h1,h2,h3⟩:=h
  exact ⟨k+1,id,h1,by omega,h3.le.1,h3.le.2⟩
 | _=>exact h
theorem dP {α:Type} (st:α→S) (I:α→Prop) (μ:α→Nat) (x0:α) (h0:LeI N.K (st x0) s) (hI:I x0) (round:∀ x,I x→AWp P N c (lg (fun s'=>∃ y,I y∧μ y<μ x∧LeI N.K (st y) s') Q) (st x)):AWp P N (.loop c) Q s:=by
 refine tq st I μ x0 id h0.le.1 h0.le.2 hI fun x hx=>(round x hx).mono fun e s' h=>?_
 cases e with
 | normal =>
  obtain ⟨y,h1,h2,h3⟩:=h
  exact ⟨y,id,h1,h2,h3.le.1,h3.le.2⟩
 | _=>exact h
theorem Zy {x y:Code} (k:AWp P N y Q s1) (h:AWp P N x (lg (fun s'=>LeI N.K s1 s') Q) s):AWp P N (.seq x y) Q s:=by
 refine iW (h.mono fun e s' h=>?_)
 cases e with
 | normal=>exact Iy h k
 | _=>exact h
theorem wU {id:Nat} {l:Array Oper} {d:Bool} {x y:Code} (s1:S) (k:AWp P N y Q s1) (h:AWp P N (.seq (.region id l d) x) (lg (fun s'=>LeI N.K s1 s') Q) s):AWp P N (.seq (.seq (.region id l d) x) y) Q s:=Zy k h
theorem mI {K:S→Prop} (h:K s):lg K Q .normal s:=h
end
variable {α:Type} {L:List α} {f:α→V}
theorem Ye {c d:UInt8}:c=d↔(c.toNat:Int)=(d.toNat:Int):=⟨fun h=>by rw [h],fun h=>UInt8.toNat.inj (Int.ofNat.inj h)⟩
theorem wO (h:∀ a,(f a).names=[]):(∀ x∈L.map f,x.names=[])∧0+L.length≤(L.map f).length:=⟨fun x hx=>by
 obtain ⟨a,_,rfl⟩:=List.mem_map.1 hx
 exact h a,by simp⟩
def YV (ns:List Nat) (s:S):List (Nat × V)→Prop
 | []=>True
 | p::r=>(∃ u,lk s.tm p.1=some u∧nW ns p.2=some u)∧YV ns s r
def StN (ns:List Nat) (s:S):List (Nat × Option Blk)→Prop
 | []=>True
 | (n,none)::r=>StN ns s r∧n=n
 | (n,some b)::r=>(∃ c,s.blk (nm ns n)=some c∧cO ns b c∧Nat.blt n ns.length=true)∧StN ns s r
structure LeN (ns:List Nat) (K:Nat) (s1 s:S):Prop where
 nt:s1.nt=s.nt
 len:Nat.beq ns.length s1.nx=true
 tm:YV ns s s1.tm
 st:StN ns s s1.st
 ks:rz (nm ns) s1.st=true
 pin:D9 (nm ns) K s1.nx=true
theorem V6 {l:List Nat} {m nx:Nat} (h:∀ n∈l,n<m) (e:m=nx):(l.all fun n=>Nat.blt n nx)=true:=List.all_eq_true.2 fun n hn=>by subst e;simpa using h n hn
theorem ade {ns:List Nat} {s:S} {nx nt:Nat} (e:ns.length=nx):∀ {l:List (Nat × V)},YV ns s l→J2 (nm ns) s nx nt l
 | [],_=>trivial
 | p::r,⟨⟨u,h1,h2⟩,h3⟩=>by
  obtain ⟨h4,h5⟩:=sG h2
  exact ⟨⟨by rw [h1,h4],V6 h5 e⟩,ade e h3⟩
theorem stN {ns:List Nat} {s:S} {nx:Nat} (e:ns.length=nx):∀ {l:List (Nat × Option Blk)},StN ns s l→Nu (nm ns) s nx l
 | [],_=>trivial
 | (n,none)::r,h=>⟨stN e h.1,rfl⟩
 | (n,some (.els T sz xs))::r,⟨⟨c,h1,h2,h3⟩,h4⟩=>by
  refine ⟨⟨?_,by rw [← e];exact h3⟩,stN e h4⟩
  cases h2 with
  | same hn=>exact .inl ⟨h1,fun x hx=>List.eq_nil_iff_forall_not_mem.2 fun m hm=>by have:=aB.2 ⟨x,hx,hm⟩;rw [hn] at this;cases this⟩
  | ren hr =>
   obtain ⟨h5,h6⟩:=ic hr
   exact .inr ⟨by rw [h1,h5],V6 h6 e⟩
 | (n,some (.map es))::r,⟨⟨c,h1,h2,h3⟩,h4⟩=>by
  cases h2 with
  | map hn=>exact ⟨⟨h1,by rw [← e];exact h3,hn⟩,stN e h4⟩
 | (n,some (.sit t p))::r,⟨⟨c,h1,h2,h3⟩,h4⟩=>by
  cases h2 with
  | sit=>exact ⟨⟨h1,by rw [← e];exact h3,trivial⟩,stN e h4⟩
theorem LeN.le {ns:List Nat} {K:Nat} {s1 s:S} (h:LeN ns K s1 s):Le (nm ns) s1 s:=by
 have e:=Nat.eq_of_beq_eq_true h.len
 exact ⟨h.nt,ade e h.tm,stN e h.st,h.ks⟩
theorem aT (h:∀ a,(f a).names=[]):V.bf (L.map f)=[]:=List.eq_nil_iff_forall_not_mem.2 fun m hm=>by
 obtain ⟨v,hv,hm⟩:=aB.1 hm
 obtain ⟨a,_,rfl⟩:=List.mem_map.1 hv
 rw [h a] at hm;cases hm
section
variable {P:Program} {N:Env} {Q:Exit→S→Prop} {s:S} {c:Code}
theorem fq (st:Nat→S) (I:Nat→Prop) (n k0:Nat) (h0:LeI N.K (st k0) s) (hI:I k0) (round:∀ k,I k→AWp P N c (lg (fun s'=>I (k+1)∧k<n∧∃ ns,LeN ns N.K (st (k+1)) s') Q) (st k)):AWp P N (.loop c) Q s:=by
 refine tq st I (fun k=>n-k) k0 id h0.le.1 h0.le.2 hI fun k hk=>(round k hk).mono fun e s' h=>?_
 cases e with
 | normal =>
  obtain ⟨h1,h2,ns,h3⟩:=h
  exact ⟨k+1,nm ns,h1,by omega,h3.le,h3.pin⟩
 | _=>exact h
theorem pO {α:Type} (st:α→S) (I:α→Prop) (μ:α→Nat) (x0:α) (h0:LeI N.K (st x0) s) (hI:I x0) (round:∀ x,I x→AWp P N c (lg (fun s'=>∃ y,I y∧μ y<μ x∧∃ ns,LeN ns N.K (st y) s') Q) (st x)):AWp P N (.loop c) Q s:=by
 refine tq st I μ x0 id h0.le.1 h0.le.2 hI fun x hx=>(round x hx).mono fun e s' h=>?_
 cases e with
 | normal =>
  obtain ⟨y,h1,h2,ns,h3⟩:=h
  exact ⟨y,nm ns,h1,h2,h3.le,h3.pin⟩
 | _=>exact h
theorem kP {tm:List (Nat × V)} {st:List (Nat × Option Blk)} {nx nt t:Nat} (T sz:Nat) (h0:0<sz) (ht:lk tm t=some .nils) (_hK:Nat.ble N.K nx=true) (k:AWp P N c Q ⟨(t,.own nx 0 0)::tm,(nx,some (.els T sz []))::st,nx+1,nt⟩):AWp P N c Q ⟨tm,st,nx,nt⟩:=fun M φ a w hr=>by
 let φ':Nat→Pl:=fun n=>if n=nx then ⟨none,sz,0⟩ else φ n
 have hφ:∀ n,n<nx→φ' n=φ n:=fun n hn=>if_neg (by omega)
 have hφν:φ' nx=⟨none,sz,0⟩:=if_pos rfl
 have hA:∀ n,n<nx→n<nx+1:=fun n h=>by omega
 have eb:∀ n,S.blk ⟨(t,.own nx 0 0)::tm,(nx,some (.els T sz []))::st,nx+1,nt⟩ n=if nx=n then some (.els T sz []) else S.blk ⟨tm,st,nx,nt⟩ n:=fun n=>by
  unfold S.blk
  simp only [bW]
  by_cases e:nx=n<;>simp [e]
 refine k M φ' a w ⟨fun q v hq=>?_,hr.nt,fun n b hb=>?_,fun n n' b b' x e1 e2 e3 e4=>?_,hr.lim,hr.dis,hr.df,fun n hn=>?_,hr.gl⟩
 ·change lk ((t,.own nx 0 0)::tm) q=some v at hq
  rw [bW] at hq
  split at hq
  ·rename_i e
   subst e;cases hq
   obtain ⟨g1,g2⟩:=hr.tm t _ ht
   refine ⟨g1,?_⟩
   have:a.tmps.getD t undef = .slice none 0 0:=by
    have h:∀ x,Rep (fun b=>M b∨N b) (· < nx) φ w .nils x→x = .slice none 0 0:=fun x h=>by
     cases h with
     | fz h=>cases h;rfl
    exact h _ g2
   rw [this]
   exact .own0 (Nat.lt_succ_self nx) (by rw [hφν])
  ·obtain ⟨g1,g2⟩:=hr.tm q v hq
   exact ⟨g1,g2.mono (fun _ _ h=>h) (.refl _ w) hA hφ⟩
 ·rw [eb] at hb
  split at hb
  ·rename_i e
   subst e;cases hb
   refine ⟨Nat.lt_succ_self nx,by rw [hφν],h0,by simp [LIM],(by intro x hx;simp at hx),.inl ⟨by rw [hφν],rfl,by rw [hφν]⟩⟩
  ·obtain ⟨g1,g2⟩:=hr.st n b hb
   have g1:n<nx:=g1
   refine ⟨hA n g1,?_⟩
   rw [hφ n g1]
   exact g2.mono (fun _ _ h=>h) (.refl _ w) hA hφ (fun _ h=>h) fun _ _=>rfl
 ·rw [eb] at e1 e2
  split at e1
  ·rename_i e;subst e;rw [hφν] at e3;cases e3
  ·split at e2
   ·rename_i e;subst e;rw [hφν] at e4;cases e4
   ·have g1:n<nx:=(hr.st n b e1).1
    have g2:n'<nx:=(hr.st n' b' e2).1
    rw [hφ n g1] at e3
    rw [hφ n' g2] at e4
    exact hr.inj n n' b b' x e1 e2 e3 e4
 ·obtain ⟨g1,g2⟩:=hr.pin n hn
  exact ⟨hA n g1,(hφ n g1).trans g2⟩
end
section
variable {P:Program} {N:Env} {o:Oper} {tb:List Ty} {T:Nat} {e ee:Ty}
theorem KT {α:Type} {f:α→V} {L:List α} {a:α} {x y:Operand} {n ν el sz:Nat} {z:V} (hf:∀ a,(f a).cells.length=sz∧∀ u∈(f a).cells,u.one=true) (htb:aL P tb) (ho:o.op = .call { callee:=.builtin .append,args := #[x,y],argTypes := #[T,T] }) (hT:nth tb T=some e) (hs:e.sl=some el) (hE:nth tb el=some ee) (hz:ee.zeroV=some z) (hsz:ee.size=sz) (hzl:z.cells.length=sz)
  (hlim:L.length+1≤LIM) (hby:(L.length+1)*ee.bytes≤140737488355328) :
  aC P N o ⟨[(x,.own n 0 L.length),(y,.fro [f a])],[(n,.els el sz (L.map f))]⟩ (.own ν 0 (L++[a]).length) [(n,none),(ν,some (.els el sz ((L++[a]).map f)))] [ν] :=
 Ej htb ho hT hs hE hz hsz hzl (fun q hq=>by rw [List.mem_singleton] at hq;subst hq;exact hf a) (by simp) (by simp) (by simp) (by simpa using hlim) (by simpa using hby)
end
variable {α:Type} {p:α→Bool} {k:Nat}
def lK {α:Type} (p:α→Bool) (l:List α) (k:Nat):Prop:=∀ j y,j<k→l[j]? = some y→p y=true
theorem vo {l:List α}:lK p l 0:=fun _j _y h=>absurd h (Nat.not_lt_zero _)
theorem lK.on {α:Type} {p:α→Bool} {l:List α} {k:Nat} {c:α} (h:lK p l k) (e:l[k]? = some c) (hc:p c=true):lK p l (k+1):=fun j y hj hy=>by
 rcases Nat.lt_succ_iff_lt_or_eq.1 hj with h1|rfl
 ·exact h j y h1 hy
 ·rw [e] at hy;cases hy;exact hc
theorem lK.all {l:List α} (h:lK p l k) (hk:¬ k<l.length):l.all p=true:=List.all_eq_true.2 fun x hx=>by
 obtain ⟨i,hi⟩:=List.mem_iff_getElem?.1 hx
 exact h i x (by have:=(List.getElem?_eq_some_iff.1 hi).1;omega) hi
theorem zh {l:List α} {c:α} (e:l[k]? = some c) (hc:p c=false):l.all p=false:=by
 cases h:l.all p with
 | false=>rfl
 | true=>have:=List.all_eq_true.1 h c (List.mem_of_getElem? e);rw [hc] at this;cases this
def fE {α:Type} (p:α→Bool) (l:List α):Int:=match l.findIdx? p with
 | some i=>(i:Int)
 | none => -1
theorem kE {l:List α} (h:∀ x∈l,p x=false):fE p l = -1:=by
 have:l.findIdx? p=none:=List.findIdx?_eq_none_iff.2 (fun x hx=>by simpa using h x hx)
 unfold fE;rw [this]
theorem oh {l:List α} {i:Nat} {x:α} (h:∀ (j:Nat) y,j<i→l[j]? = some y→p y=false) (hx:l[i]? = some x) (hp:p x=true):fE p l=(i:Int):=by
 obtain ⟨hi,e⟩:=List.getElem?_eq_some_iff.1 hx
 have:l.findIdx? p=some i:=List.findIdx?_eq_some_iff_getElem.2 ⟨hi,by rw [e];exact hp,fun j hj=>by
  have:=h j l[j] hj (by simp)
  simp [this]⟩
 unfold fE;rw [this]
theorem lW {l:List α}:0≤fE p l↔l.any p=true:=by
 unfold fE
 cases h:l.findIdx? p with
 | none =>
  have:=List.findIdx?_eq_none_iff.1 h
  simp only [Int.reduceNeg,Int.reduceLE,List.any_eq_true,false_iff,not_exists,not_and]
  intro x hx;simpa using this x hx
 | some i =>
  obtain ⟨h1,h2,_⟩:=List.findIdx?_eq_some_iff_getElem.1 h
  simp only [List.any_eq_true]
  exact ⟨fun _=>⟨l[i],List.getElem_mem _,h2⟩,fun _=>Int.natCast_nonneg _⟩
end Abs
end
end Go.Proofs.YtlfdjpgghiemfaaGreatDoor
