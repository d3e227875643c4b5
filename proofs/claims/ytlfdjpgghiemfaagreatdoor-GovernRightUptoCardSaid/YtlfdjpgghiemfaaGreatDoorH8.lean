/- Texts of the proof, joined: Seen. -/
import Derived.Test.YtlfdjpgghiemfaaGreatDoorH1
import Derived.Test.YtlfdjpgghiemfaaGreatDoorRows
import Derived.OpenShut
import Derived.Deep.Slices
import Derived.SizedLaws
import Derived.SliceStrings
namespace Go.Proofs.YtlfdjpgghiemfaaGreatDoor
namespace Seen
open Go.RowKit Go.WideShapes Go.ChangeShapes Go.Deep Mem
section
variable (P:Program) (w:World) (okS:Nat→Prop) (okL:TypeId→Nat→Prop)
def sQ:Nat→TypeId→List Value→Prop
 | 0,_,_=>False
 | n+1,t,cs=>match P.underlying t with
  | some .bool=>∃ b,cs=[.bool b]
  | some (.int k)=>∃ i,cs=[.int k i]∧(Lit.int k i).wf=true
  | some .string=>∃ s:ByteArray,cs=[.string s]∧okS s.size
  | some (.slice e)=>∃ (A:Option Addr) (c:Nat) (L:List (List Value)),cs=[.slice A L.length c]∧(A=none→c=0)∧L.length≤c∧(A=none∨okL e c)∧Row w w.heap.size A L.flatten∧(∀ x∈L,x.length=P.cellsOf e)∧∀ x∈L,sQ n e x
  | some (.struct fs)=>cs.length=P.cellsOf t∧∀ (j:Nat) (f:Field),fs[j]? = some f→sQ n f.type ((cs.drop f.offset).take (P.cellsOf f.type))
  | some (.array m e)=>cs.length=P.cellsOf t∧∀ i,i<m→sQ n e ((cs.drop (i*P.cellsOf e)).take (P.cellsOf e))
  | _=>True
end
structure xI (P:Program) (H:Type) (okS:Nat→Prop) (okL:TypeId→Nat→Prop) (F:TypeId→DataW H→Prop):Prop where
 str:∀ t l,P.underlying t=some .string→F t (.lit (.string l))→okS l.length
 sl:∀ t e el sp,P.underlying t=some (.slice e)→F t (.slice el sp)→okL e (el.length+sp.length)∧∀ d∈el,F e d
 st:∀ t fs parts,P.underlying t=some (.struct fs)→F t (.agg parts)→∀ (j:Nat) (f:Field) d,fs[j]? = some f→parts[j]? = some d→F f.type d
 ar:∀ t n e parts,P.underlying t=some (.array n e)→F t (.agg parts)→∀ d∈parts,F e d
theorem add_plain (b o j:Nat):(⟨b,o,none⟩:Addr).add j=⟨b,o+j,none⟩:=by
 unfold Addr.add
 split
 ·subst_vars;rfl
 ·rfl
theorem Oz {w:World} {a:Addr} {v:Value} (h:w.cell? a=some v):∃ b o,a=⟨b,o,none⟩∧b<w.heap.size:=by
 obtain ⟨b,o,sp⟩:=a
 have hsp:sp=none:=by
  cases sp with
  | none=>rfl
  | some q=>simp [World.cell?] at h;split at h<;>simp at h
 subst hsp
 refine ⟨b,o,rfl,?_⟩
 rcases Nat.lt_or_ge b w.heap.size with h1|h1
 ·exact h1
 ·simp only [World.cell?] at h
  rw [Array.getElem?_eq_none h1] at h
  simp at h
section
variable {H:Type} {enc:TypeId × Value→H} {P:Program} {w:World} {base b0:Nat} {held:Bool} {okS:Nat→Prop} {okL:TypeId→Nat→Prop} {F:TypeId→DataW H→Prop}
variable {d:DataW H}
theorem Um {n:Nat} {a:Addr} {L:List (List Value)} (hs:∀ x∈L,x.length=n) (hc:∀ (i:Nat) x,L[i]? = some x→∀ j u,x[j]? = some u→w.cell? ((a.add (i*n)).add j)=some u):Row w w.heap.size (some a) L.flatten:=fun hl=>by
 have key:∀ i,i<L.flatten.length→∃ x q r,L[q]? = some x∧r<n∧i=q*n+r∧x[r]? = L.flatten[i]? := by
  clear hc hl
  induction L with
  | nil=>intro i hi;simp at hi
  | cons x L ih =>
   intro i hi
   have hx:=hs x (by simp)
   by_cases h:i<n
   ·exact ⟨x,0,i,rfl,h,by simp,by rw [List.flatten_cons,List.getElem?_append_left (by omega)]⟩
   ·obtain ⟨y,q,r,h1,h2,h3,h4⟩:=ih (fun y hy=>hs y (by simp [hy])) (i-n) (by rw [List.flatten_cons,List.length_append] at hi;omega)
    refine ⟨y,q+1,r,by simpa using h1,h2,by rw [Nat.add_mul];omega,?_⟩
    rw [h4,List.flatten_cons,List.getElem?_append_right (by omega),hx]
 obtain ⟨x0,q0,r0,h1,h2,h3,h4⟩:=key 0 hl
 rw [List.getElem?_eq_getElem hl] at h4
 have hc0:=hc q0 x0 h1 r0 _ h4
 have hz:q0*n=0∧r0=0:=by omega
 obtain ⟨b,o,hab,hb⟩:=Oz hc0
 have ha:a=⟨b,o,none⟩:=by
  rw [hz.1,hz.2] at hab
  obtain ⟨b1,o1,s1⟩:=a
  simp only [Addr.add,if_true] at hab
  exact hab
 subst ha
 refine ⟨b,o,rfl,hb,fun j hj=>?_⟩
 obtain ⟨x,q,r,h5,h6,h7,h8⟩:=key j hj
 rw [List.getElem?_eq_getElem hj] at h8
 have:=hc q x h5 r _ h8
 have e:((⟨b,o,none⟩:Addr).add (q*n)).add r=⟨b,o+j,none⟩:=by rw [add_plain,add_plain,Nat.add_assoc,← h7]
 rw [e] at this
 exact this
theorem Bf (B:xI P H okS okL F):∀ (n:Nat) (t:TypeId) (cs:List Value) (x:DataW H × List MemPlace),DataW.trod enc P w base (fun _=>true) held n t cs=some x→F t x.1→sQ P w okS okL n t cs
 | 0,_,_,_,h,_=>by simp [DataW.trod] at h
 | n+1,t,cs,x,h,hF=>by
  unfold sQ
  split
  ·rename_i ht
   obtain ⟨b,h1,_⟩:=DataW.trod_bool ht h
   exact ⟨b,h1⟩
  ·rename_i k ht
   obtain ⟨i,h1,_,h2⟩:=DataW.trod_int ht h
   exact ⟨i,h1,h2⟩
  ·rename_i ht
   obtain ⟨s,h1,rfl,_⟩:=DataW.trod_string ht h
   have:=B.str t _ ht hF
   rw [← Lib.size_eq] at this
   exact ⟨s,h1,this⟩
  ·rename_i e ht
   rcases DataW.trod_slice ht h with ⟨h0,_⟩|⟨a,len,cap,elems,rest,m,hm,rfl,rfl,hb,hl,hmx,hlen,hel,hsp,hns⟩
   ·exact ⟨none,0,[],h0,fun _=>rfl,by simp,.inl rfl,Row.nil _ _ _,by simp,by simp⟩
   ·obtain rfl:m=n:=by omega
    obtain ⟨hb1,hb2⟩:=B.sl t e _ _ ht hF
    have hrl:rest.length=cap-len:=(hsp rfl).1
    have hcells:∀ i,i<len→∃ c y,w.cells? base (a.add (i*P.cellsOf e)) (P.cellsOf e)=some c∧elems[i]? = some y∧DataW.trod enc P w base (fun _=>true) held m e c=some y:=by
     intro i hi
     have h1:=hel i hi
     rw [List.getElem?_eq_getElem (by omega)] at h1
     rcases hc:w.cells? base (a.add (i*P.cellsOf e)) (P.cellsOf e) with _|c
     ·rw [hc] at h1;simp at h1
     ·rw [hc] at h1
      exact ⟨c,_,rfl,List.getElem?_eq_getElem (by omega),by simpa using h1⟩
    have hL:∀ x∈(List.range len).map (fun i=>(w.cells? base (a.add (i*P.cellsOf e)) (P.cellsOf e)).getD []),∃ i y,i<len∧w.cells? base (a.add (i*P.cellsOf e)) (P.cellsOf e)=some x∧elems[i]? = some y∧DataW.trod enc P w base (fun _=>true) held m e x=some y:=by
     intro x hx
     simp only [List.mem_map,List.mem_range] at hx
     obtain ⟨i,hi,rfl⟩:=hx
     obtain ⟨c,y,h1,h2,h3⟩:=hcells i hi
     exact ⟨i,y,hi,by rw [h1];rfl,h2,by rw [h1];exact h3⟩
    refine ⟨some a,cap,(List.range len).map (fun i=>(w.cells? base (a.add (i*P.cellsOf e)) (P.cellsOf e)).getD []),by simp,(fun h=>by cases h),by simpa using hl,.inr ?_,?_,?_,?_⟩
    ·have:(elems.map (·.1)).length+(rest.map (·.1)).length=cap:=by simp;omega
     rw [this] at hb1
     exact hb1
    ·refine Um (n:=P.cellsOf e) (fun x hx=>?_) (fun i x hi j u hu=>?_)
     ·obtain ⟨i,y,_,h1,_⟩:=hL x hx
      exact (World.cells?_some h1).2.1
     ·have hil:i<len:=by
       have:=(List.getElem?_eq_some_iff.1 hi).1
       simpa using this
      obtain ⟨c,y,h1,_,_⟩:=hcells i hil
      have hx:x=c:=by
       rw [List.getElem?_map,List.getElem?_range hil] at hi
       simp [h1] at hi
       exact hi.symm
      subst hx
      obtain ⟨_,h2,h3⟩:=World.cells?_some h1
      have hj:j<P.cellsOf e:=by
       have:=(List.getElem?_eq_some_iff.1 hu).1
       omega
      rw [h3 j hj,hu]
    ·intro x hx
     obtain ⟨i,y,_,h1,_⟩:=hL x hx
     exact (World.cells?_some h1).2.1
    ·intro x hx
     obtain ⟨i,y,_,_,h2,h3⟩:=hL x hx
     exact Bf B m e x y h3 (hb2 y.1 (List.mem_map.2 ⟨y,List.mem_of_getElem? h2,rfl⟩))
  ·rename_i fs ht
   obtain ⟨xs,m,hm,rfl,hcl,hxl,hf⟩:=DataW.trod_struct ht h
   obtain rfl:m=n:=by omega
   refine ⟨hcl,fun j f hj=>?_⟩
   have h1:=hf j f hj
   have hjl:j<xs.length:=by
    have:=(Array.getElem?_eq_some_iff.1 hj).1
    omega
   rw [List.getElem?_eq_getElem hjl] at h1
   exact Bf B m f.type _ _ h1 (B.st t fs _ ht hF j f _ hj (by rw [List.getElem?_map,List.getElem?_eq_getElem hjl];rfl))
  ·rename_i k e ht
   obtain ⟨xs,m,hm,rfl,hcl,hxl,hf⟩:=DataW.trod_array ht h
   obtain rfl:m=n:=by omega
   refine ⟨hcl,fun i hi=>?_⟩
   have h1:=hf i hi
   rw [List.getElem?_eq_getElem (by omega)] at h1
   exact Bf B m e _ _ h1 (B.ar t k e _ ht hF _ (List.mem_map.2 ⟨xs[i]'(by omega),List.getElem_mem _,rfl⟩))
  ·trivial
theorem Iw {e:TypeId}:∀ {l:List (DataW H)} {d:DataW H},d∈l→∀ n∈d.weights P e,n∈DataW.weightsAll P e l
 | x::l,d,h,n,hn=>by
  rcases List.mem_cons.1 h with rfl|h
  ·simp [DataW.weightsAll,hn]
  ·simp [DataW.weightsAll,Iw h n hn]
theorem JO:xI P H (· ≤ 140737488351232) (fun e n=>n*P.bytesOf e≤140737488351232) (fun t d=>∀ n∈d.weights P t,n≤140737488351232) where
 str:=fun t l ht h=>h _ (by simp [DataW.weights])
 sl:=fun t e el sp ht h=>⟨h _ (by simp [DataW.weights,ht]),fun d hd n hn=>h n (by
  simp only [DataW.weights,ht]
  exact List.mem_cons_of_mem _ (List.mem_append_left _ (Iw hd n hn)))⟩
 st:=fun t fs parts ht h j f d hj hd n hn=>h n (by
  simp only [DataW.weights,ht]
  exact DataW.weights_mem_each (ts:=fs.toList.map (·.type)) (j:=j) (by simp [hj]) hd n hn)
 ar:=fun t k e parts ht h d hd n hn=>h n (by
  simp only [DataW.weights,ht]
  exact Iw hd n hn)
theorem oW {l:List (DataW H)} (h:d∈l):Rows.uptoBulk d≤Rows.uptoBulkAll l:=by
 induction l with
 | nil=>cases h
 | cons x r ih =>
  simp only [Rows.uptoBulkAll]
  cases List.mem_cons.1 h with
  | inl e=>subst e;omega
  | inr e=>have:=ih e;omega
theorem WG (d:DataW H):1≤Rows.uptoBulk d:=by
 cases d with
 | lit l=>cases l<;>simp [Rows.uptoBulk]
 | nil=>simp [Rows.uptoBulk]
 | ptr d=>simp [Rows.uptoBulk]
 | slice elems spare=>simp [Rows.uptoBulk]
 | agg parts=>simp [Rows.uptoBulk]
 | iface t d=>simp [Rows.uptoBulk]
 | map entries=>simp [Rows.uptoBulk]
 | held h=>simp [Rows.uptoBulk]
theorem J7 (l:List (DataW H)):l.length≤Rows.uptoBulkAll l:=by
 induction l with
 | nil=>simp [Rows.uptoBulkAll]
 | cons x r ih=>have:=WG x;simp only [Rows.uptoBulkAll,List.length_cons];omega
theorem MO (M:Nat):xI P H (· ≤ M) (fun _ n=>n≤M) (fun _ d=>Rows.uptoBulk d≤M) where
 str:=fun t l _ h=>by simp [Rows.uptoBulk] at h;omega
 sl:=fun t e el sp _ h=>by
  have h1:=J7 el
  have h2:=J7 sp
  simp only [Rows.uptoBulk] at h
  exact ⟨by omega,fun d hd=>by have:=oW hd;omega⟩
 st:=fun t fs parts _ h j f d _ hd=>by
  have:=oW (List.mem_of_getElem? hd)
  simp only [Rows.uptoBulk] at h
  omega
 ar:=fun t k e parts _ h d hd=>by
  have:=oW hd
  simp only [Rows.uptoBulk] at h
  omega
theorem xI.and {okS':Nat→Prop} {okL':TypeId→Nat→Prop} {F':TypeId→DataW H→Prop} (B:xI P H okS okL F) (B':xI P H okS' okL' F'):xI P H (fun n=>okS n∧okS' n) (fun e n=>okL e n∧okL' e n) (fun t d=>F t d∧F' t d) where
 str:=fun t l ht h=>⟨B.str t l ht h.1,B'.str t l ht h.2⟩
 sl:=fun t e el sp ht h=>⟨⟨(B.sl t e el sp ht h.1).1,(B'.sl t e el sp ht h.2).1⟩,fun d hd=>⟨(B.sl t e el sp ht h.1).2 d hd,(B'.sl t e el sp ht h.2).2 d hd⟩⟩
 st:=fun t fs parts ht h j f d hj hd=>⟨B.st t fs parts ht h.1 j f d hj hd,B'.st t fs parts ht h.2 j f d hj hd⟩
 ar:=fun t k e parts ht h d hd=>⟨B.ar t k e parts ht h.1 d hd,B'.ar t k e parts ht h.2 d hd⟩
theorem Fg (B:xI P H okS okL F) {t:TypeId} {v:Value} {p:List MemPlace} (h:DataW.Trod enc P w base (fun _=>true) held t v d p) (hF:F t d):∃ n,sQ P w okS okL n t v.cells.toList:=by
 obtain ⟨fuel,hf⟩:=h
 exact ⟨fuel,Bf B fuel t _ _ hf hF⟩
end
section
variable {P:Program} {w:World} {okS:Nat→Prop} {okL:TypeId→Nat→Prop} {n:Nat} {t:TypeId} {cs:List Value}
theorem Dy {H:Type} {P:Program} {ts:List TypeId} {ds:List (DataW H)} (h:(DataW.weightsEach P ts ds).all (· ≤ reachBytes)=true) (j:Nat) (t:TypeId) (d:DataW H) (ht:ts[j]? = some t) (hd:ds[j]? = some d):∀ n∈d.weights P t,n≤140737488351232:=fun n hn=>by
 have:n≤reachBytes:=by simpa using List.all_eq_true.1 h _ (DataW.weights_mem_each ht hd n hn)
 exact this
end
end Seen
end Go.Proofs.YtlfdjpgghiemfaaGreatDoor
