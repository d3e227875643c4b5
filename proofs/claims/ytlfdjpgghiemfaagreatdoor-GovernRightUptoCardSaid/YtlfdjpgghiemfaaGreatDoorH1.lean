/- Texts of the proof, joined: Mem, BitsP, WordS, SixtyP, Seq. -/
import Derived.WalkKit
import Derived.Laws.AppendOwnNone
import Derived.Maps.AppendAt
import Derived.Lib.Hide
import Derived.BigQuiet
import Derived.Lib.Bytealg
import Derived.OrdersHeld
namespace Go.Proofs.YtlfdjpgghiemfaaGreatDoor
namespace Mem
open Go.RowKit
variable {cs:List Value} {w1 w':World} {B:Nat} {A:Option Addr}
theorem ig {w w2:World} (h:Below w.heap.size w w1) (h2:Below w1.heap.size w1 w2):Below w.heap.size w w2:=h.trans (h2.mono h.size)
theorem uy {w:World} (h:Below w.heap.size w w1) (o:Obj):Below w.heap.size w (w1.alloc o):=h.alloc h.size _
def Row (w:World) (B:Nat) (A:Option Addr) (cs:List Value):Prop:=0<cs.length→∃ b o,A=some ⟨b,o,none⟩∧b<B∧∀ j (hj:j<cs.length),w.cell? ⟨b,o+j,none⟩=some cs[j]
theorem Row.below {w:World} (h:Row w B A cs) (hb:Below B w w'):Row w' B A cs:=fun hl=>by
 obtain ⟨b,o,e,hlt,hc⟩:=h hl
 exact ⟨b,o,e,hlt,fun j hj=>(hb.cell (p:=⟨b,o+j,none⟩) hlt).trans (hc j hj)⟩
theorem Row.more {w:World} {B':Nat} (h:Row w B A cs) (hB:B≤B'):Row w B' A cs:=fun hl=>by
 obtain ⟨b,o,e,hlt,hc⟩:=h hl
 exact ⟨b,o,e,by omega,hc⟩
theorem Row.at' {w:World} (h:Row w w.heap.size A cs) (hb:Below w.heap.size w w'):Row w' w'.heap.size A cs:=(h.below hb).more hb.size
theorem Row.nil (w:World) (B:Nat) (A:Option Addr):Row w B A []:=fun h=>absurd h (by decide)
theorem Row.lit (w:World) (t:TypeId) (cs:List Value) (B:Nat) (hB:w.heap.size<B):Row (w.alloc (.cells cs.toArray t)) B (some ⟨w.heap.size,0,none⟩) cs:=fun _=>by
 refine ⟨w.heap.size,0,rfl,hB,fun j hj=>?_⟩
 rw [Nat.zero_add]
 simp [World.cell?_alloc_new,hj]
theorem Row.drew {w:World} (h:Row w B A cs):Row w.drew B A cs:=h
def Elem (P:Program) (t e:TypeId) (size bytes:Nat):Prop:=∃ (i:TypeInfo) (z:Value),P.underlying t=some (.slice e)∧P.info? e=some i∧i.zero=some z∧i.size=size∧i.bytes=bytes∧z.cells.size=size∧0<size
theorem Elem.mk {P:Program} {t e:TypeId} {z:Value} {size bytes:Nat} (ht:P.underlying t=some (.slice e)) (h:(P.info? e).map (fun i=>(i.zero,i.size,i.bytes))=some (some z,size,bytes)) (hz:z.cells.size=size) (hs:0<size):Elem P t e size bytes:=by
 obtain ⟨i0,hi,hz0,hz1,hz2⟩:=info_parts h
 exact ⟨i0,z,ht,hi,hz0,hz1,hz2,hz,hs⟩
section
variable {P:Program} {w:World}
variable {size:Nat} {t:TypeId} {a:Act} {bytes:Nat} {e:TypeId} {o:Oper}
theorem Nz {K:Act→World→Prop} {Q:Exit→Act→World→Prop} (E:Elem P t e size bytes) (s x:Operand) (ho:o.op = .call { callee:=.builtin .append,args := #[s,x],argTypes := #[t,t] }) (base:Nat) (v:Value) (n:Nat) (xs:List Value) (hs:a.eval s=v) (hown:w.ownsRow base e size v n xs) (A:Option Addr) (m c:Nat) (news:List Value) (B:Nat) (hx:a.eval x = .slice A m c) (hl:news.length=m*size) (hr:Row w B A news) (h1:∀ u∈news,u.oneCell'=true) (hnil:A=none→c=0) (hby:(n+m)*bytes≤140737488355328) (hmax:n+m≤9223372036854775807) (hbase:base≤w.heap.size) (h:∀ v' w',w'.ownsRow base e size v' (n+m) (xs++news)→w.grownBy w' v.ownBlock→K (a.put o.dst v') w'):o.wp P a w K Q:=by
 obtain ⟨i,z,ht,hi,hz,hsize,hbytes,hzs,hsz⟩:=E
 cases A with
 | none =>
  have hm:news=[]:=by
   rcases news with _|⟨y,l⟩
   ·rfl
   ·obtain ⟨_,_,e,_⟩:=hr (by simp)
    cases e
  subst hm
  have hm0:m=0:=by
   rcases m with _|m
   ·rfl
   ·rw [Nat.add_mul] at hl;simp at hl;omega
  subst hm0
  rw [hnil rfl] at hx
  have hrun:=run_append_owned_none (P:=P) (w:=w) base t o.type e i size ht hi v n xs hown
  unfold Oper.wp
  simp [execOp,ho,resolve,invoke,builtin,hs,hx,hrun,Result.andThen]
  exact h v w (by simpa using hown) ⟨rfl,rfl,rfl,Nat.le_refl _,fun _ _ _=>rfl⟩
 | some ad =>
  refine wp_append_own w s x t ho base e i z size bytes ht hi hz hsize hbytes hzs hsz v n xs hs hown ad m c news hx hl ?_ h1 (by unfold maxLen;omega) hby hbase fun v' w' h2 h3 _=>h v' w' h2 h3
  intro j u hj
  obtain ⟨hjl,rfl⟩:=List.getElem?_eq_some_iff.1 hj
  obtain ⟨b,o',e',_,hc⟩:=hr (by omega)
  cases e'
  have:=hc j hjl
  unfold Addr.add
  split
  ·subst_vars;simpa using this
  ·exact this
theorem app {ops:Array Oper} {rest:List Oper} {Q:Exit→Act→World→Prop} (E:Elem P t e size bytes) (hgd:o.guard=none) (s x:Operand) (ho:o.op = .call { callee:=.builtin .append,args := #[s,x],argTypes := #[t,t] }) (base:Nat) (v:Value) (n:Nat) (xs:List Value) (hs:a.eval s=v) (hown:w.ownsRow base e size v n xs) (A:Option Addr) (m c:Nat) (news:List Value) (B:Nat) (hx:a.eval x = .slice A m c) (hl:news.length=m*size) (hr:Row w B A news) (h1:∀ u∈news,u.oneCell'=true) (hnil:A=none→c=0) (hby:(n+m)*bytes≤140737488355328) (hmax:n+m≤9223372036854775807) (hbase:base≤w.heap.size) (h:∀ v' w',w'.ownsRow base e size v' (n+m) (xs++news)→w.grownBy w' v.ownBlock→wpList P ops Q rest (a.put o.dst v') w'):wpList P ops Q (o::rest) a w :=
 wpList_plain hgd fun _ hK=>Nz E s x ho base v n xs hs hown A m c news B hx hl hr h1 hnil hby hmax hbase fun v' w' h2 h3=>hK _ _ (h v' w' h2 h3)
end
variable {q:Addr} {p:Nat→Prop} {w' a:World}
theorem own_below {w:World} {base:Nat} {e:TypeId} {size n:Nat} {v:Value} {xs:List Value} (h:w.ownsRow base e size v n xs) (hb:Below w.heap.size w w'):w'.ownsRow base e size v n xs :=
 h.kept (row:=none) ⟨hb.os,hb.tape,hb.output,hb.size,fun i hi _=>hb.block i hi⟩ (by
  rcases hv:v.ownBlock with _|k
  ·exact .inl rfl
  ·exact .inr (by simp))
structure Kept (p:Nat→Prop) (w w':World):Prop where
 os:w'.os=w.os
 tape:w'.tape=w.tape
 output:w'.output=w.output
 size:w.heap.size≤w'.heap.size
 block:∀ k,k<w.heap.size→p k→w'.heap[k]? = w.heap[k]?
theorem Kept.refl (p:Nat→Prop) (w:World):Kept p w w:=⟨rfl,rfl,rfl,Nat.le_refl _,fun _ _ _=>rfl⟩
theorem Kept.trans {b c:World} (h:Kept p a b) (k:Kept p b c):Kept p a c :=
 ⟨k.os.trans h.os,k.tape.trans h.tape,k.output.trans h.output,Nat.le_trans h.size k.size,fun i hi hp=>(k.block i (Nat.lt_of_lt_of_le hi h.size) hp).trans (h.block i hi hp)⟩
theorem Kept.drew {w:World} (h:Kept p a w):Kept p a w.drew:=⟨h.os,h.tape,h.output,h.size,h.block⟩
theorem Kept.alloc {w:World} (h:Kept p a w) (o:Obj):Kept p a (w.alloc o) :=
 ⟨h.os,h.tape,h.output,Nat.le_trans h.size (by simp),fun i hi hp=>(Below.heap_alloc w o i (Nat.lt_of_lt_of_le hi h.size)).trans (h.block i hi hp)⟩
theorem Kept.setCell {w:World} (h:Kept p a w) (hq:p q.block→a.heap.size≤q.block) (u:Value):Kept p a (w.setCell q u) :=
 ⟨h.os,h.tape,h.output,by simpa [World.setCell] using h.size,fun i hi hp=>(Below.heap_setCell w q u i (by
  rintro rfl
  have:=hq hp
  omega)).trans (h.block i hi hp)⟩
theorem Kept.grown {w:World} {row:Option Nat} (h:Kept p a w) (g:w.grownBy w' row) (hr:∀ k,row=some k→p k→a.heap.size≤k):Kept p a w' :=
 ⟨g.os.trans h.os,g.tape.trans h.tape,g.output.trans h.output,Nat.le_trans h.size g.size,fun i hi hp=>(g.block i (Nat.lt_of_lt_of_le hi h.size) (fun e=>by
  have:=hr i e.symm hp
  omega)).trans (h.block i hi hp)⟩
theorem Kept.below {B:Nat} {w:World} (h:Kept p a w) (hB:B≤a.heap.size) (hp:∀ k,k<B→p k):Below B a w:=⟨h.os,h.tape,h.output,h.size,fun k hk=>h.block k (by omega) (hp k hk)⟩
theorem Kept.cell {w:World} (h:Kept p w w') (hl:q.block<w.heap.size) (hq:p q.block):w'.cell? q=w.cell? q:=World.cell?_of_block (w:=w) (h.block q.block hl hq)
theorem Kept.mono {q:Nat→Prop} {w:World} (h:Kept p w w') (hq:∀ k,q k→p k):Kept q w w':=⟨h.os,h.tape,h.output,h.size,fun k hk hp=>h.block k hk (hq k hp)⟩
section
variable {P:Program} {w:World}
theorem aa9 {ops:Array Oper} {rest:List Oper} {o:Oper} {a:Act} {Q:Exit→Act→World→Prop} {t e:TypeId} {size bytes:Nat} (E:Elem P t e size bytes) (hgd:o.guard=none) (s x:Operand)
  (ho:o.op = .call { callee:=.builtin .append,args := #[s,x],argTypes := #[t,t] })
  (base:Nat) (v:Value) (n:Nat) (xs:List Value) (hs:a.eval s=v) (hown:w.ownsRow base e size v n xs)
  (ad:Addr) (m c:Nat) (news:List Value) (B:Nat) (hx:a.eval x = .slice (some ad) m c) (hl:news.length=m*size) (hr:Row w B (some ad) news) (h1:∀ u∈news,u.oneCell'=true)
  (hby:(n+m)*bytes≤140737488355328) (hmax:n+m≤9223372036854775807) (hbase:base≤w.heap.size)
  (h:∀ v' w',w'.ownsRow base e size v' (n+m) (xs++news)→w.grownBy w' v.ownBlock→(v'.ownBlock=v.ownBlock∨v'.ownBlock=some w.heap.size)→wpList P ops Q rest (a.put o.dst v') w'):wpList P ops Q (o::rest) a w:=by
 obtain ⟨i,z,ht,hi,hz,hsize,hbytes,hzs,hsz⟩:=E
 refine wpList_append_own_at w hgd s x t ho base e i z size bytes ht hi hz hsize hbytes hzs hsz v n xs hs hown ad m c news hx hl ?_ h1 (by unfold maxLen;omega) hby hbase fun v' w' h2 h3 _ h5=>h v' w' h2 h3 h5
 intro j u hj
 obtain ⟨hjl,rfl⟩:=List.getElem?_eq_some_iff.1 hj
 obtain ⟨b,o',e',_,hc⟩:=hr (by omega)
 cases e'
 have:=hc j hjl
 unfold Addr.add
 split
 ·subst_vars;simpa using this
 ·exact this
end
variable {g B:Nat} {t:TypeId} {a b:Value}
theorem iN {w:World} (h:w.heap[g]? = some (.cells #[a,b] t (0,0))):w.cell? ⟨g,0,none⟩=some a∧w.cell? ⟨g,1,none⟩=some b∧w.frozen? ⟨g,0,none⟩=false∧w.frozen? ⟨g,1,none⟩=false:=by
 simp [World.cell?,World.frozen?,h]
theorem TT {w:World} (h:w.heap[g]? = some (.cells #[a,b] t (0,0))) (u:Value):(w.setCell ⟨g,0,none⟩ u).heap[g]? = some (.cells #[u,b] t (0,0)):=heap_setCell_same w g 0 _ t u h
theorem wL {w:World} (h:w.heap[g]? = some (.cells #[a,b] t (0,0))) (u:Value):(w.setCell ⟨g,1,none⟩ u).heap[g]? = some (.cells #[a,u] t (0,0)):=heap_setCell_same w g 1 _ t u h
theorem block_lt {w:World} {o:Obj} (h:w.heap[g]? = some o):g<w.heap.size:=by
 rcases Nat.lt_or_ge g w.heap.size with h'|h'
 ·exact h'
 ·simp [Array.getElem?_eq_none h'] at h
theorem Row.grown {w w':World} {A:Option Addr} {cs:List Value} {row:Option Nat} (h:Row w B A cs) (hB:B≤w.heap.size) (g:w.grownBy w' row) (hne:∀ b o,A=some ⟨b,o,none⟩→row≠some b):Row w' B A cs:=fun hl=>by
 obtain ⟨b,o,e,hlt,hc⟩:=h hl
 exact ⟨b,o,e,hlt,fun j hj=>(World.cell?_of_block (w:=w) (g.block b (by omega) (fun e2=>hne b o e e2.symm))).trans (hc j hj)⟩
def Gives (v:Value) (w:World) (e:Ending) (w':World):Prop:=e = .returned v∧Below w.heap.size w w'
def yt (base:Nat) (t:TypeId) (n:Nat) (xs:List Value) (w:World) (e:Ending) (w':World):Prop:=∃ v,e = .returned v∧w'.ownsRow base t 1 v n xs∧Below w.heap.size w w'
theorem below_drewN {a w:World} (h:Below B a w) (n:Nat):Below B a (w.drewN n):=⟨h.os,h.tape,h.output,h.size,h.block⟩
end Mem
namespace gT
variable {m l:List Nat}
def bitsOf (n:Nat):Nat→List Nat
 | 0=>[]
 | w+1=>n/2^w % 2::bitsOf n w
theorem bG (n w:Nat):(bitsOf n w).length=w:=by
 induction w with
 | zero=>rfl
 | succ w ih=>simp [bitsOf,ih]
def Bin (l:List Nat):Prop:=∀ b∈l,b<2
theorem Bin.app (h:Bin l) (k:Bin m):Bin (l++m):=fun b hb=>by
 rcases List.mem_append.1 hb with x|x
 ·exact h b x
 ·exact k b x
theorem Bin.left (h:Bin (l++m)):Bin l:=fun b hb=>h b (List.mem_append_left _ hb)
theorem Bin.right (h:Bin (l++m)):Bin m:=fun b hb=>h b (List.mem_append_right _ hb)
theorem wM:Bin []:=fun _ h=>by cases h
theorem bY (n w:Nat):Bin (bitsOf n w):=by
 induction w with
 | zero=>exact wM
 | succ w ih=>intro b hb;simp only [bitsOf,List.mem_cons] at hb;rcases hb with rfl|hb;omega;exact ih b hb
theorem Bin.getD (h:Bin l) (i:Nat):l.getD i 0<2:=by
 rw [List.getD_eq_getElem?_getD]
 rcases hl:l[i]? with _|b
 ·simp
 ·exact h b (List.mem_of_getElem? hl)
def bJ (l:List Nat) (j:Nat):Nat:=l.getD (8*j) 0*128+l.getD (8*j+1) 0*64+l.getD (8*j+2) 0*32+l.getD (8*j+3) 0*16+l.getD (8*j+4) 0*8+l.getD (8*j+5) 0*4+l.getD (8*j+6) 0*2+l.getD (8*j+7) 0
def aZ (l:List Nat):List Nat:=(List.range ((l.length+7)/8)).map (bJ l)
def gM (l:List Nat):List Nat:=(List.range (l.length/8+1)).map (bJ l)
theorem dH (l:List Nat):(aZ l).length=(l.length+7)/8:=by simp [aZ]
theorem Oy (l:List Nat):(gM l).length=l.length/8+1:=by simp [gM]
theorem lU (h:Bin l) (j:Nat):bJ l j<256:=by
 unfold bJ
 have h0:=h.getD (8*j);have h1:=h.getD (8*j+1);have h2:=h.getD (8*j+2);have h3:=h.getD (8*j+3)
 have h4:=h.getD (8*j+4);have h5:=h.getD (8*j+5);have h6:=h.getD (8*j+6);have h7:=h.getD (8*j+7)
 omega
theorem R9 (l:List Nat) (b i:Nat):(l++[b]).getD i 0=if i=l.length then b else l.getD i 0:=by
 simp only [List.getD_eq_getElem?_getD]
 by_cases h:i<l.length
 ·rw [List.getElem?_append_left h,if_neg (by omega)]
 ·rw [List.getElem?_append_right (by omega)]
  by_cases h2:i=l.length
  ·subst h2;simp
  ·rw [if_neg h2,List.getElem?_eq_none (by simp;omega),List.getElem?_eq_none (by omega)]
theorem eF (l:List Nat) (i:Nat) (h:l.length≤i):l.getD i 0=0:=by
 rw [List.getD_eq_getElem?_getD,List.getElem?_eq_none h];rfl
theorem qU (l:List Nat):bJ l (l.length/8) % 2^(8-l.length % 8)=0:=by
 unfold bJ
 generalize hq:l.length/8=q
 have hr:l.length % 8=0∨l.length % 8=1∨l.length % 8=2∨l.length % 8=3∨l.length % 8=4∨l.length % 8=5∨l.length % 8=6∨l.length % 8=7:=by omega
 rcases hr with h|h|h|h|h|h|h|h
 all_goals
  have z:=fun i (hi:l.length≤8*q+i)=>eF l (8*q+i) hi
  rw [h]
 ·rw [show 8*q=8*q+0 from rfl,z 0 (by omega),Nat.add_zero,z 1 (by omega),z 2 (by omega),z 3 (by omega),z 4 (by omega),z 5 (by omega),z 6 (by omega),z 7 (by omega)]
 ·rw [z 1 (by omega),z 2 (by omega),z 3 (by omega),z 4 (by omega),z 5 (by omega),z 6 (by omega),z 7 (by omega)];omega
 ·rw [z 2 (by omega),z 3 (by omega),z 4 (by omega),z 5 (by omega),z 6 (by omega),z 7 (by omega)];omega
 ·rw [z 3 (by omega),z 4 (by omega),z 5 (by omega),z 6 (by omega),z 7 (by omega)];omega
 ·rw [z 4 (by omega),z 5 (by omega),z 6 (by omega),z 7 (by omega)];omega
 ·rw [z 5 (by omega),z 6 (by omega),z 7 (by omega)];omega
 ·rw [z 6 (by omega),z 7 (by omega)];omega
 ·rw [z 7 (by omega)];omega
theorem JI (l:List Nat) (b j:Nat):bJ (l++[b]) j=bJ l j+(if j=l.length/8 then b*2^(7-l.length % 8) else 0):=by
 unfold bJ
 simp only [R9]
 by_cases hj:j=l.length/8
 ·have z:=fun i (hi:l.length=8*j+i)=>eF l (8*j+i) (by omega)
  have hr:l.length=8*j+0∨l.length=8*j+1∨l.length=8*j+2∨l.length=8*j+3∨l.length=8*j+4∨l.length=8*j+5∨l.length=8*j+6∨l.length=8*j+7:=by omega
  rw [if_pos hj]
  rcases hr with h|h|h|h|h|h|h|h
  all_goals
   have e:l.length % 8=l.length-8*j:=by omega
   have zz:=z _ h
   rw [e,h]
   simp only [Nat.add_sub_cancel_left,Nat.add_zero] at zz ⊢
   rw [List.getD_eq_getElem?_getD] at zz
   simp [zz];try omega
 ·rw [if_neg hj,if_neg (by omega),if_neg (by omega),if_neg (by omega),if_neg (by omega),if_neg (by omega),if_neg (by omega),if_neg (by omega),if_neg (by omega)]
  omega
theorem BR (l:List Nat) (b:Nat):aZ (l++[b])=(gM l).set (l.length/8) (bJ l (l.length/8)+b*2^(7-l.length % 8)):=by
 apply List.ext_getElem
 ·simp [aZ,gM];omega
 ·intro i h1 h2
  rw [List.getElem_set]
  simp only [aZ,gM,List.getElem_map,List.getElem_range]
  rw [JI]
  by_cases h:i=l.length/8
  ·rw [if_pos h,if_pos h.symm,h]
  ·rw [if_neg h,if_neg (by omega)];rfl
theorem Dq (h:l.length % 8≠0):gM l=aZ l:=by
 unfold gM aZ;rw [show (l.length+7)/8=l.length/8+1 from by omega]
theorem Da (h:l.length % 8=0):gM l=aZ l++[0]:=by
 unfold gM aZ;rw [show (l.length+7)/8=l.length/8 from by omega,List.range_succ,List.map_append]
 have hz:bJ l (l.length/8)=0:=by
  unfold bJ
  rw [eF l _ (by omega),eF l _ (by omega),eF l _ (by omega),eF l _ (by omega),eF l _ (by omega),eF l _ (by omega),eF l _ (by omega),eF l _ (by omega)]
 simp [hz]
theorem zJ (l:List Nat):(gM l)[l.length/8]? = some (bJ l (l.length/8)):=by
 simp [gM]
theorem lX {p:List Nat→Prop} (h0:p []) (h1:∀ l b,p l→p (l++[b])):∀ l,p l:=fun l=>by
 rw [← List.reverse_reverse l]
 induction l.reverse with
 | nil=>exact h0
 | cons b m ih=>rw [List.reverse_cons];exact h1 _ _ ih
def num (l:List Nat):Nat:=l.foldl (fun n b=>2*n+b) 0
theorem kz (l:List Nat) (b:Nat):num (l++[b])=2*num l+b:=by unfold num;rw [List.foldl_append];rfl
theorem qE (h:Bin l):num l<2^l.length:=by
 revert h
 refine lX (p:=fun l=>Bin l→num l<2^l.length) (fun _=>by decide) (fun l b ih h=>?_) l
 ·have h1:=ih h.left
  have h2:b<2:=h b (by simp)
  rw [kz,List.length_append,List.length_singleton,Nat.pow_succ];omega
theorem YP (l m:List Nat):num (l++m)=num l*2^m.length+num m:=by
 refine lX (p:=fun m=>num (l++m)=num l*2^m.length+num m) (by simp [num]) (fun m b ih=>?_) m
 ·rw [← List.append_assoc,kz,kz,ih,List.length_append,List.length_singleton,Nat.pow_succ,Nat.mul_add];rw [Nat.mul_comm 2 (num l*2^m.length),Nat.mul_assoc];omega
theorem En (n w:Nat):num (bitsOf n w)=n % 2^w:=by
 induction w with
 | zero=>simp [bitsOf,num,Nat.mod_one]
 | succ w ih =>
  rw [show bitsOf n (w+1)=[n/2^w % 2]++bitsOf n w from rfl,YP,ih,bG,Nat.pow_succ,Nat.mod_mul]
  simp [num,Nat.mul_comm,Nat.add_comm]
def aF (l:List UInt8):List Nat:=l.flatMap fun c=>bitsOf c.toNat 8
theorem fU (l:List UInt8):(aF l).length=8*l.length:=by
 induction l with
 | nil=>rfl
 | cons c l ih=>rw [aF,List.flatMap_cons,List.length_append,bG,← aF,ih,List.length_cons];omega
theorem lT (l:List UInt8):Bin (aF l):=by
 intro b hb
 simp only [aF,List.mem_flatMap] at hb
 obtain ⟨c,_,hb⟩:=hb
 exact bY _ _ b hb
theorem Fe (n w i:Nat) (h:i<w):(bitsOf n w)[i]? = some (n/2^(w-1-i) % 2):=by
 induction w generalizing i with
 | zero=>omega
 | succ w ih =>
  rcases i with _|i
  ·simp [bitsOf]
  ·simp only [bitsOf,List.getElem?_cons_succ]
   rw [ih i (by omega),show w+1-1-(i+1)=w-1-i from by omega]
theorem BO:∀ (l:List UInt8) (i:Nat) (h:i<8*l.length),(aF l)[i]? = some ((l[i/8]'(by omega)).toNat/2^(7-i % 8) % 2)
 | [],i,h=>absurd h (by simp)
 | c::l,i,h=>by
  rw [aF,List.flatMap_cons,← aF]
  by_cases h8:i<8
  ·rw [List.getElem?_append_left (by rw [bG];exact h8),Fe _ _ _ h8]
   have e:i/8=0:=by omega
   simp only [e,List.getElem_cons_zero]
   rw [show 8-1-i=7-i % 8 from by omega]
  ·rw [List.getElem?_append_right (by rw [bG];omega),bG,BO l (i-8) (by simp at h;omega)]
   have e:i/8=(i-8)/8+1:=by omega
   simp only [e,List.getElem_cons_succ]
   rw [show (i-8) % 8=i % 8 from by omega]
end gT
namespace dn
def split (c:UInt8):List UInt8→List (List UInt8)
 | []=>[[]]
 | b::l=>if b==c then []::split c l else match split c l with
  | []=>[[b]]
  | h::t=>(b::h)::t
theorem Ec (c:UInt8) (l:List UInt8):split c l≠[]:=by
 cases l with
 | nil=>simp [split]
 | cons b l =>
  unfold split
  split
  ·simp
  ·split<;>simp
theorem Fw (c:UInt8) (a r:List UInt8) (h:a.contains c=false):split c (a++c::r)=a::split c r:=by
 induction a with
 | nil=>simp [split]
 | cons b l ih =>
  rw [List.contains_cons,Bool.or_eq_false_iff] at h
  have hb:(b==c)=false:=by
   have:=h.1
   simp only [beq_eq_false_iff_ne] at this ⊢;exact fun e=>this e.symm
  rw [List.cons_append,split,hb,ih h.2];rfl
theorem mK (c:UInt8) (a:List UInt8) (h:a.contains c=false):split c a=[a]:=by
 induction a with
 | nil=>rfl
 | cons b l ih =>
  rw [List.contains_cons,Bool.or_eq_false_iff] at h
  have hb:(b==c)=false:=by
   have:=h.1
   simp only [beq_eq_false_iff_ne] at this ⊢;exact fun e=>this e.symm
  rw [split,hb,ih h.2];rfl
theorem mW (c:UInt8) (l:List UInt8):l.contains c=false∨∃ a r,l=a++c::r∧a.contains c=false:=by
 induction l with
 | nil=>exact .inl rfl
 | cons b l ih =>
  by_cases hb:b=c
  ·exact .inr ⟨[],l,by rw [hb];rfl,rfl⟩
  ·have hb':(c==b)=false:=by simp;exact fun e=>hb e.symm
   rcases ih with h|⟨a,r,rfl,h⟩
   ·exact .inl (by rw [List.contains_cons,hb',h];rfl)
   ·exact .inr ⟨b::a,r,rfl,by rw [List.contains_cons,hb',h];rfl⟩
theorem jO (c:UInt8) (l:List UInt8):(split c l).length≤l.length+1:=by
 induction l with
 | nil=>simp [split]
 | cons b l ih =>
  unfold split
  split
  ·simp;omega
  ·split
   ·simp
   ·rename_i h t e
    rw [e] at ih;simp at ih ⊢;omega
theorem FY (c:UInt8) (a r:List UInt8):split c (a++c::r)=split c a++split c r:=by
 induction a with
 | nil=>simp [split]
 | cons b l ih =>
  rw [List.cons_append,split,split]
  by_cases hb:(b==c)=true
  ·simp [hb,ih]
  ·simp only [hb,ih]
   cases e:split c l with
   | nil=>exact absurd e (Ec c l)
   | cons h t=>simp
theorem index_none (l:List UInt8) (c:UInt8) (h:l.contains c=false):Lib.indexByte l c = -1:=by
 induction l with
 | nil=>rfl
 | cons b l ih =>
  rw [List.contains_cons,Bool.or_eq_false_iff] at h
  have hb:(b==c)=false:=by
   have:=h.1
   simp only [beq_eq_false_iff_ne] at this ⊢;exact fun e=>this e.symm
  rw [Lib.indexByte,hb,ih h.2];rfl
theorem xY (a r:List UInt8) (c:UInt8) (h:a.contains c=false):Lib.indexByte (a++c::r) c=a.length:=by
 induction a with
 | nil=>simp [Lib.indexByte]
 | cons b l ih =>
  rw [List.contains_cons,Bool.or_eq_false_iff] at h
  have hb:(b==c)=false:=by
   have:=h.1
   simp only [beq_eq_false_iff_ne] at this ⊢;exact fun e=>this e.symm
  rw [List.cons_append,Lib.indexByte,hb,ih h.2]
  have e:((l.length:Int) == -1)=false:=by simp
  rw [if_neg (by simp),e]
  simp
theorem index_ge (l:List UInt8) (c:UInt8):decide (0≤Lib.indexByte l c)=l.contains c:=by
 rcases mW c l with h1|⟨a,r,rfl,h1⟩
 ·rw [index_none l c h1,h1];rfl
 ·rw [xY a r c h1];simp
end dn
namespace jZ
open gT
def abc:List UInt8:=[65,66,67,68,69,70,71,72,73,74,75,76,77,78,79,80,81,82,83,84,85,86,87,88,89,90,97,98,99,100,101,102,103,104,105,106,107,108,109,110,111,112,113,114,115,116,117,118,119,120,121,122,48,49,50,51,52,53,54,55,56,57,45,95]
def letter (n:Nat):UInt8:=abc.getD n 0
def pF:List Nat→List UInt8
 | a::b::c::d::e::f::r=>letter (num [a,b,c,d,e,f])::pF r
 | []=>[]
 | l=>[letter (num l*2^(6-l.length))]
theorem uN (l:List Nat) (h:l≠[]):pF l=letter (num (l.take (min 6 l.length))*2^(6-min 6 l.length))::pF (l.drop (min 6 l.length)):=by
 match l,h with
 | [a],_=>rfl
 | [a,b],_=>rfl
 | [a,b,c],_=>rfl
 | [a,b,c,d],_=>rfl
 | [a,b,c,d,e],_=>rfl
 | a::b::c::d::e::f::r,_ =>
  have e:min 6 (a::b::c::d::e::f::r).length=6:=by simp
  rw [e]
  simp [pF]
theorem KN:∀ (n:Nat) (l:List Nat),l.length≤n→(pF l).length=(l.length+5)/6
 | 0,l,h=>by
  obtain rfl:l=[]:=List.eq_nil_of_length_eq_zero (by omega)
  rfl
 | n+1,l,h=>by
  by_cases h0:l=[]
  ·subst h0;rfl
  ·have hl:0<l.length:=List.length_pos_iff.2 h0
   rw [uN l h0,List.length_cons,KN n _ (by rw [List.length_drop];omega),List.length_drop]
   omega
theorem DK (a l:List Nat) (h:a.length=6):pF (a++l)=letter (num a)::pF l:=by
 match a,h with
 | [a,b,c,d,e,f],_=>rfl
end jZ
namespace Seq
section
variable {P:Program} {ops:Array Oper} {Q:Exit→Act→World→Prop} {S:World→Prop} {E:Act→World→Prop}
variable {r:List (Oper × Bool)} {n id:Nat} {a:Act} {m:Array Bool} {o:Oper}
def oC (P:Program) (ops:Array Oper) (Q:Exit→Act→World→Prop) (S:World→Prop) (E:Act→World→Prop):List (Oper × Bool)→Act→World→Prop
 | [],a,w=>E a w
 | (o,false)::r,a,w=>∃ v,YieldsIf P ops S o v a∧oC P ops Q S E r (a.put o.dst v) w
 | (o,true)::r,a,w=>(Region.wanted o (yielded ops a.tmps)=true∧o.wp P a w (fun a' w'=>S w'∧oC P ops Q S E r a' w') Q)∨(Region.wanted o (yielded ops a.tmps)=false∧S w∧oC P ops Q S E r (a.put o.dst undef) w)
def lay (ops:List Oper):List (Nat × Bool)→List (Oper × Bool)
 | []=>[]
 | (i,b)::r=>match ops[i]? with
  | some o=>(o,b)::lay ops r
  | none=>lay ops r
def Dr (ops:Array Oper):List (Nat × Bool)→Array Bool→Array Bool→Bool
 | [],l,m=>l==m
 | (i,false)::r,l,m=>Region.free .any ops l i&&(Region.ready .any ops l).contains i&&Dr ops r (l.setIfInBounds i true) m
 | (i,true)::r,l,m=>Region.ready .any ops l==[i]&&Dr ops r (l.setIfInBounds i true) m
def zF (ops:Array Oper):List (Nat × Bool)→Array Bool→Bool
 | [],l=>(Region.ready .any ops l).isEmpty
 | (i,false)::r,l=>Region.free .any ops l i&&(Region.ready .any ops l).contains i&&zF ops r (l.setIfInBounds i true)
 | (i,true)::r,l=>Region.ready .any ops l==[i]&&zF ops r (l.setIfInBounds i true)
theorem xP (hs:Region.noSelect ops=true) (hQ:∀ c a d v w,Q (.panic c) (a.put d v) w→Q (.panic c) a w) (good:List (Nat × Bool)→Array Bool→Bool) (n:Nat)
  (h0:∀ l a w,good [] l=true→S w→E a w→wpAnyH P .any ops Q S n l a w)
  (h1:∀ i r l,good ((i,false)::r) l=(Region.free .any ops l i&&(Region.ready .any ops l).contains i&&good r (l.setIfInBounds i true)))
  (h2:∀ i r l,good ((i,true)::r) l=(Region.ready .any ops l==[i]&&good r (l.setIfInBounds i true))) :
  ∀ (plan:List (Nat × Bool)) (listed:Array Bool) (a:Act) (w:World),good plan listed=true→S w→oC P ops Q S E (lay ops.toList plan) a w→wpAnyH P .any ops Q S (plan.length+n) listed a w
 | [],listed,a,w,hp,hS,h=>by
  rw [List.length_nil,Nat.zero_add];exact h0 _ _ _ hp hS h
 | (i,false)::r,listed,a,w,hp,hS,h=>by
  rw [h1] at hp
  simp only [Bool.and_eq_true] at hp
  obtain ⟨⟨hf,hr⟩,hp⟩:=hp
  obtain ⟨_,oi,hoi,_⟩:=mem_ready.1 (show i∈Region.ready .any ops listed by simpa using hr)
  have e:lay ops.toList ((i,false)::r)=(oi,false)::lay ops.toList r:=by simp only [lay,Array.getElem?_toList,hoi]
  rw [e] at h
  obtain ⟨v,hy,h⟩:=h
  rw [List.length_cons,Nat.add_right_comm]
  exact wpAnyH_take hoi hs hf hr (fun c a w=>hQ c a _ v w) hy hS (xP hs hQ good n h0 h1 h2 r _ _ _ hp hS h)
 | (i,true)::r,listed,a,w,hp,hS,h=>by
  rw [h2] at hp
  simp only [Bool.and_eq_true,beq_iff_eq] at hp
  obtain ⟨hr,hp⟩:=hp
  obtain ⟨_,oi,hoi,_⟩:=mem_ready.1 (show i∈Region.ready .any ops listed by rw [hr];simp)
  have e:lay ops.toList ((i,true)::r)=(oi,true)::lay ops.toList r:=by simp only [lay,Array.getElem?_toList,hoi]
  rw [e] at h
  rw [List.length_cons,Nat.add_right_comm]
  refine ⟨fun h0=>(by rw [hr] at h0;cases h0),fun j hj=>?_⟩
  rw [hr,List.mem_singleton] at hj
  subst hj
  unfold wpOp
  simp only [hoi]
  rcases h with ⟨hw,h⟩|⟨hw,hS',h⟩
  ·rw [if_pos hw]
   exact .inl (Oper.wp_mono (fun a' w' ⟨h3,h4⟩=>⟨h3,xP hs hQ good n h0 h1 h2 r _ _ _ hp h3 h4⟩) h)
  ·rw [if_neg (by rw [hw];decide)]
   exact ⟨hS',xP hs hQ good n h0 h1 h2 r _ _ _ hp hS' h⟩
theorem J6 (hs:Region.noSelect ops=true) (hQ:∀ c a d v w,Q (.panic c) (a.put d v) w→Q (.panic c) a w) (plan:List (Nat × Bool)) (listed:Array Bool) (a:Act) (w:World) (hp:zF ops plan listed=true) (hS:S w)
  (h:oC P ops Q S (Q .normal) (lay ops.toList plan) a w):wpAnyH P .any ops Q S plan.length listed a w :=
 xP hs hQ (zF ops) 0 (fun _ _ _ hp _ h=>⟨List.isEmpty_iff.1 hp,h⟩) (fun _ _ _=>rfl) (fun _ _ _=>rfl) plan listed a w hp hS h
theorem vO (plan:List (Nat × Bool)) {w:World} (hm:P.follows .mixedOrders=true) (hok:(Region.noSelect ops&&(plan.length==ops.size&&zF ops plan (Array.replicate ops.size false)))=true) (hQ:∀ c a d v w,Q (.panic c) (a.put d v) w→Q (.panic c) a w) (hS:S w.drew) (h:oC P ops Q S (Q .normal) (lay ops.toList plan) a w.drew):(Code.region id ops true).wp P Q a w:=by
 simp only [Bool.and_eq_true,beq_iff_eq] at hok
 obtain ⟨hs,hl,hp⟩:=hok
 refine wp_region_held (S:=S) hm ?_
 have:=J6 hs hQ plan _ a w.drew hp hS h
 rw [hl] at this
 exact this
theorem JD (plan:List (Nat × Bool)) (m:Array Bool) (n:Nat) {w:World} (hm:P.follows .mixedOrders=true) (hok:(Region.noSelect ops&&(plan.length+n==ops.size&&Dr ops plan (Array.replicate ops.size false) m))=true) (hQ:∀ c a d v w,Q (.panic c) (a.put d v) w→Q (.panic c) a w) (hS:S w.drew) (h:oC P ops Q S (fun a' w'=>wpAnyH P .any ops Q S n m a' w') (lay ops.toList plan) a w.drew):(Code.region id ops true).wp P Q a w:=by
 simp only [Bool.and_eq_true,beq_iff_eq] at hok
 obtain ⟨hs,hl,hp⟩:=hok
 refine wp_region_held (S:=S) hm ?_
 have:=xP (E:=fun a' w'=>wpAnyH P .any ops Q S n m a' w') hs hQ (fun p l=>Dr ops p l m) n (fun l a w hp _ h=>by
  simp only [Dr,beq_iff_eq] at hp
  subst hp
  exact h) (fun _ _ _=>rfl) (fun _ _ _=>rfl) plan _ a w.drew hp hS h
 rw [hl] at this
 exact this
theorem either (i j:Nat) (oi oj:Oper) {w:World} (hr:(Region.ready .any ops m==[i,j])=true) (hi:ops[i]? = some oi) (hj:ops[j]? = some oj) (wi:Region.wanted oi (yielded ops a.tmps)=true) (wj:Region.wanted oj (yielded ops a.tmps)=true) (h1:∀ K:Act→World→Prop,(∀ a' w',S w'→wpAnyH P .any ops Q S n (m.setIfInBounds i true) a' w'→K a' w')→oi.wp P a w K Q) (h2:∀ K:Act→World→Prop,(∀ a' w',S w'→wpAnyH P .any ops Q S n (m.setIfInBounds j true) a' w'→K a' w')→oj.wp P a w K Q):wpAnyH P .any ops Q S (n+1) m a w:=by
 simp only [beq_iff_eq] at hr
 refine ⟨fun h0=>(by rw [hr] at h0;cases h0),fun k hk=>?_⟩
 rw [hr] at hk
 simp only [List.mem_cons,List.not_mem_nil,or_false] at hk
 unfold wpOp
 rcases hk with rfl|rfl
 ·simp only [hi];rw [if_pos wi];exact .inl (h1 _ fun _ _ a b=>⟨a,b⟩)
 ·simp only [hj];rw [if_pos wj];exact .inl (h2 _ fun _ _ a b=>⟨a,b⟩)
theorem U5 (plan:List (Nat × Bool)) {w:World} (hok:(Region.noSelect ops&&(plan.length==n&&zF ops plan m))=true) (hQ:∀ c a d v w,Q (.panic c) (a.put d v) w→Q (.panic c) a w) (hS:S w) (h:oC P ops Q S (Q .normal) (lay ops.toList plan) a w):wpAnyH P .any ops Q S n m a w:=by
 simp only [Bool.and_eq_true,beq_iff_eq] at hok
 obtain ⟨hs,hl,hp⟩:=hok
 have:=J6 hs hQ plan m a w hp hS h
 rwa [hl] at this
theorem uf {w:World} (h:E a w):oC P ops Q S E [] a w:=h
theorem kM {w:World} {v:Value} (hw:Region.wanted o (yielded ops a.tmps)=true) (hy:∀ w',S w'→(execOp a.eval o).run P w' = .ok (.value v) w') (h:oC P ops Q S E r (a.put o.dst v) w):oC P ops Q S E ((o,false)::r) a w:=⟨v,.inl ⟨hw,hy⟩,h⟩
theorem tL {w:World} (hw:Region.wanted o (yielded ops a.tmps)=true) (h:∀ K:Act→World→Prop,(∀ a' w',S w'→oC P ops Q S E r a' w'→K a' w')→o.wp P a w K Q):oC P ops Q S E ((o,true)::r) a w:=.inl ⟨hw,h _ fun _ _ h1 h2=>⟨h1,h2⟩⟩
end
end Seq
end Go.Proofs.YtlfdjpgghiemfaaGreatDoor
