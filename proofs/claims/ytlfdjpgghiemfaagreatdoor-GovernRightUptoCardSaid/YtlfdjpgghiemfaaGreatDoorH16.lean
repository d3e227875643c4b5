/- Texts of the proof, joined: Range, WordR, WordJ, WordQ, TreeW, PathT. -/
import Derived.RangeFuncNested
import Derived.RangeFuncBound
import Derived.Shelf.RegionOpen
import Derived.OwnWalkIn
import Derived.LoopNIn
import Derived.LoopIn
import Derived.Test.YtlfdjpgghiemfaaGreatDoorH15
import Derived.Lib.Join
set_option maxHeartbeats 4000000
set_option maxRecDepth 100000
namespace Go.Proofs.YtlfdjpgghiemfaaGreatDoor
namespace Range
open Go.RowKit
section
variable {α:Type} {F:Fence} {n:Nat} {P:Program}
variable {B:Nat} {W:World} {I:List α→World→Prop} {o:Obj} {b:Nat} {xs:List α} {k:Nat}
def adV (b:Nat) (J:List α→World→Prop):Prop:=∀ xs W W' row,J xs W→W.grownBy W' row→(row=none∨row=some b)→J xs W'
def Hands (F:Fence) (n:Nat) (P:Program) (g:Nat) (lb:Array Value) (encs:α→Array Value) (b:Nat) (K:Nat→Prop) (S:List α→Prop) (N:Nat) (w:World):Prop :=
 ∀ (l:Nat) (J:List α→World→Prop) (W:World),(∀ k,K k→W.heap[k]? = w.heap[k]?)→w.heap.size≤W.heap.size→adV b J →
  (∀ pre x V,J pre V→pre.length<N→YieldAt F (n-1) P l (encs x) V fun e V'=>e = .returned (.bool true)∧J (pre++[x]) V'∧(∀ k,K k→V'.heap[k]? = V.heap[k]?)∧V.heap.size≤V'.heap.size) →
  J [] W→CallsIn F n P g (#[.func (.yield l) #[] #[]]++lb) W fun e W'=>(∃ v,e = .returned v)∧∃ xs,S xs∧J xs W'
def Mine (b B:Nat) (I:List α→World→Prop):Prop:=∀ xs W W' row,I xs W→W.grownBy W' row→(∀ r,row=some r→r=b∨(B≤r∧∃ o:Obj,W.heap[r]? = some o∧o.isCells=false))→I xs W'
def Round (K:Nat→Prop) (I:List α→World→Prop) (xs:List α) (W:World):Exit→Act→World→Prop
 | .normal,_,W'=>KeepsOthers W W'∧(∀ k,K k→W'.heap[k]? = W.heap[k]?)∧I xs W'
 | _,_,_=>False
theorem Mine.put {l:Nat} (h:Mine b B I) (o':Obj) (hi:I xs W) (hB:B≤l) (hl:W.heap[l]? = some o) (ho:o.isCells=false):I xs (W.putObj l o') :=
 h xs W _ (some l) hi (grownBy_putObj' W l o') (fun r e=>by cases e;exact .inr ⟨hB,o,hl,ho⟩)
theorem Mine.new (h:Mine b B I) (o:Obj) (hi:I xs W):I xs (W.alloc o) :=
 h xs W _ none hi (World.grownBy_alloc W o none) (fun r e=>by cases e)
theorem Qa {W':World} {row:Option Nat} (g:W.grownBy W' row) (hr:row=none∨row=some b) (hk:k<W.heap.size) (hb:k≠b):W'.heap[k]? = W.heap[k]? :=
 g.block k hk (fun e=>by rcases hr with h|h<;>rw [h] at e<;>cases e;exact hb rfl)
theorem PZ (h:W.heap[k]? = some o):k<W.heap.size:=(Array.getElem?_eq_some_iff.1 h).1
theorem Aj {g:Operand} {ps:Array Tmp} {assign body:Code} {Q:Exit→Act→World→Prop} {a:Act} {w:World} (hro:F.round=none) (h1:1≤n) {gf:Nat} {lb:Array Value} (hg:a.eval g = .func (.func gf) #[] lb) (hFg:F.fn gf) (eg:∀ args w,(callFunc gf args).run P w = .ok (.enter gf args) w) {encs:α→Array Value} {K:Nat→Prop} {S:List α→Prop} {N:Nat} (hb:K b) (hK:∀ k,K k→k<w.heap.size) (hseq:Hands F (n-1) P gf lb encs b K S N w) (hps:∀ x,(encs x).size=ps.size) (I:List α→World→Prop) (hI:Mine b w.heap.size I) (h0:I [] w) (a₁:α→Act) (hassign:∀ (l:Nat) (x:α) (W:World) (K:Act→World→Prop),K (a₁ x) W →
   assign.wpIn (F.inRound l) (n-1-1) P (Exit.then K (fun _ _ _=>False)) { tmps:=(ps.zip (encs x)).foldl (fun t (p,v)=>t.setIfInBounds p v) a.tmps,defers:=[] } W) (hbody:∀ (l:Nat) (pre:List α) (x:α) (W:World),I pre W→pre.length<N→w.heap.size≤W.heap.size→body.wpIn (F.inRound l) (n-1-1) P (Round K I (pre++[x]) W) (a₁ x) W) (hdone:∀ (D:Nat) (xs:List α) (W:World),w.heap.size≤D→S xs→I xs W→W.heap[D]? = some (.deferred (some []))→Q .normal { a with defers:={ target:=.collected D,args := #[] }::a.defers } W):
  (Code.rangeFunc g ps assign body).wpIn F n P Q a w:=by
 refine wpIn_rangeFunc fun fn hfn=>?_
 rw [hro]
 have hbz:=hK b hb
 generalize hD:w.heap.size=D at hI hdone hbody
 have recE:∃ rec:LoopState→Option Code→Loop,rec=fun st pe=>{ state:=st,pending:=pe,fn,tmps:=a.tmps,params:=ps,assign,body,defers:=D }:=⟨_,rfl⟩
 obtain ⟨rec,hrec⟩:=recE
 obtain ⟨V,hV⟩:∃ V,V=(w.alloc (.deferred (some []))).alloc (.loop (rec .ready none)):=⟨_,rfl⟩
 have vD:V.heap[D]? = some (.deferred (some [])):=by
  rw [hV,← hD];exact (Below.heap_alloc _ _ _ (by simp)).trans (World.alloc_heap_new w _)
 have vL:V.heap[D+1]? = some (.loop (rec .ready none)):=by
  have h:=World.alloc_heap_new (w.alloc (.deferred (some []))) (.loop (rec .ready none))
  rw [World.size_alloc,hD] at h
  rw [hV];exact h
 have vI:I [] V:=by rw [hV];exact hI.new _ (hI.new _ h0)
 have vb:∀ k,K k→V.heap[k]? = w.heap[k]? := fun k hk=>by
  have hkz:=hK k hk
  rw [hV];exact (Below.heap_alloc _ _ _ (by simp;omega)).trans (Below.heap_alloc _ _ _ hkz)
 have vz:w.heap.size≤V.heap.size:=by rw [hV];simp;omega
 refine ⟨D+1,[{ target:=.collected D,args := #[] }],V,{ target:=.fn (.func gf) lb,args := #[.func (.yield (D+1)) #[] #[]] },V,gf,#[.func (.yield (D+1)) #[] #[]]++lb,V,?_,?_,?_,?_,fun _=>h1,?_⟩
 ·rw [hV,hrec,← hD];exact run_enterLoop_outer _ _ _ _ _
 ·simp only [resolve,hg]
  simp [go_sem]
 ·intro f' hf'
  simp [Target.leads] at hf'
  subst hf'
  exact hFg
 ·simp [invoke,go_sem,eg]
 have hbD:b<D:=by omega
 refine (hseq (D+1) (fun xs W=>(I xs W∧w.heap.size≤W.heap.size)∧W.heap[D+1]? = some (.loop (rec .ready none))∧W.heap[D]? = some (.deferred (some []))) V vb vz ?_ ?_ ⟨⟨vI,vz⟩,vL,vD⟩).mono ?_
 ·rintro xs A B row ⟨⟨hi,hz⟩,hl,hd⟩ gr hr
  refine ⟨⟨hI xs A B row hi gr (fun r e=>?_),Nat.le_trans hz gr.size⟩,?_,?_⟩
  ·rcases hr with h|h<;>rw [h] at e<;>cases e
   exact .inl rfl
  ·rw [Qa gr hr (PZ hl) (by omega)];exact hl
  ·rw [Qa gr hr (PZ hd) (by omega)];exact hd
 ·rintro pre x W ⟨⟨hi,hz⟩,hl,hd⟩ hlen
  have hlt:=PZ hl
  have hy:=run_yield (P:=P) (args:=encs x) hl (by rw [hrec];exact hps x)
  rw [hrec] at hy
  refine ⟨fn,_,assign,body,hy,roundIn_of_wpIn hfn (hassign _ x W _ ⟨_,run_beginRound hl (by rw [hrec]),?_⟩)⟩
  have b1:(W.putObj (D+1) (.loop { rec .ready none with state:=.busy })).heap[D+1]? = some (.loop { rec .ready none with state:=.busy }):=World.putObj_heap_same hlt
  have b2:(W.putObj (D+1) (.loop { rec .ready none with state:=.busy })).heap[D]? = some (.deferred (some [])):=(World.putObj_heap_other (by omega)).trans hd
  have b3:∀ k,K k→(W.putObj (D+1) (.loop { rec .ready none with state:=.busy })).heap[k]? = W.heap[k]? := fun k hk=>World.putObj_heap_other (by have:=hK k hk;omega)
  have b4:(W.putObj (D+1) (.loop { rec .ready none with state:=.busy })).heap.size=W.heap.size:=by simp
  refine wpIn_mono (hbody _ pre x _ (hI.put _ hi (by omega) hl rfl) hlen (by rw [b4];omega)) ?_
  rintro e a3 U hp
  cases e with
  | normal =>
   obtain ⟨hk,hub,hiu⟩:=hp
   have u1:=hk.same _ _ b1 rfl
   have u2:=hk.same _ _ b2 rfl
   have hend:=run_endRound (P:=P) none u1
   rw [hrec] at hend
   have hzU:=hk.size
   rw [b4] at hzU
   refine ⟨_,_,hend,rfl,⟨⟨hI.put _ hiu (by omega) u1 rfl,by simp;omega⟩,?_,(World.putObj_heap_other (by omega)).trans u2⟩,fun k hk=>(World.putObj_heap_other (by have:=hK k hk;omega)).trans ((hub k hk).trans (b3 k hk)),by simp;omega⟩
   have:=World.putObj_heap_same (o:=.loop (rec .ready none)) (PZ u1)
   rw [hrec] at this ⊢
   exact this
  | _=>exact hp.elim
 ·rintro e U ⟨⟨v,rfl⟩,xs,hS,⟨hi,hz⟩,hl,hd⟩
  have hend:=run_endLoop (P:=P) hl (by rw [hrec];simp)
  rw [hrec] at hend
  exact ⟨none,_,hend,hdone D xs _ (by omega) hS (hI.put _ hi (by omega) hl rfl) ((World.putObj_heap_other (by omega)).trans hd)⟩
end
end Range
namespace FK
open Go.RowKit Go.Shelf Mem bX om dn vk Range
variable {w:World} {size:Nat} {t:TypeId} {W:World} {v:Value} {e:TypeId} {b:Nat} {xs:List Value}
attribute [local go_sem] Oper.semAt_some
theorem fO {w':World} (h:Below w.heap.size w w') (row:Option Nat):w.grownBy w' row:=⟨h.os,h.tape,h.output,h.size,fun k hk _=>h.block k hk⟩
theorem jF {W':World} {B:Nat} (h:Boxed W B t v) (e:W'.heap[B]? = W.heap[B]?):Boxed W' B t v:=e.trans h
def CU (b:Nat) (W:World):Nat:=match W.cell? ⟨b,0,none⟩ with|some (.string s)=>s.size|_=>0
theorem oP {s:ByteArray} (h:Boxed W b t (.string s)):CU b W=s.size:=by unfold CU;rw [h.cell]
theorem vM (b c:Nat) (hbc:b≠c) (s:ByteArray) (u:UInt8) (w:World) (hs:s.size≤4611686018427387904) (n:Nat) (hn:1≤n) (hb:Boxed w b 9 (.string s)) (hc:Boxed w c 5 (.int .u8 u.toNat)) :
  Hands Fence.wide n Tryz.prog 101 #[.pointer (some ⟨b,0,none⟩),.pointer (some ⟨c,0,none⟩)] (fun x:ByteArray => #[Value.string x]) b (fun k=>k=b∨k=c) (fun xs=>xs=(split u s.data.toList).map str) (s.size+1) w:=by
 intro l J W hW hz hJ hY h0
 have hbW:Boxed W b 9 (.string s):=jF hb (hW b (.inl rfl))
 have hcW:Boxed W c 5 (.int .u8 u.toNat):=jF hc (hW c (.inr rfl))
 refine callsIn_of_wp Tryz.func101 rfl trivial ?_ rfl
 simp only [Tryz.ntmps101,List.size_toArray,List.length_cons,List.length_nil,Nat.reduceAdd,Nat.reduceSub,Array.replicate_succ,Array.replicate_zero,List.push_toArray,List.append_toArray,List.nil_append,List.cons_append]
 gi_wp2
 gi_loopw [4] (fun _ wr=>∃ (pre:List ByteArray) (cur:ByteArray),Boxed wr b 9 (.string cur)∧Boxed wr c 5 (.int .u8 u.toNat)∧pre.length+cur.size≤s.size∧(split u s.data.toList).map str=pre++(split u cur.data.toList).map str∧J pre wr) (fun _ wr=>CU b wr)
 case atStart=>exact ⟨[],s,hbW,hcW,by simp,rfl,h0⟩
 case round =>
  clear hbW hcW hb hc hW hz h0
  obtain ⟨pre,cur,hb,hc,hlen,hsp,hj⟩:=hrel
  have cb:=hb.cell
  have cc:=hc.cell
  have CUT:=fun w'=>Bj cur u w' (by omega)
  have hSP:=Lib.hid hsp
  clear hsp
  rcases mW u cur.data.toList with h|⟨a,r,hl,h⟩
  ·rw [su h] at CUT
   have hst:str cur.data.toList=cur:=mkB cur
   have hfin:(split u s.data.toList).map str=pre++[str cur.data.toList]:=by rw [hSP.out,mK u _ h];rfl
   have HF:=Lib.hid hfin
   have CUT:=Lib.hid CUT
   clear h hfin hst
   gi_wp2
   refine ⟨trivial,?_⟩
   refine (callsIn_wide.2 (CUT.out _)).mono ?_
   rintro e w2 ⟨rfl,hb2⟩
   have g2:=fO hb2 none
   have hb':=hb.kept g2 (by simp)
   have hc':=hc.kept g2 (by simp)
   have hj':=hJ _ _ _ none hj g2 (.inl rfl)
   obtain ⟨fn,tmps,assign,body,hy,hR⟩:=hY pre (str cur.data.toList) w2 hj' (by omega)
   clear hb2 g2 cb cc hb hc hj
   gi_wp2
   refine hR.mono ?_
   rintro e W3 ⟨rfl,hj3,hk3,hz3⟩
   gi_wp2
   refine bodyPost_ret (results_none rfl _ _ _) rfl ?_
   exact ⟨⟨_,rfl⟩,pre++[str cur.data.toList],HF.out.symm,hj3⟩
  ·have hcut:cut u cur.data.toList=(a,r,true):=by rw [hl];exact pQ h
   have hz:a.length+1+r.length=cur.size:=by
    have:cur.data.toList.length=cur.size:=by simp
    rw [hl] at this;simp at this;omega
   rw [hcut] at CUT
   have hnext:(split u s.data.toList).map str=(pre++[str a])++(split u (str r).data.toList).map str:=by
    rw [hSP.out,hl,Fw u a r h];simp [str]
   have HF:=Lib.hid hnext
   have CUT:=Lib.hid CUT
   clear h hnext hl hcut
   gi_wp2
   refine ⟨trivial,?_⟩
   refine (callsIn_wide.2 (CUT.out _)).mono ?_
   rintro e w2 ⟨rfl,hb2⟩
   have g2:=fO hb2 none
   have hb':=hb.kept g2 (by simp)
   have hc':=hc.kept g2 (by simp)
   have hj':=hJ _ _ _ none hj g2 (.inl rfl)
   obtain ⟨fn,tmps,assign,body,hy,hR⟩:=hY pre (str a) w2 hj' (by omega)
   have hbl:=oP hb
   clear hb2 g2 cb cc hb hc hj
   gi_wp2
   refine hR.mono ?_
   rintro e W3 ⟨rfl,hj3,hk3,hz3⟩
   have hb3:=jF hb' (hk3 b (.inl rfl))
   have hc3:=jF hc' (hk3 c (.inr rfl))
   have cb:=hb3.cell
   have fb:=hb3.frozen
   gi_wp2
   go_roundw
   case rel=>exact ⟨pre++[str a],str r,hb3.set _,hc3.other (Ne.symm hbc) _,by rw [aM];simp;omega,HF.out,hJ _ _ _ (some b) hj3 (grownBy_setCell' _ _ _) (.inr rfl)⟩
   case measure=>rw [oP (hb3.set _),hbl,aM];omega
theorem BS (s:ByteArray) (u:UInt8) (w:World) :
  Calls Tryz.prog 69 #[.string s,.int .u8 u.toNat] w (fun e w'=>e = .returned (.func (.func 101) #[] #[.pointer (some ⟨w.heap.size,0,none⟩),.pointer (some ⟨w.heap.size+1,0,none⟩)])∧w'=(w.alloc (.cells #[.string s] 9)).alloc (.cells #[.int .u8 u.toNat] 5)):=by
 go_enter Tryz.func69,Tryz.ntmps69
 go_wp2_with fail
 go_ret
 exact ⟨by simp,rfl⟩
theorem fe {a:Nat} {n:Nat} (h:w.ownsRow b e size v n xs) (hab:a≤b):w.ownsRow a e size v n xs:=by
 refine ⟨h.1,?_⟩
 rcases h.2 with h|⟨g,cap,cur,e1,e2,e3⟩
 ·exact .inl h
 ·exact .inr ⟨g,cap,cur,e1,by omega,e3⟩
theorem AJ {k:Nat} {n:Nat} (h:w.ownsRow b e size v n xs) (hk:k<b):v.ownBlock≠some k:=by
 rcases h.2 with ⟨rfl,_⟩|⟨g,cap,cur,rfl,e2,e3⟩
 ·simp [Value.ownBlock]
 ·simp [Value.ownBlock];omega
theorem Ck:(Tryz.prog.info? 9).map (fun i=>(i.zero,i.size,i.bytes))=some (some (.string ⟨#[]⟩),1,16):=by kernel_rfl
theorem QA (s:ByteArray) (u:UInt8) (w:World) (hs:s.size≤4398046511104) :
  Calls Tryz.prog 40 #[.string s,.int .u8 u.toNat] w (yt w.heap.size 9 (split u s.data.toList).length (((split u s.data.toList).map str).map Value.string) w):=by
 refine (callsIn_wide (n:=3)).1 ?_
 obtain ⟨i0,hi,hz0,hz1,hz2⟩:=info_parts Ck
 refine callsIn_of_wp_marks Tryz.func40 rfl trivial ?_ rfl
 simp only [Tryz.ntmps40,List.size_toArray,List.length_cons,List.length_nil,Nat.reduceAdd,Nat.reduceSub,Array.replicate_succ,Array.replicate_zero,List.push_toArray,List.append_toArray,List.nil_append,List.cons_append]
 gi_wp2
 refine ⟨trivial,?_⟩
 refine (callsIn_wide.2 (BS s u _)).mono ?_
 rintro e w' ⟨rfl,rfl⟩
 have bO:=Boxed.new w 83 (.slice none 0 0)
 have bS:=Boxed.new (w.alloc (.cells #[.slice none 0 0] 83)) 9 (.string s)
 have bU:=Boxed.new ((w.alloc (.cells #[.slice none 0 0] 83)).alloc (.cells #[.string s] 9)) 5 (.int .u8 u.toNat)
 have bO:=(bO.alloc (.cells #[.string s] 9)).alloc (.cells #[.int .u8 u.toNat] 5)
 have bS:=bS.alloc (.cells #[.int .u8 u.toNat] 5)
 rw [World.size_alloc] at bS bU
 rw [World.size_alloc] at bU
 have hB0:Below w.heap.size w (((w.alloc (.cells #[.slice none 0 0] 83)).alloc (.cells #[.string s] 9)).alloc (.cells #[.int .u8 u.toNat] 5)):=(((Below.refl _ w).alloc (Nat.le_refl _) _).alloc (by simp) _).alloc (by simp;omega) _
 have hz:(((w.alloc (.cells #[.slice none 0 0] 83)).alloc (.cells #[.string s] 9)).alloc (.cells #[.int .u8 u.toNat] 5)).heap.size=w.heap.size+3:=by simp
 generalize (((w.alloc (.cells #[.slice none 0 0] 83)).alloc (.cells #[.string s] 9)).alloc (.cells #[.int .u8 u.toNat] 5))=W0 at bO bS bU hB0 hz ⊢
 gi_wp2
 refine Aj rfl (by omega) (gf:=101) (lb := #[.pointer (some ⟨w.heap.size+1,0,none⟩),.pointer (some ⟨w.heap.size+1+1,0,none⟩)]) rfl trivial (enters_of Tryz.func101 (by kernel_rfl) rfl)
  (K:=fun k=>k=w.heap.size+1∨k=w.heap.size+1+1) (.inl rfl) (fun k hk=>by rcases hk with h|h<;>omega)
  (vM (w.heap.size+1) (w.heap.size+1+1) (by omega) s u W0 (by omega) _ (by omega) bS bU) (fun _=>rfl)
  (fun pre W=>(∃ v,Boxed W w.heap.size 83 v∧W.ownsRow (w.heap.size+3) 9 1 v pre.length (pre.map Value.string))∧Below w.heap.size w W) ?hI ?h0
  (fun x=>{ tmps := #[.string s,.int .u8 u.toNat,undef,undef,.slice none 0 0,.pointer (some ⟨w.heap.size,0,none⟩),.string x,.string s,.int .u8 u.toNat,.func (.func 101) #[] #[.pointer (some ⟨w.heap.size+1,0,none⟩),.pointer (some ⟨w.heap.size+1+1,0,none⟩)],.string x,undef,undef,undef,undef,undef],defers:=[] }) ?assign ?body ?done
 case hI =>
  rintro xs W W' row ⟨⟨v,hv,hr⟩,hB⟩ hg hrow
  refine ⟨⟨v,hv.kept hg (fun e=>?_),hr.kept hg ?_⟩,hB.grown hg hB.size (fun j e=>?_)⟩
  ·rcases hrow _ e.symm with h|⟨h,_⟩<;>omega
  ·cases row with
   | none =>
    by_cases h:v.ownBlock=none
    ·exact .inl h
    ·exact .inr h
   | some r =>
    refine .inr (fun e=>?_)
    rcases hrow r rfl with h|⟨h,o,ho,hc⟩
    ·exact AJ hr (by omega) e
    ·rcases hr.2 with ⟨rfl,_⟩|⟨g,cap,cur,rfl,e2,e3,_⟩
     ·simp [Value.ownBlock] at e
     ·obtain rfl:g=r:=by simpa [Value.ownBlock] using e
      rw [e3] at ho;cases ho;cases hc
  ·rcases hrow j e with h|⟨h,_⟩<;>omega
 case h0=>exact ⟨⟨_,bO,World.ownsRow_nil _ _ _ _⟩,hB0⟩
 case assign =>
  intro l x W K hK
  gi_wp2
  exact hK
 case body =>
  rintro l pre x W ⟨⟨v,hv,hrow⟩,hB⟩ hlt hsz
  have hc:=hv.cell
  have hw:=hB.size
  have hml:pre.length+1≤maxLen:=by unfold maxLen;omega
  have hbd:(pre.length+1)*16≤140737488355328:=by omega
  gi_wp2_with (gi_at_builtin;refine wpListIn_append_own _ rfl _ _ 83 rfl (w.heap.size+3) 9 i0 (.string ⟨#[]⟩) 1 16 Tryz.underlying83 hi hz0 hz1 hz2 rfl (by decide) _ _ _ rfl (hrow.alloc _) ⟨W.heap.size,0,none⟩ 1 1 [.string x] rfl rfl (cell_one_new _ _ _) (by simp [Value.oneCell']) hml hbd (by simp;omega) ?_;intro v' w1 hown' hgrow _;obtain ⟨g',cap',rfl⟩:=ownsRow_succ hown';obtain ⟨hv1,hv2,hr2,hk2,hb2⟩:=hv.appended (by decide) (fe (a:=w.heap.size) hrow (by omega)) hB.size (Nat.le_refl _) (fe hown' (by omega)) hgrow;have hc1:=hv1.cell;have hf1:=hv1.frozen)
  refine ⟨hk2,fun k hk=>?_,⟨_,hv2,by simpa using hown'.kept (grownBy_setCell' w1 _ _) (.inr (hv1.not_row (by decide) hown').symm)⟩,hB.trans hb2⟩
  have hkB:k≠w.heap.size:=by rcases hk with h|h<;>omega
  have hk3:k<w.heap.size+3:=by rcases hk with h|h<;>omega
  exact (Below.heap_setCell _ _ _ k hkB).trans ((hgrow.block k (by simp;omega) (Ne.symm (AJ hrow hk3))).trans (Below.heap_alloc _ _ _ (by omega)))
 case done =>
  rintro D ys W hD hys ⟨⟨v,hv,hrow⟩,hB⟩ hK
  have hc:=hv.cell
  gi_wp2
  refine ⟨by simp,.inl ⟨_,_,rfl,run_takeDeferred hK,?_⟩⟩
  refine ⟨_,results_tmp rfl _ _ _,v,rfl,?_,hB.trans (belowK_b (w:=w) (Nat.le_refl _) W D _ _ (by omega) hK rfl rfl)⟩
  have hr:=ownsRow_putObj (fe (a:=w.heap.size) hrow (by omega)) (.deferred none) hK rfl
  rw [hys] at hr
  simpa using hr
end FK
namespace aat
open Go.RowKit Mem bX yP om dn vk
def strs (L:List ByteArray):List Value:=L.map Value.string
end aat
namespace aai
open Go.RowKit Mem bX yP om dn aat
open vk (Ez Et)
theorem P7:Elem Tryz.prog 83 9 1 16:=Elem.mk (z:=.string ⟨#[]⟩) Tryz.underlying83 (by kernel_rfl) rfl (by decide)
theorem fe {w:World} {a b:Nat} {e:TypeId} {size n:Nat} {v:Value} {xs:List Value} (h:w.ownsRow b e size v n xs) (hab:a≤b):w.ownsRow a e size v n xs:=FK.fe h hab
theorem Lu (u:UInt8):∀ (n:Nat) (s:ByteArray),s.size<n→s.size≤4398046511104→∀ w:World,
  Calls Tryz.prog 116 #[.string s,.int .u8 u.toNat] w (yt w.heap.size 9 (split u s.data.toList).length (strs ((split u s.data.toList).map str)) w):=by
 intro n
 induction n with
 | zero=>intro s hn;omega
 | succ n ih =>
  intro s hn hs w
  have IH:=Lib.hid ih
  clear ih
  go_enter Tryz.func116,Tryz.ntmps116
  go_wp2_with fail
  go_loopw [5] (fun i wr=>∃ k:Nat,k≤s.size∧i = .int .i64 ((k:Int)-1)∧(s.data.toList.drop k).contains u=false∧Below w.heap.size w wr) (fun i _=>(intOf i+1).toNat)
  case atStart=>exact ⟨s.size,Nat.le_refl _,rfl,by rw [List.drop_of_length_le (by simp)];rfl,Below.refl _ _⟩
  case round =>
   obtain ⟨k,hk,rfl,hct,hb⟩:=hrel
   have HC:=Lib.hid hct
   clear hct
   by_cases hlt:0<k
   ·have hd:=Ob s (k-1) (by omega)
    rw [show k-1+1=k from by omega] at hd
    have hi1:((k:Int)-1)=((k-1:Nat):Int):=by omega
    rw [hi1]
    have hw0:(0:Int)≤((k-1:Nat):Int):=by omega
    have hw1:((k-1:Nat):Int)<(s.size:Int):=by omega
    have hw2:((k-1:Nat):Int)≤(s.size:Int):=by omega
    have hw3:((k-1:Nat):Int)+1≤(s.size:Int):=by omega
    have hwr:IntKind.i64.wrap (((k-1:Nat):Int)+1)=(k:Int):=by rw [IntWalk.i64_in _ (by omega)];omega
    have hw4:(k:Int)≤(s.size:Int):=by omega
    have hw5:(0:Int)≤(k:Int):=by omega
    have HD:=Lib.hid hd
    clear hd
    by_cases heq:s[k-1]=u
    ·have e1:((s[k-1].toNat:Int)==(u.toNat:Int))=true:=by rw [heq];simp
     have hsp:split u s.data.toList=split u (s.data.toList.take (k-1))++[s.data.toList.drop k]:=by
      have e:=FY u (s.data.toList.take (k-1)) (s.data.toList.drop k)
      rw [mK u _ HC.out,← heq,← HD.out,List.take_append_drop] at e
      rw [← heq];exact e
     have ht1:s.extract 0 (k-1)=str (s.data.toList.take (k-1)):=Et s (k-1)
     have ht2:s.extract k s.size=str (s.data.toList.drop k):=Ez s k
     have hl1:(split u (s.data.toList.take (k-1))).length≤k:=by
      have:=jO u (s.data.toList.take (k-1))
      simp at this;omega
     have HI:=fun w'=>IH.out (str (s.data.toList.take (k-1))) (by rw [aM];simp;omega) (by rw [aM];simp;omega) w'
     have hdt:(str (s.data.toList.take (k-1))).data.toList=s.data.toList.take (k-1):=by simp [str]
     rw [hdt] at HI
     have HSP:=Lib.hid hsp;have HT2:=Lib.hid ht2
     have HI:=Lib.hid HI
     clear hsp ht2 hdt
     generalize split u (s.data.toList.take (k-1))=L1 at HI HSP hl1
     go_wp2_with fail
     refine Seq.JD (S:=fun w'=>Below w.heap.size w w') [(0,false),(1,false),(2,false),(3,false),(5,false),(6,false),(7,false),(8,false)] #[true,true,true,true,false,true,true,true,true,false,false,false] 4
      (by kernel_rfl) (by kernel_rfl) (fun _ _ d _ _ h=>by cases d<;>exact h) hb.drew ?_
     simp only [Seq.lay,List.getElem?_cons_zero,List.getElem?_cons_succ]
     repeat (first
      | (refine Seq.kM (v := ?_) (by rfl) ?_ ?_
         rotate_left
         ·(intro w' hS;go_simp;with_reducible rfl)
         simp only [Act.put,List.setIfInBounds_toArray,List.set_cons_zero,List.set_cons_succ]))
     refine Seq.uf ?_
     refine Seq.either 4 9 _ _ (by kernel_rfl) rfl rfl (by rfl) (by rfl) (fun K hK=>?_) (fun K hK=>?_)
     ·go_simp
      refine (HI.out _).mono ?_
      rintro e w1 ⟨v1,rfl,o1,hb1⟩
      have S1:=ig hb.drew hb1
      refine hK _ _ S1 ?_
      clear hK K
      refine Seq.U5 [(9,true),(10,true),(11,false)] (by kernel_rfl) (fun _ _ d _ _ h=>by cases d<;>exact h) S1 ?_
      simp only [Seq.lay,List.getElem?_cons_zero,List.getElem?_cons_succ]
      refine Seq.tL (by rfl) (fun K hK=>?_)
      go_simp
      have S2:=uy S1 (.cells #[.string (s.extract k s.size)] 9)
      refine hK _ _ S2 ?_
      clear hK K
      have ow:=fe (a:=w.heap.size) o1 hb.size
      refine Seq.tL (by rfl) (fun K hK=>?_)
      refine Nz P7 (.tmp 22) (.tmp 27) rfl w.heap.size _ _ _ rfl (ow.alloc _) (some ⟨w1.heap.size,0,none⟩) 1 1 [.string (s.extract k s.size)] (w1.heap.size+1) rfl rfl (Row.lit w1 _ _ _ (by omega)) (by simp [Value.oneCell']) (fun e=>by cases e) (by omega) (by omega) S2.size ?_
      intro v3 w3 o3 g3
      have S3:Below w.heap.size w w3:=S2.grown g3 S2.size (fun j e=>(ow.lt j e).1)
      refine hK _ _ S3 ?_
      clear hK K
      refine Seq.kM (v:=?_) (by rfl) ?_ ?_
      rotate_left
      ·(intro w' hS;go_simp;with_reducible rfl)
      simp only [Act.put,List.setIfInBounds_toArray,List.set_cons_zero,List.set_cons_succ]
      refine Seq.uf ?_
      go_wp2_with fail
      go_ret
      refine ⟨_,rfl,?_,S3⟩
      rw [HSP.out]
      have e:strs ((L1++[s.data.toList.drop k]).map str)=strs (L1.map str)++[.string (s.extract k s.size)]:=by simp [strs,HT2.out]
      rw [e,List.length_append]
      exact o3
     ·go_simp
      have S1:=(uy hb (.cells #[.string (s.extract k s.size)] 9)).drew
      refine hK _ _ S1 ?_
      clear hK K
      refine Seq.U5 [(4,true),(10,true),(11,false)] (by kernel_rfl) (fun _ _ d _ _ h=>by cases d<;>exact h) S1 ?_
      simp only [Seq.lay,List.getElem?_cons_zero,List.getElem?_cons_succ]
      refine Seq.tL (by rfl) (fun K hK=>?_)
      go_simp
      refine (HI.out _).mono ?_
      rintro e w1 ⟨v1,rfl,o1,hb1⟩
      have S2:=ig S1 hb1
      refine hK _ _ S2 ?_
      clear hK K
      have ow:=fe (a:=w.heap.size) o1 S1.size
      have hrow:=Row.lit wr 9 [.string (s.extract k s.size)] ((wr.alloc (.cells #[.string (s.extract k s.size)] 9)).drew.heap.size) (by simp)
      have hrow:=Row.at' (w:=(wr.alloc (.cells #[.string (s.extract k s.size)] 9)).drew) hrow hb1
      refine Seq.tL (by rfl) (fun K hK=>?_)
      refine Nz P7 (.tmp 22) (.tmp 27) rfl w.heap.size _ _ _ rfl ow (some ⟨wr.heap.size,0,none⟩) 1 1 [.string (s.extract k s.size)] _ rfl rfl hrow (by simp [Value.oneCell']) (fun e=>by cases e) (by omega) (by omega) S2.size ?_
      intro v3 w3 o3 g3
      have S3:Below w.heap.size w w3:=S2.grown g3 S2.size (fun j e=>(ow.lt j e).1)
      refine hK _ _ S3 ?_
      clear hK K
      refine Seq.kM (v:=?_) (by rfl) ?_ ?_
      rotate_left
      ·(intro w' hS;go_simp;with_reducible rfl)
      simp only [Act.put,List.setIfInBounds_toArray,List.set_cons_zero,List.set_cons_succ]
      refine Seq.uf ?_
      go_wp2_with fail
      go_ret
      refine ⟨_,rfl,?_,S3⟩
      rw [HSP.out]
      have e:strs ((L1++[s.data.toList.drop k]).map str)=strs (L1.map str)++[.string (s.extract k s.size)]:=by simp [strs,HT2.out]
      rw [e,List.length_append]
      exact o3
    ·have e1:((s[k-1].toNat:Int)==(u.toNat:Int))=false:=by simp;intro h;exact heq (UInt8.toNat_inj.1 (by omega))
     have hc0:(s.data.toList.drop (k-1)).contains u=false:=by
      rw [HD.out,List.contains_cons,HC.out];simpa using fun e=>heq e.symm
     have HC0:=Lib.hid hc0
     clear hc0
     go_wp2_with fail
     go_roundw
     case rel=>exact ⟨k-1,by omega,by go_num,HC0.out,hb⟩
     case measure=>simp [intOf]
   ·obtain rfl:k=0:=by omega
    have hct:=HC.out
    rw [List.drop_zero] at hct
    have hsp:=mK u _ hct
    have hst:str s.data.toList=s:=mkB s
    have HS:=Lib.hid hsp
    have HT:=Lib.hid hst
    clear hct hsp hst
    go_wp2_with fail
    go_ret
    rw [HS.out]
    refine ⟨_,rfl,?_,hb.alloc hb.size _⟩
    have ho:=World.ownsRow_lit (base:=w.heap.size) (e:=9) (size:=1) wr #[.string s] 1 hb.size (by decide) rfl
    have e:strs ([s.data.toList].map str)=[.string s]:=by simp [strs,HT.out]
    rw [e]
    exact ho
end aai
namespace bH
open Go.RowKit Mem Abs bX yP dn
theorem PO {X:Nat→Prop} {w:World} {L:List (List UInt8)} {base T:Nat} {v:Value} (hX:∀ b,X b→b<base) (hl:L.length≤LIM) (hs:∀ l∈L,l.length≤dY) (h:w.ownsRow base T 1 v L.length (L.map fun l=>Value.string (str l))):Fz X w (qM L) v :=
 Yf (f:=au) (g:=fun l=>Value.string (str l)) (fun _=>rfl) (fun _=>rfl) (fun l hl=>.str (by rw [aM];exact hs l hl)) hX hl h
theorem gK {l:List UInt8} {r:List Abs.V} (h:V.qR (au l::r)):l.length≤4611686018427387904∧V.qR r:=by
 have:=h.1
 rw [V.Lim,aM] at this
 exact ⟨this,h.2⟩
section
variable {l m:List UInt8} {u c:UInt8} {L K:List (List UInt8)}
variable {f:FuncId}
theorem H8 {r:Abs.V} {rv:ByteArray→Value} (h:∀ (s:ByteArray) w,s.size≤4611686018427387904→Calls Tryz.prog f #[.string s] w (Gives (rv s) w)) (hr:∀ N w,l.length≤dY→Fz N w r (rv (str l))):aj Tryz.prog f [au l] r:=fun g N w vs hG hN hlen hv=>by
 obtain ⟨vs⟩:=vs
 match vs,hlen with
 | [x0],_ =>
  obtain ⟨rfl,h0⟩:=iJ (hv 0 _ x0 rfl rfl)
  exact (h _ w h0).mono fun e w' ⟨h1,h2⟩=>⟨_,h1,h2,hr N w' (by rw [aM] at h0;exact h0)⟩
theorem oM (l:List UInt8):(fold l).length=l.length:=by simp [fold]
theorem qh:aj Tryz.prog 120 [au l] (au (fold l)):=H8 (rv:=fun s=>.string (str (fold s.data.toList))) (fun s w hs=>om.UJ s w hs) fun N w h=>by rw [aY];exact .str (by rw [aM,oM];exact h)
theorem UG:aj Tryz.prog 115 [au l] (au (fold l)):=H8 (rv:=fun s=>.string (str (fold s.data.toList))) (fun s w hs=>aaj.L9 s w hs) fun N w h=>by rw [aY];exact .str (by rw [aM,oM];exact h)
theorem Db (l:List UInt8):(trim l).length≤l.length:=by
 unfold trim ve
 rw [List.length_reverse]
 have h1:((l.dropWhile nT).reverse.dropWhile nT).length≤(l.dropWhile nT).reverse.length:=(List.dropWhile_sublist _).length_le
 have h2:(l.dropWhile nT).length≤l.length:=(List.dropWhile_sublist _).length_le
 rw [List.length_reverse] at h1
 omega
theorem qX:aj Tryz.prog 127 [au l] (au (trim l)):=H8 (rv:=fun s=>.string (str (trim s.data.toList))) (fun s w hs=>vk.VJ s w hs) fun N w h=>by rw [aY];exact .str (by rw [aM];exact Nat.le_trans (Db l) h)
abbrev ab8 (c:UInt8) (l:List UInt8):Int:=Lib.indexByte l c
theorem xR (_h:∀ x∈split u l,True):∀ x∈split u l,x.length≤l.length:=by
 clear _h
 suffices H:∀ (n:Nat) (l:List UInt8),l.length≤n→∀ x∈split u l,x.length≤l.length from H l.length l (Nat.le_refl _)
 intro n
 induction n with
 | zero =>
  intro l hl x hx
  have:l=[]:=List.eq_nil_of_length_eq_zero (by omega)
  subst this
  rw [mK _ _ rfl,List.mem_singleton] at hx
  subst hx;exact Nat.le_refl _
 | succ n ih =>
  intro l hl x hx
  rcases mW u l with h|⟨a,r,rfl,h⟩
  ·rw [mK _ _ h,List.mem_singleton] at hx
   subst hx;exact Nat.le_refl _
  ·rw [Fw _ _ _ h] at hx
   simp only [List.length_append,List.length_cons] at hl ⊢
   rcases List.mem_cons.1 hx with rfl|hx
   ·omega
   ·have:=ih r (by omega) x hx;omega
def iy (c:UInt8) (l:List UInt8):List UInt8 × List UInt8 × Bool:=if l.contains c then (l.take (ab8 c l).toNat,l.drop ((ab8 c l).toNat+1),true) else (l,[],false)
theorem Fs {c:UInt8} {l:List UInt8} (h:l.contains c=false):iy c l=(l,[],false):=by unfold iy;rw [h];rfl
theorem Pb {c:UInt8} {a r:List UInt8} (h:a.contains c=false):iy c (a++c::r)=(a,r,true):=by
 unfold iy
 have e:(a++c::r).contains c=true:=by simp
 rw [e,if_pos rfl,ab8,xY a r c h]
 simp
theorem J9 (c:UInt8) (l:List UInt8):(iy c l).1.length≤l.length∧(iy c l).2.1.length≤l.length:=by
 unfold iy
 split
 ·simp;omega
 ·simp
theorem KS:aj Tryz.prog 42 [au l,bB c] (.tup [au (iy c l).1,au (iy c l).2.1,.bool (iy c l).2.2]):=fun g N w vs hG hN hlen hv=>by
 obtain ⟨vs⟩:=vs
 match vs,hlen with
 | [x0,x1],_ =>
  obtain ⟨rfl,h0⟩:=iJ (hv 0 _ x0 rfl rfl)
  obtain ⟨rfl,_⟩:=kS (hv 1 _ x1 rfl rfl)
  refine (vk.Bj _ c w h0).mono fun e w' ⟨h1,h2⟩=>⟨_,h1,h2,?_⟩
  have e:vk.cut c (str l).data.toList=iy c l:=by
   rw [aY]
   rcases mW c l with h|⟨a,r,rfl,h⟩
   ·rw [vk.su h,Fs h]
   ·rw [vk.pQ h,Pb h]
  have hc:=J9 c l
  rw [aM] at h0
  rw [e]
  refine .tup rfl fun i x y hx hy=>?_
  have hi:i<3:=(List.getElem?_eq_some_iff.1 hx).1
  have:i=0∨i=1∨i=2:=by omega
  rcases this with rfl|rfl|rfl<;>(cases hx;cases hy)
  ·exact .str (by rw [aM];exact Nat.le_trans hc.1 h0)
  ·exact .str (by rw [aM];exact Nat.le_trans hc.2 h0)
  ·exact .bool
theorem BP (hl:l.length≤4398046511104) (h:∀ (s:ByteArray) w,s.size≤4398046511104→Calls Tryz.prog f #[.string s,.int .u8 u.toNat] w (yt w.heap.size 9 (split u s.data.toList).length (((split u s.data.toList).map str).map Value.string) w)):aj Tryz.prog f [au l,bB u] (qM (split u l)):=fun g N w vs hG hN hlen hv=>by
 obtain ⟨vs⟩:=vs
 match vs,hlen with
 | [x0,x1],_ =>
  obtain ⟨rfl,h0⟩:=iJ (hv 0 _ x0 rfl rfl)
  obtain ⟨rfl,_⟩:=kS (hv 1 _ x1 rfl rfl)
  refine (h _ w (by rw [aM];exact hl)).mono fun e w' ⟨v,h1,h2,h3⟩=>⟨_,h1,h3,?_⟩
  rw [aY,List.map_map] at h2
  refine PO hN ?_ (fun x hx=>?_) h2
  ·have:=jO u l;simp only [LIM];omega
  ·have:=xR (u:=u) (l:=l) (fun _ _=>trivial) x hx;simp only [dY];omega
theorem uq (hl:l.length≤4398046511104):aj Tryz.prog 40 [au l,bB u] (qM (split u l)):=BP hl fun s w hs=>FK.QA s u w hs
theorem F5 (hl:l.length≤4398046511104):aj Tryz.prog 116 [au l,bB u] (qM (split u l)):=BP hl fun s w hs=>aai.Lu u (s.size+1) s (Nat.lt_succ_self _) hs w
end
end bH
namespace dV
open Go.RowKit Mem Abs bH
def pre (l m:List UInt8):Bool:=decide (l.take m.length=m)
theorem O5 (l m:List UInt8):pre l m=true↔∃ x,l=m++x:=by
 unfold pre
 rw [decide_eq_true_eq]
 constructor
 ·intro h
  exact ⟨l.drop m.length,by conv=>{ lhs;rw [← List.take_append_drop m.length l,h] }⟩
 ·rintro ⟨x,rfl⟩
  simp
theorem Ip {l m:List UInt8} (h:pre l m=true):m.length≤l.length:=by
 obtain ⟨x,rfl⟩:=(O5 l m).1 h
 simp
theorem lF {l m:List UInt8}:aj Tryz.prog 102 [au l,au m] (.bool (pre l m)):=by
 refine aW af Tryz.func102 rfl Tryz.ntmps102 Tryz.results102 rfl fun N=>?_
 by_cases h0:m.length≤l.length
 ·have e:l.take ((m.length:Int)).toNat=l.take m.length:=rfl
  by_cases h1:l.take ((m.length:Int)).toNat=m
  ·repeat' (first|refine zt ?_|(refine isR ?_;first|refine zo ?_|refine zX ?_)|refine zr ?_|exact ah)
   rw [show pre l m=true from decide_eq_true h1];rfl
  ·repeat' (first|refine zt ?_|(refine isR ?_;first|refine zo ?_|refine zX ?_)|refine zr ?_|exact ah)
   rw [show pre l m=false from decide_eq_false h1];rfl
 ·repeat' (first|refine zt ?_|(refine isR ?_;first|refine zo ?_|refine zX ?_)|refine zr ?_|exact ah)
  have:pre l m=false:=by
   cases h:pre l m with
   | false=>rfl
   | true=>exact absurd (Ip h) h0
  rw [this];rfl
theorem gH {l m:List UInt8}:aj Tryz.prog 92 [au l,au m] (.bool (pre l m)):=by
 have c1:=lF (l:=l) (m:=m)
 refine aW af Tryz.func92 rfl Tryz.ntmps92 Tryz.results92 rfl fun N=>?_
 repeat' (first|refine zt ?_|(refine isR ?_;first|refine zo ?_|refine zk c1 ?_)|refine zr ?_|exact ah)
 rfl
def dJ (l m:List UInt8):List UInt8 × Bool:=if pre l m then (l.drop m.length,true) else (l,false)
theorem Gx {l m:List UInt8}:aj Tryz.prog 70 [au l,au m] (.tup [au (dJ l m).1,.bool (dJ l m).2]):=by
 have c1:=lF (l:=l) (m:=m)
 cases hp:pre l m with
 | true =>
  have:=Ip hp
  have e:dJ l m=(l.drop m.length,true):=by unfold dJ;rw [hp];rfl
  rw [e]
  rw [hp] at c1
  refine aW af Tryz.func70 rfl Tryz.ntmps70 Tryz.results70 rfl fun N=>?_
  repeat' (first|refine zt ?_|(refine isR ?_;first|refine zo ?_|refine zk c1 ?_|refine zX ?_)|refine zr ?_|exact ah)
  rfl
 | false =>
  have e:dJ l m=(l,false):=by unfold dJ;rw [hp];rfl
  rw [e]
  rw [hp] at c1
  refine aW af Tryz.func70 rfl Tryz.ntmps70 Tryz.results70 rfl fun N=>?_
  repeat' (first|refine zt ?_|(refine isR ?_;first|refine zo ?_|refine zk c1 ?_|refine zX ?_)|refine zr ?_|exact ah)
  rfl
theorem nQ {l m:List UInt8}:aj Tryz.prog 41 [au l,au m] (.tup [au (dJ l m).1,.bool (dJ l m).2]):=by
 have c1:=Gx (l:=l) (m:=m)
 generalize dJ l m=p at *
 refine aW af Tryz.func41 rfl Tryz.ntmps41 Tryz.results41 rfl fun N=>?_
 repeat' (first|refine zt ?_|(refine isR ?_;first|refine zo ?_|refine zk c1 ?_)|refine zr ?_|exact ah)
 rfl
def xk (p o:List UInt8):Bool:=pre p o&&(decide (p.drop o.length=[])||decide (o.getLast? = some 47)||decide ((p.drop o.length).head? = some 47))
end dV
end Go.Proofs.YtlfdjpgghiemfaaGreatDoor
