/- Texts of the proof, joined: WordR, WordJ, WordQ, TreeW, PathT, Glob, HostP, HostO, FnB. -/
import Derived.RangeFuncBound
import Derived.Shelf.RegionOpen
import Derived.OwnWalkIn
import Derived.LoopNIn
import Derived.LoopIn
import Derived.Test.YtlfdjpgghiemfaaGreatDoorG15
import Derived.Lib.Join
import Derived.Lib.ItoaLen
import Derived.Lib.AppendIntMem
set_option maxHeartbeats 4000000
set_option maxRecDepth 100000
namespace Go.Proofs.YtlfdjpgghiemfaaGreatDoor
namespace Jv
open Go.RowKit Go.Shelf Mem bR oq cZ uP Range
variable {t:TypeId} {b size:Nat} {v:Value} {e:TypeId} {W:World} {xs:List Value} {n:Nat}
attribute [local go_sem] Oper.semAt_some
theorem fP {w w':World} (h:Below w.heap.size w w') (row:Option Nat):w.grownBy w' row:=⟨h.os,h.tape,h.output,h.size,fun k hk _=>h.block k hk⟩
theorem jl {W':World} {B:Nat} (h:Boxed W B t v) (e:W'.heap[B]? = W.heap[B]?):Boxed W' B t v:=e.trans h
def BZ (b:Nat) (W:World):Nat:=match W.cell? ⟨b,0,none⟩ with|some (.string s)=>s.size|_=>0
theorem oO {s:ByteArray} (h:Boxed W b t (.string s)):BZ b W=s.size:=by unfold BZ;rw [h.cell]
theorem uW (b c:Nat) (hbc:b≠c) (s:ByteArray) (u:UInt8) (w:World) (hs:s.size≤4611686018427387904) (n:Nat) (hn:1≤n) (hb:Boxed w b 9 (.string s)) (hc:Boxed w c 5 (.int .u8 u.toNat)) :
  Hands Fence.wide n Tryz.prog 101 #[.pointer (some ⟨b,0,none⟩),.pointer (some ⟨c,0,none⟩)] (fun x:ByteArray => #[Value.string x]) b (fun k=>k=b∨k=c) (fun xs=>xs=(split u s.data.toList).map str) (s.size+1) w:=by
 intro l J W hW hz hJ hY h0
 have hbW:Boxed W b 9 (.string s):=jl hb (hW b (.inl rfl))
 have hcW:Boxed W c 5 (.int .u8 u.toNat):=jl hc (hW c (.inr rfl))
 refine callsIn_of_wp Tryz.func101 rfl trivial ?_ rfl
 simp only [Tryz.ntmps101,List.size_toArray,List.length_cons,List.length_nil,Nat.reduceAdd,Nat.reduceSub,Array.replicate_succ,Array.replicate_zero,List.push_toArray,List.append_toArray,List.nil_append,List.cons_append]
 gi_wp2
 gi_loopw [4] (fun _ wr=>∃ (pre:List ByteArray) (cur:ByteArray),Boxed wr b 9 (.string cur)∧Boxed wr c 5 (.int .u8 u.toNat)∧pre.length+cur.size≤s.size∧(split u s.data.toList).map str=pre++(split u cur.data.toList).map str∧J pre wr) (fun _ wr=>BZ b wr)
 case atStart=>exact ⟨[],s,hbW,hcW,by simp,rfl,h0⟩
 case round =>
  clear hbW hcW hb hc hW hz h0
  obtain ⟨pre,cur,hb,hc,hlen,hsp,hj⟩:=hrel
  have cb:=hb.cell
  have cc:=hc.cell
  have CUT:=fun w'=>Ai cur u w' (by omega)
  have hSP:=Lib.hid hsp
  clear hsp
  rcases mh u cur.data.toList with h|⟨a,r,hl,h⟩
  ·rw [sP h] at CUT
   have hst:str cur.data.toList=cur:=mkB cur
   have hfin:(split u s.data.toList).map str=pre++[str cur.data.toList]:=by rw [hSP.out,vO u _ h];rfl
   have HF:=Lib.hid hfin
   have CUT:=Lib.hid CUT
   clear h hfin hst
   gi_wp2
   refine ⟨trivial,?_⟩
   refine (callsIn_wide.2 (CUT.out _)).mono ?_
   rintro e w2 ⟨rfl,hb2⟩
   have g2:=fP hb2 none
   have hb':=hb.kept g2 (by simp)
   have hc':=hc.kept g2 (by simp)
   have hj':=hJ _ _ _ none hj g2 (.inl rfl)
   obtain ⟨fn,tmps,assign,body,hy,hR⟩:=hY pre (str cur.data.toList) w2 hj' (by omega)
   clear hb2 g2 cb cc hb hc hj
   gi_wp2
   refine hR.mono ?_
   rintro e W3 ⟨rfl,hj3,hk3,hz3⟩
   gi_wp2
   refine bodyPost_ret (results_none rfl _ _ _) rfl ?_
   exact ⟨⟨_,rfl⟩,pre++[str cur.data.toList],HF.out.symm,hj3⟩
  ·have hcut:cut u cur.data.toList=(a,r,true):=by rw [hl];exact pW h
   have hz:a.length+1+r.length=cur.size:=by
    have:cur.data.toList.length=cur.size:=by simp
    rw [hl] at this;simp at this;omega
   rw [hcut] at CUT
   have hnext:(split u s.data.toList).map str=(pre++[str a])++(split u (str r).data.toList).map str:=by
    rw [hSP.out,hl,ES u a r h];simp [str]
   have HF:=Lib.hid hnext
   have CUT:=Lib.hid CUT
   clear h hnext hl hcut
   gi_wp2
   refine ⟨trivial,?_⟩
   refine (callsIn_wide.2 (CUT.out _)).mono ?_
   rintro e w2 ⟨rfl,hb2⟩
   have g2:=fP hb2 none
   have hb':=hb.kept g2 (by simp)
   have hc':=hc.kept g2 (by simp)
   have hj':=hJ _ _ _ none hj g2 (.inl rfl)
   obtain ⟨fn,tmps,assign,body,hy,hR⟩:=hY pre (str a) w2 hj' (by omega)
   have hbl:=oO hb
   clear hb2 g2 cb cc hb hc hj
   gi_wp2
   refine hR.mono ?_
   rintro e W3 ⟨rfl,hj3,hk3,hz3⟩
   have hb3:=jl hb' (hk3 b (.inl rfl))
   have hc3:=jl hc' (hk3 c (.inr rfl))
   have cb:=hb3.cell
   have fb:=hb3.frozen
   gi_wp2
   go_roundw
   case rel=>exact ⟨pre++[str a],str r,hb3.set _,hc3.other (Ne.symm hbc) _,by rw [aM];simp;omega,HF.out,hJ _ _ _ (some b) hj3 (grownBy_setCell' _ _ _) (.inr rfl)⟩
   case measure=>rw [oO (hb3.set _),hbl,aM];omega
theorem Da (s:ByteArray) (u:UInt8) (w:World) :
  Calls Tryz.prog 69 #[.string s,.int .u8 u.toNat] w (fun e w'=>e = .returned (.func (.func 101) #[] #[.pointer (some ⟨w.heap.size,0,none⟩),.pointer (some ⟨w.heap.size+1,0,none⟩)])∧w'=(w.alloc (.cells #[.string s] 9)).alloc (.cells #[.int .u8 u.toNat] 5)):=by
 go_enter Tryz.func69,Tryz.ntmps69
 go_wp2_with fail
 go_ret
 exact ⟨by simp,rfl⟩
theorem jb {w:World} {a:Nat} (h:w.ownsRow b e size v n xs) (hab:a≤b):w.ownsRow a e size v n xs:=by
 refine ⟨h.1,?_⟩
 rcases h.2 with h|⟨g,cap,cur,e1,e2,e3⟩
 ·exact .inl h
 ·exact .inr ⟨g,cap,cur,e1,by omega,e3⟩
theorem Ag {w:World} {k:Nat} (h:w.ownsRow b e size v n xs) (hk:k<b):v.ownBlock≠some k:=by
 rcases h.2 with ⟨rfl,_⟩|⟨g,cap,cur,rfl,e2,e3⟩
 ·simp [Value.ownBlock]
 ·simp [Value.ownBlock];omega
theorem Bo:(Tryz.prog.info? 9).map (fun i=>(i.zero,i.size,i.bytes))=some (some (.string ⟨#[]⟩),1,16):=by kernel_rfl
theorem Rm (s:ByteArray) (u:UInt8) (w:World) (hs:s.size≤4398046511104) :
  Calls Tryz.prog 40 #[.string s,.int .u8 u.toNat] w (Bl w.heap.size 9 (split u s.data.toList).length (((split u s.data.toList).map str).map Value.string) w):=by
 refine (callsIn_wide (n:=3)).1 ?_
 obtain ⟨i0,hi,hz0,hz1,hz2⟩:=info_parts Bo
 refine callsIn_of_wp_marks Tryz.func40 rfl trivial ?_ rfl
 simp only [Tryz.ntmps40,List.size_toArray,List.length_cons,List.length_nil,Nat.reduceAdd,Nat.reduceSub,Array.replicate_succ,Array.replicate_zero,List.push_toArray,List.append_toArray,List.nil_append,List.cons_append]
 gi_wp2
 refine ⟨trivial,?_⟩
 refine (callsIn_wide.2 (Da s u _)).mono ?_
 rintro e w' ⟨rfl,rfl⟩
 have bO:=Boxed.new w 83 (.slice none 0 0)
 have bS:=Boxed.new (w.alloc (.cells #[.slice none 0 0] 83)) 9 (.string s)
 have bU:=Boxed.new ((w.alloc (.cells #[.slice none 0 0] 83)).alloc (.cells #[.string s] 9)) 5 (.int .u8 u.toNat)
 have bO:=(bO.alloc (.cells #[.string s] 9)).alloc (.cells #[.int .u8 u.toNat] 5)
 have bS:=bS.alloc (.cells #[.int .u8 u.toNat] 5)
 rw [World.size_alloc] at bS bU
 rw [World.size_alloc] at bU
 have hB0:Below w.heap.size w (((w.alloc (.cells #[.slice none 0 0] 83)).alloc (.cells #[.string s] 9)).alloc (.cells #[.int .u8 u.toNat] 5)):=(((Below.refl _ w).alloc (Nat.le_refl _) _).alloc (by simp) _).alloc (by simp;omega) _
 have hz:(((w.alloc (.cells #[.slice none 0 0] 83)).alloc (.cells #[.string s] 9)).alloc (.cells #[.int .u8 u.toNat] 5)).heap.size=w.heap.size+3:=by simp
 generalize (((w.alloc (.cells #[.slice none 0 0] 83)).alloc (.cells #[.string s] 9)).alloc (.cells #[.int .u8 u.toNat] 5))=W0 at bO bS bU hB0 hz ⊢
 gi_wp2
 refine zl rfl (by omega) (gf:=101) (lb := #[.pointer (some ⟨w.heap.size+1,0,none⟩),.pointer (some ⟨w.heap.size+1+1,0,none⟩)]) rfl trivial (enters_of Tryz.func101 (by kernel_rfl) rfl)
  (K:=fun k=>k=w.heap.size+1∨k=w.heap.size+1+1) (.inl rfl) (fun k hk=>by rcases hk with h|h<;>omega)
  (uW (w.heap.size+1) (w.heap.size+1+1) (by omega) s u W0 (by omega) _ (by omega) bS bU) (fun _=>rfl)
  (fun pre W=>(∃ v,Boxed W w.heap.size 83 v∧W.ownsRow (w.heap.size+3) 9 1 v pre.length (pre.map Value.string))∧Below w.heap.size w W) ?hI ?h0
  (fun x=>{ tmps := #[.string s,.int .u8 u.toNat,undef,undef,.slice none 0 0,.pointer (some ⟨w.heap.size,0,none⟩),.string x,.string s,.int .u8 u.toNat,.func (.func 101) #[] #[.pointer (some ⟨w.heap.size+1,0,none⟩),.pointer (some ⟨w.heap.size+1+1,0,none⟩)],.string x,undef,undef,undef,undef,undef],defers:=[] }) ?assign ?body ?done
 case hI =>
  rintro xs W W' row ⟨⟨v,hv,hr⟩,hB⟩ hg hrow
  refine ⟨⟨v,hv.kept hg (fun e=>?_),hr.kept hg ?_⟩,hB.grown hg hB.size (fun j e=>?_)⟩
  ·rcases hrow _ e.symm with h|⟨h,_⟩<;>omega
  ·cases row with
   | none =>
    by_cases h:v.ownBlock=none
    ·exact .inl h
    ·exact .inr h
   | some r =>
    refine .inr (fun e=>?_)
    rcases hrow r rfl with h|⟨h,o,ho,hc⟩
    ·exact Ag hr (by omega) e
    ·rcases hr.2 with ⟨rfl,_⟩|⟨g,cap,cur,rfl,e2,e3,_⟩
     ·simp [Value.ownBlock] at e
     ·obtain rfl:g=r:=by simpa [Value.ownBlock] using e
      rw [e3] at ho;cases ho;cases hc
  ·rcases hrow j e with h|⟨h,_⟩<;>omega
 case h0=>exact ⟨⟨_,bO,World.ownsRow_nil _ _ _ _⟩,hB0⟩
 case assign =>
  intro l x W K hK
  gi_wp2
  exact hK
 case body =>
  rintro l pre x W ⟨⟨v,hv,hrow⟩,hB⟩ hlt hsz
  have hc:=hv.cell
  have hw:=hB.size
  have hml:pre.length+1≤maxLen:=by unfold maxLen;omega
  have hbd:(pre.length+1)*16≤140737488355328:=by omega
  gi_wp2_with (gi_at_builtin;refine wpListIn_append_own _ rfl _ _ 83 rfl (w.heap.size+3) 9 i0 (.string ⟨#[]⟩) 1 16 Tryz.underlying83 hi hz0 hz1 hz2 rfl (by decide) _ _ _ rfl (hrow.alloc _) ⟨W.heap.size,0,none⟩ 1 1 [.string x] rfl rfl (cell_one_new _ _ _) (by simp [Value.oneCell']) hml hbd (by simp;omega) ?_;intro v' w1 hown' hgrow _;obtain ⟨g',cap',rfl⟩:=ownsRow_succ hown';obtain ⟨hv1,hv2,hr2,hk2,hb2⟩:=hv.appended (by decide) (jb (a:=w.heap.size) hrow (by omega)) hB.size (Nat.le_refl _) (jb hown' (by omega)) hgrow;have hc1:=hv1.cell;have hf1:=hv1.frozen)
  refine ⟨hk2,fun k hk=>?_,⟨_,hv2,by simpa using hown'.kept (grownBy_setCell' w1 _ _) (.inr (hv1.not_row (by decide) hown').symm)⟩,hB.trans hb2⟩
  have hkB:k≠w.heap.size:=by rcases hk with h|h<;>omega
  have hk3:k<w.heap.size+3:=by rcases hk with h|h<;>omega
  exact (Below.heap_setCell _ _ _ k hkB).trans ((hgrow.block k (by simp;omega) (Ne.symm (Ag hrow hk3))).trans (Below.heap_alloc _ _ _ (by omega)))
 case done =>
  rintro D ys W hD hys ⟨⟨v,hv,hrow⟩,hB⟩ hK
  have hc:=hv.cell
  gi_wp2
  refine ⟨by simp,.inl ⟨_,_,rfl,run_takeDeferred hK,?_⟩⟩
  refine ⟨_,results_tmp rfl _ _ _,v,rfl,?_,hB.trans (belowK_b (w:=w) (Nat.le_refl _) W D _ _ (by omega) hK rfl rfl)⟩
  have hr:=ownsRow_putObj (jb (a:=w.heap.size) hrow (by omega)) (.deferred none) hK rfl
  rw [hys] at hr
  simpa using hr
end Jv
namespace Zz
open Go.RowKit Mem bR yD oq cZ uP
end Zz
namespace acZ
open Go.RowKit Mem bR yD oq cZ Zz
open uP (Kr Lx)
end acZ
namespace bP
open Go.RowKit Mem Abs bR yD cZ
theorem Om {X:Nat→Prop} {w:World} {L:List (List UInt8)} {base T:Nat} {v:Value} (hX:∀ b,X b→b<base) (hl:L.length≤LIM) (hs:∀ l∈L,l.length≤dS) (h:w.ownsRow base T 1 v L.length (L.map fun l=>Value.string (str l))):Fz X w (yh L) v :=
 XG (f:=au) (g:=fun l=>Value.string (str l)) (fun _=>rfl) (fun _=>rfl) (fun l hl=>.str (by rw [aM];exact hs l hl)) hX hl h
theorem kZ {l:List UInt8} {r:List Abs.V} (h:V.qH (au l::r)):l.length≤4611686018427387904∧V.qH r:=by
 have:=h.1
 rw [V.Lim,aM] at this
 exact ⟨this,h.2⟩
section
variable {l m:List UInt8} {u c:UInt8} {L K:List (List UInt8)}
variable {f:FuncId}
theorem Og {r:Abs.V} {rv:ByteArray→Value} (h:∀ (s:ByteArray) w,s.size≤4611686018427387904→Calls Tryz.prog f #[.string s] w (Gives (rv s) w)) (hr:∀ N w,l.length≤dS→Fz N w r (rv (str l))):aj Tryz.prog f [au l] r:=fun g N w vs hG hN hlen hv=>by
 obtain ⟨vs⟩:=vs
 match vs,hlen with
 | [x0],_ =>
  obtain ⟨rfl,h0⟩:=iG (hv 0 _ x0 rfl rfl)
  exact (h _ w h0).mono fun e w' ⟨h1,h2⟩=>⟨_,h1,h2,hr N w' (by rw [aM] at h0;exact h0)⟩
theorem wu (l:List UInt8):(fold l).length=l.length:=by simp [fold]
theorem qm:aj Tryz.prog 120 [au l] (au (fold l)):=Og (rv:=fun s=>.string (str (fold s.data.toList))) (fun s w hs=>oq.UD s w hs) fun N w h=>by rw [bf];exact .str (by rw [aM,wu];exact h)
theorem Ct (l:List UInt8):(trim l).length≤l.length:=by
 unfold trim uU
 rw [List.length_reverse]
 have h1:((l.dropWhile nR).reverse.dropWhile nR).length≤(l.dropWhile nR).reverse.length:=(List.dropWhile_sublist _).length_le
 have h2:(l.dropWhile nR).length≤l.length:=(List.dropWhile_sublist _).length_le
 rw [List.length_reverse] at h1
 omega
theorem sS:aj Tryz.prog 127 [au l] (au (trim l)):=Og (rv:=fun s=>.string (str (trim s.data.toList))) (fun s w hs=>uP.V3 s w hs) fun N w h=>by rw [bf];exact .str (by rw [aM];exact Nat.le_trans (Ct l) h)
abbrev aaC (c:UInt8) (l:List UInt8):Int:=Lib.indexByte l c
theorem Be (_h:∀ x∈split u l,True):∀ x∈split u l,x.length≤l.length:=by
 clear _h
 suffices H:∀ (n:Nat) (l:List UInt8),l.length≤n→∀ x∈split u l,x.length≤l.length from H l.length l (Nat.le_refl _)
 intro n
 induction n with
 | zero =>
  intro l hl x hx
  have:l=[]:=List.eq_nil_of_length_eq_zero (by omega)
  subst this
  rw [vO _ _ rfl,List.mem_singleton] at hx
  subst hx;exact Nat.le_refl _
 | succ n ih =>
  intro l hl x hx
  rcases mh u l with h|⟨a,r,rfl,h⟩
  ·rw [vO _ _ h,List.mem_singleton] at hx
   subst hx;exact Nat.le_refl _
  ·rw [ES _ _ _ h] at hx
   simp only [List.length_append,List.length_cons] at hl ⊢
   rcases List.mem_cons.1 hx with rfl|hx
   ·omega
   ·have:=ih r (by omega) x hx;omega
def gX (c:UInt8) (l:List UInt8):List UInt8 × List UInt8 × Bool:=if l.contains c then (l.take (aaC c l).toNat,l.drop ((aaC c l).toNat+1),true) else (l,[],false)
theorem Fu {c:UInt8} {l:List UInt8} (h:l.contains c=false):gX c l=(l,[],false):=by unfold gX;rw [h];rfl
theorem OI {c:UInt8} {a r:List UInt8} (h:a.contains c=false):gX c (a++c::r)=(a,r,true):=by
 unfold gX
 have e:(a++c::r).contains c=true:=by simp
 rw [e,if_pos rfl,aaC,wC a r c h]
 simp
theorem JA (c:UInt8) (l:List UInt8):(gX c l).1.length≤l.length∧(gX c l).2.1.length≤l.length:=by
 unfold gX
 split
 ·simp;omega
 ·simp
theorem Ki:aj Tryz.prog 42 [au l,bB c] (.tup [au (gX c l).1,au (gX c l).2.1,.bool (gX c l).2.2]):=fun g N w vs hG hN hlen hv=>by
 obtain ⟨vs⟩:=vs
 match vs,hlen with
 | [x0,x1],_ =>
  obtain ⟨rfl,h0⟩:=iG (hv 0 _ x0 rfl rfl)
  obtain ⟨rfl,_⟩:=kL (hv 1 _ x1 rfl rfl)
  refine (uP.Ai _ c w h0).mono fun e w' ⟨h1,h2⟩=>⟨_,h1,h2,?_⟩
  have e:uP.cut c (str l).data.toList=gX c l:=by
   rw [bf]
   rcases mh c l with h|⟨a,r,rfl,h⟩
   ·rw [uP.sP h,Fu h]
   ·rw [uP.pW h,OI h]
  have hc:=JA c l
  rw [aM] at h0
  rw [e]
  refine .tup rfl fun i x y hx hy=>?_
  have hi:i<3:=(List.getElem?_eq_some_iff.1 hx).1
  have:i=0∨i=1∨i=2:=by omega
  rcases this with rfl|rfl|rfl<;>(cases hx;cases hy)
  ·exact .str (by rw [aM];exact Nat.le_trans hc.1 h0)
  ·exact .str (by rw [aM];exact Nat.le_trans hc.2 h0)
  ·exact .bool
theorem MO (hl:l.length≤4398046511104) (h:∀ (s:ByteArray) w,s.size≤4398046511104→Calls Tryz.prog f #[.string s,.int .u8 u.toNat] w (Bl w.heap.size 9 (split u s.data.toList).length (((split u s.data.toList).map str).map Value.string) w)):aj Tryz.prog f [au l,bB u] (yh (split u l)):=fun g N w vs hG hN hlen hv=>by
 obtain ⟨vs⟩:=vs
 match vs,hlen with
 | [x0,x1],_ =>
  obtain ⟨rfl,h0⟩:=iG (hv 0 _ x0 rfl rfl)
  obtain ⟨rfl,_⟩:=kL (hv 1 _ x1 rfl rfl)
  refine (h _ w (by rw [aM];exact hl)).mono fun e w' ⟨v,h1,h2,h3⟩=>⟨_,h1,h3,?_⟩
  rw [bf,List.map_map] at h2
  refine Om hN ?_ (fun x hx=>?_) h2
  ·have:=uq u l;simp only [LIM];omega
  ·have:=Be (u:=u) (l:=l) (fun _ _=>trivial) x hx;simp only [dS];omega
theorem tO (hl:l.length≤4398046511104):aj Tryz.prog 40 [au l,bB u] (yh (split u l)):=MO hl fun s w hs=>Jv.Rm s u w hs
end
end bP
namespace eB
open Go.RowKit Mem Abs bP
def pre (l m:List UInt8):Bool:=decide (l.take m.length=m)
theorem OB (l m:List UInt8):pre l m=true↔∃ x,l=m++x:=by
 unfold pre
 rw [decide_eq_true_eq]
 constructor
 ·intro h
  exact ⟨l.drop m.length,by conv=>{ lhs;rw [← List.take_append_drop m.length l,h] }⟩
 ·rintro ⟨x,rfl⟩
  simp
theorem G6 {l m:List UInt8} (h:pre l m=true):m.length≤l.length:=by
 obtain ⟨x,rfl⟩:=(OB l m).1 h
 simp
theorem lg {l m:List UInt8}:aj Tryz.prog 102 [au l,au m] (.bool (pre l m)):=by
 refine aX af Tryz.func102 rfl Tryz.ntmps102 Tryz.results102 rfl fun N=>?_
 by_cases h0:m.length≤l.length
 ·have e:l.take ((m.length:Int)).toNat=l.take m.length:=rfl
  by_cases h1:l.take ((m.length:Int)).toNat=m
  ·repeat' (first|refine zW ?_|exact ai)
   rw [show pre l m=true from decide_eq_true h1];rfl
  ·repeat' (first|refine zW ?_|exact ai)
   rw [show pre l m=false from decide_eq_false h1];rfl
 ·repeat' (first|refine zW ?_|exact ai)
  have:pre l m=false:=by
   cases h:pre l m with
   | false=>rfl
   | true=>exact absurd (G6 h) h0
  rw [this];rfl
theorem fZ {l m:List UInt8}:aj Tryz.prog 92 [au l,au m] (.bool (pre l m)):=by
 have c1:=lg (l:=l) (m:=m)
 refine aX af Tryz.func92 rfl Tryz.ntmps92 Tryz.results92 rfl fun N=>?_
 repeat' (first|refine zV ?_|(refine isR ?_;refine zk c1 ?_)|refine zW ?_|exact ai)
 rfl
def dH (l m:List UInt8):List UInt8 × Bool:=if pre l m then (l.drop m.length,true) else (l,false)
theorem Gx {l m:List UInt8}:aj Tryz.prog 70 [au l,au m] (.tup [au (dH l m).1,.bool (dH l m).2]):=by
 have c1:=lg (l:=l) (m:=m)
 cases hp:pre l m with
 | true =>
  have:=G6 hp
  have e:dH l m=(l.drop m.length,true):=by unfold dH;rw [hp];rfl
  rw [e]
  rw [hp] at c1
  refine aX af Tryz.func70 rfl Tryz.ntmps70 Tryz.results70 rfl fun N=>?_
  repeat' (first|refine zV ?_|(refine isR ?_;refine zk c1 ?_)|refine zW ?_|exact ai)
  rfl
 | false =>
  have e:dH l m=(l,false):=by unfold dH;rw [hp];rfl
  rw [e]
  rw [hp] at c1
  refine aX af Tryz.func70 rfl Tryz.ntmps70 Tryz.results70 rfl fun N=>?_
  repeat' (first|refine zV ?_|(refine isR ?_;refine zk c1 ?_)|refine zW ?_|exact ai)
  rfl
theorem nD {l m:List UInt8}:aj Tryz.prog 41 [au l,au m] (.tup [au (dH l m).1,.bool (dH l m).2]):=by
 have c1:=Gx (l:=l) (m:=m)
 generalize dH l m=p at *
 refine aX af Tryz.func41 rfl Tryz.ntmps41 Tryz.results41 rfl fun N=>?_
 repeat' (first|refine zV ?_|(refine isR ?_;refine zk c1 ?_)|refine zW ?_|exact ai)
 rfl
def xS (p o:List UInt8):Bool:=pre p o&&(decide (p.drop o.length=[])||decide (o.getLast? = some 47)||decide ((p.drop o.length).head? = some 47))
end eB
namespace fw
open Go.RowKit Mem Abs bP
def Cells (f:Nat→Option Obj) (g:Nat) (cs:Array Value):Prop:=∃ t fr,f g=some (.cells cs t fr)
def gN:Nat:=max (max 2 3) 1+1
def bG:iJ:=⟨gN,fun f=>(∃ v:Value,(v = .nilIface∨∃ t p,v = .iface t p)∧Cells f 2 #[v])∧(∃ v:Value,(v = .nilIface∨∃ t p,v = .iface t p)∧Cells f 3 #[v])∧Cells f 1 (Lib.pow10Tab.map fun z=>Value.int .u64 z).toArray⟩
section
variable {X:Nat→Prop} {w:World} {l:List UInt8}
variable {W:World} {P:Program} {cs:Array Value} {g:Nat}
theorem Oe (hg:g<gN) (h:Cells (fun i=>if i<gN then w.heap[i]? else none) g cs) (i:Nat):w.cell? ⟨g,i,none⟩=cs[i]? := by
 obtain ⟨t,fr,h⟩:=h
 simp only [hg,if_true] at h
 unfold World.cell?
 simp only [h]
 rfl
theorem abS (h : ko bG X w) : Lib.TabIs Tryz.prog w "internal/strconv.uint64pow10" .u64 Lib.pow10Tab := by
 obtain ⟨_,_,_,_,t,fr,h⟩:=h
 have e : Tryz.prog.globalNamed "internal/strconv.uint64pow10" = some 1 := by kernel_rfl
 unfold Lib.TabIs World.var?
 rw [e]
 have h:w.heap[1]? = _:=h
 simp only [Option.bind_some,h]
abbrev digits (n:Int):List UInt8:=Lib.itoa n
theorem Mi (n:Int) (h:InR .i64 n):(digits n).length≤21:=Lib.itoa_length_le n h.1 h.2
theorem Nb {n:Int}:av Tryz.prog bG 50 [.int .i64 n] (au (digits n)):=fun N w vs hG hN hlen hv=>by
 obtain ⟨vs⟩:=vs
 match vs,hlen with
 | [x0],_ =>
  obtain ⟨rfl,h0⟩:=kL (hv 0 _ x0 rfl rfl)
  have h1 : -9223372036854775808≤n∧n≤9223372036854775807:=h0
  refine (Tryz.strconv_Itoa n h1.1 h1.2 w (abS hG)).mono fun e w' ⟨h2,k,os,h3⟩=>⟨_,h2,?_,.str ?_⟩
  ·rw [h3];exact Lib.below_grow _ _ (Nat.le_refl _) _ _
  ·rw [aM];have:=Mi n h0;simp only [dS];omega
def DW (l:List UInt8):Int × Bool:=match Lib.atoiAll l with
 | .ok v=>(v,true)
 | .range=>(Lib.atoiSat l,false)
 | _=>(0,false)
def UF:Bool→Abs.V
 | true=>.nili
 | false=>.ifc 212 (.fp [] 0)
theorem Yk {v:Int} (h:Lib.atoiAll l = .ok v):InR .i64 v:=by
 unfold Lib.atoiAll at h
 split at h
 ·cases h
 ·dsimp only at h
  split at h
  ·cases h
  ·cases h
  ·split at h
   ·cases h
   ·split at h
    ·cases h
    ·cases h
     constructor<;>simp only [rng]<;>split<;>omega
theorem Z8 (l:List UInt8):InR .i64 (Lib.atoiSat l):=by
 unfold Lib.atoiSat
 split<;>exact ⟨by decide,by decide⟩
theorem aai (hl:l.length≤281474976710656):av Tryz.prog bG 96 [au l] (.tup [.int .i64 (DW l).1,UF (DW l).2]):=fun N w vs hG hN hlen hv=>by
 obtain ⟨vs⟩:=vs
 match vs,hlen with
 | [x0],_ =>
  obtain ⟨rfl,h0⟩:=iG (hv 0 _ x0 rfl rfl)
  obtain ⟨g1,g2,⟨v1,i1,k1⟩,⟨v2,i2,k2⟩,_⟩:=hG
  have sz:(str l).size≤281474976710656:=by rw [aM];exact hl
  have two:∀ {w':World} {a b:Abs.V} {x y:Value},Fz N w' a x→Fz N w' b y→Fz N w' (.tup [a,b]) (.tuple #[x,y]):=fun ha hb=>.tup rfl fun i x c hx hc=>by
   have hi:i<2:=(List.getElem?_eq_some_iff.1 hx).1
   have:i=0∨i=1:=by omega
   rcases this with rfl|rfl<;>(cases hx;cases hc)
   ·exact ha
   ·exact hb
  have far:∀ {w':World} {M:Nat} {o:Obj},w.heap.size≤M→w'.heap[M]? = some o→Fz N w' (UF false) (.iface 212 (.pointer (some ⟨M,0,none⟩))):=fun {w' M o} h1 h2 =>
   .ifc (.fp (cs:=[]) (o:=0) (fun _=>undef) (fun hx=>by have:=hN M hx;omega) (block_lt h2) (fun u hu=>by cases hu) (fun j u hu=>by simp at hu) (fun j u hu=>by simp at hu))
  unfold DW
  rcases he:Lib.atoiAll l with v|_|_
  ·refine (Tryz.strconv_Atoi_ok (str l) (by omega) v (by rw [bf];exact he) w).mono fun e w' ⟨h2,h3⟩=>⟨_,h2,?_,two (.int (Yk he)) .nili⟩
   rcases h3 with rfl|⟨t,rfl⟩
   ·exact Below.refl _ _
   ·exact Lib.bytesWorld_below _ _ _
  ·exact (Tryz.strconv_Atoi_syntax (str l) sz (by rw [bf,he];exact ⟨fun v h=>(by cases h),fun h=>(by cases h)⟩) v1 w (Oe (by decide) k1 0) i1).mono fun e w' ⟨M,h2,h3,h4,h5⟩=>⟨_,h2,h5,two (.int (oo _)) (far h3 h4)⟩
  ·refine (Tryz.strconv_Atoi_range (str l) sz (by rw [bf];exact he) v2 w (Oe (by decide) k2 0) i2).mono fun e w' ⟨M,h2,h3,h4,h5⟩=>⟨_,h2,h5,two ?_ (far h3 h4)⟩
   rw [bf]
   exact .int (Z8 l)
theorem Aq {P:Program} {W:World} {n:String} {d:DataW Unit}:∀ {l:List (String × DataW Unit)} {ps:List MemPlace},DataW.LaidVars P W l ps→(n,d)∈l →
  ∃ g t cs fuel p,P.globalNamed n=some g∧(P.globals[g]?).map (·.type)=some t∧W.var? P n=some cs∧DataW.trod (fun _=>()) P W 0 (fun _=>true) false fuel t cs.toList=some (d,p)
 | (m,e)::r,ps,h,hm=>by
  obtain ⟨g,t,cs,fuel,p,q,h1,h2,h3,h4,h5,_⟩:=h
  rcases List.mem_cons.1 hm with e|hm
  ·cases e;exact ⟨g,t,cs,fuel,p,h1,h2,h3,h4⟩
  ·exact Aq h5 hm
theorem DX {n:String} (hg:P.globalNamed n=some g) (h:W.var? P n=some cs):∃ t fr,W.heap[g]? = some (.cells cs t fr):=by
 unfold World.var? at h
 rw [hg] at h
 simp only [Option.bind_some] at h
 split at h
 ·rename_i cs' t fr hh
  cases h
  exact ⟨t,fr,hh⟩
 ·cases h
theorem trod_held {fuel t ms:_} {cs:List Value} {d:DataW Unit} {p:List MemPlace} (ht:P.underlying t=some (.interface ms)) (h:DataW.trod (fun _=>()) P W 0 (fun _=>true) false fuel t cs=some (d,p)):∃ v,cs=[v]∧(v = .nilIface∨∃ u x,v = .iface u x):=by
 cases fuel with
 | zero=>simp [DataW.trod] at h
 | succ fuel =>
  unfold DataW.trod at h
  rw [ht] at h
  split at h<;>first
   | (rename_i e1 e2;cases e2;exact ⟨_,rfl,.inl rfl⟩)
   | exact ⟨_,rfl,.inl rfl⟩
   | exact ⟨_,rfl,.inr ⟨_,_,rfl⟩⟩
   | (rename_i e;cases e)
   | cases h
theorem Yz {laid : List (String × DataW Unit)} {d1 d2 : DataW Unit} {w : World} (h : laidMet Tryz.prog laid w) (m1 : ("strconv.ErrSyntax", d1) ∈ laid) (m2 : ("strconv.ErrRange", d2) ∈ laid) (m3 : ("internal/strconv.uint64pow10", Lib.tabData .u64 Lib.pow10Tab) ∈ laid) : ko bG (fun _ => False) w := by
 obtain ⟨ps,h,_⟩:=h
 have ht:∀ n g t,Tryz.prog.globalNamed n=some g→(Tryz.prog.globals[g]?).map (·.type)=some t→∀ g' t',Tryz.prog.globalNamed n=some g'→(Tryz.prog.globals[g']?).map (·.type)=some t'→g'=g∧t'=t:=fun n g t h1 h2 g' t' h3 h4=>by
  rw [h1] at h3;cases h3
  rw [h2] at h4;cases h4
  exact ⟨rfl,rfl⟩
 obtain ⟨g,t,cs,fuel,p,a1,a2,a3,a4⟩:=Aq h m1
 obtain ⟨rfl,rfl⟩:=ht _ 2 102 (by kernel_rfl) (by kernel_rfl) g t a1 a2
 obtain ⟨v1,e1,i1⟩:=trod_held Tryz.underlying102 a4
 obtain ⟨t1,fr1,b1⟩:=DX a1 a3
 obtain ⟨g',t',cs',fuel',p',c1,c2,c3,c4⟩:=Aq h m2
 obtain ⟨rfl,rfl⟩:=ht _ 3 102 (by kernel_rfl) (by kernel_rfl) g' t' c1 c2
 obtain ⟨v2,e2,i2⟩:=trod_held Tryz.underlying102 c4
 obtain ⟨t2,fr2,b2⟩:=DX c1 c3
 obtain ⟨g3,t3,cs3,fuel3,p3,k1,k2,k3,k4⟩:=Aq h m3
 obtain ⟨rfl,rfl⟩:=ht _ 1 252 (by kernel_rfl) (by kernel_rfl) g3 t3 k1 k2
 obtain ⟨tt,fr3,b3⟩:=DX k1 k3
 have e3:=Lib.cells_of_tab Tryz.underlying252 Tryz.underlying201 (by kernel_rfl) (by kernel_rfl) k4
 have e1:cs = #[v1]:=by apply Array.ext';simpa using e1
 have e2:cs' = #[v2]:=by apply Array.ext';simpa using e2
 have e3:cs3=(Lib.pow10Tab.map fun z=>Value.int .u64 z).toArray:=by apply Array.ext';simpa using e3
 have hsz:∀ g o,w.heap[g]? = some o→g<w.heap.size:=fun g o h=>(Array.getElem?_eq_some_iff.1 h).1
 have z1:=hsz _ _ b1
 have z2:=hsz _ _ b2
 have z3:=hsz _ _ b3
 refine ⟨by show gN≤_;unfold gN;omega,fun b hb=>hb.elim,⟨v1,i1,t1,fr1,?_⟩,⟨v2,i2,t2,fr2,?_⟩,⟨tt,fr3,?_⟩⟩
 ·rw [← e1];exact (if_pos (show 2<gN by decide)).trans b1
 ·rw [← e2];exact (if_pos (show 3<gN by decide)).trans b2
 ·rw [← e3];exact (if_pos (show 1<gN by decide)).trans b3
end
end fw
namespace dh
open bR cZ
def gU (c:UInt8):Bool:=decide (48≤c.toNat)&&decide (c.toNat≤57)
def Ba (c:UInt8):Bool:=(decide (97≤c.toNat)&&decide (c.toNat≤122))||gU c
def Oc (c:UInt8):Bool:=Ba c||c.toNat==45
def label (l:List UInt8):Bool := !l.isEmpty&&decide (l.length≤63)&&Ba (l.getD 0 0)&&Ba (l.getD (l.length-1) 0)&&l.all Oc
def fM (l:List UInt8):List UInt8 × Nat:=if 253<l.length then ([],2) else if (split 46 (fold l)).all label then (fold l,0) else ([],1)
def value (l:List UInt8):Nat:=l.foldl (fun n c=>10*n+(c.toNat-48)) 0
def octet (l:List UInt8):Bool:=decide (1≤l.length)&&decide (l.length≤3)&&l.all gU&&decide (value l≤255)&&(decide (l.length≤1) || !(l.getD 0 0==48))
def address (l:List UInt8):Bool:=decide ((split 46 l).length=4)&&(split 46 l).all octet
def zX (l s:List UInt8):Bool:=decide (s.length≤l.length)&&l.drop (l.length-s.length)==s
def kK (h d:List UInt8):Bool:=h==d||(!address h&&zX h (46::d))
def after:List UInt8→List (List UInt8)
 | []=>[]
 | c::r=>if c=46 then r::after r else after r
def vY (l:List UInt8):List (List UInt8):=if l=[] then [] else if address l then [l] else l::after l
theorem Gl (l s:List UInt8):zX l s=true↔∃ x,l=x++s:=by
 unfold zX
 constructor
 ·intro h
  simp only [Bool.and_eq_true,decide_eq_true_eq,beq_iff_eq] at h
  refine ⟨l.take (l.length-s.length),?_⟩
  conv=>{ lhs;rw [← List.take_append_drop (l.length-s.length) l,h.2] }
 ·rintro ⟨x,rfl⟩
  simp
theorem SK {l h:List UInt8} (e:fM l=(h,0)):h=fold l∧l.length≤253∧(split 46 (fold l)).all label=true:=by
 unfold fM at e
 split at e
 ·cases e
 ·split at e
  ·rename_i h1 h2
   cases e
   exact ⟨rfl,by omega,h2⟩
  ·cases e
theorem om (a:List UInt8):∀ l:List UInt8,a∈after l↔∃ x,l=x++46::a
 | []=>by simp [after]
 | c::r=>by
  have ih:=om a r
  unfold after
  constructor
  ·intro h
   split at h
   ·rename_i hc
    rcases List.mem_cons.1 h with rfl|h
    ·exact ⟨[],by rw [hc];rfl⟩
    ·obtain ⟨x,rfl⟩:=ih.1 h
     exact ⟨c::x,rfl⟩
   ·obtain ⟨x,rfl⟩:=ih.1 h
    exact ⟨c::x,rfl⟩
  ·rintro ⟨x,hx⟩
   cases x with
   | nil =>
    simp at hx
    rw [if_pos hx.1,hx.2];exact List.mem_cons_self
   | cons d x =>
    simp only [List.cons_append,List.cons.injEq] at hx
    have:=ih.2 ⟨x,hx.2⟩
    split
    ·exact List.mem_cons_of_mem _ this
    ·exact this
theorem NV (l:List UInt8) (h:l.contains 46=false):after l=[]:=by
 induction l with
 | nil=>rfl
 | cons c r ih =>
  simp only [List.contains_cons,Bool.or_eq_false_iff,beq_eq_false_iff_ne] at h
  unfold after
  rw [if_neg (fun e=>h.1 e.symm),ih h.2]
theorem after_at (a r:List UInt8) (h:a.contains 46=false):after (a++46::r)=r::after r:=by
 induction a with
 | nil=>simp [after]
 | cons c a ih =>
  simp only [List.contains_cons,Bool.or_eq_false_iff,beq_eq_false_iff_ne] at h
  rw [List.cons_append,after,if_neg (fun e=>h.1 e.symm),ih h.2]
theorem EX (l:List UInt8):(after l).length≤l.length:=by
 induction l with
 | nil=>exact Nat.le_refl _
 | cons c l ih=>unfold after;split<;>simp<;>omega
end dh
namespace iM
open bR cZ dh
variable {s:List UInt8} {n:Nat}
def Ad (n:Nat):List UInt8:=if n<10 then [UInt8.ofNat (48+n)] else if n<100 then [UInt8.ofNat (48+n/10),UInt8.ofNat (48+n % 10)] else [UInt8.ofNat (48+n/100),UInt8.ofNat (48+n/10 % 10),UInt8.ofNat (48+n % 10)]
theorem KN (h:n<1000):Lib.decDigits n=Ad n:=by
 unfold Ad
 split
 ·exact Lib.decDigits_one (by assumption)
 ·split
  ·exact Lib.decDigits_two (by assumption) (by assumption)
  ·rw [Lib.decDigits,dif_neg (by assumption),Lib.decDigits_two (by omega) (by omega)]
   simp only [List.cons_append,List.nil_append,Nat.div_div_eq_div_mul]
theorem Xc:∀ n:Fin 256,octet (Ad n.val)=true∧value (Ad n.val)=n.val:=by decide +kernel
theorem TU:∀ n:Fin 256,Lib.parseMag (Ad n.val) = .ok n.val∧(match Ad n.val with|[]=>false|c::_=>decide (c.toNat≠43)&&decide (c.toNat≠45))=true:=by decide +kernel
theorem QZ (h:n<256):Lib.atoiAll (Ad n) = .ok (n:Int):=by
 obtain ⟨h1,h2⟩:=TU ⟨n,h⟩
 simp only at h1 h2
 revert h1 h2
 generalize Ad n=l
 intro h1 h2
 cases l with
 | nil=>cases h2
 | cons c r =>
  simp only [Bool.and_eq_true,decide_eq_true_eq] at h2
  unfold Lib.atoiAll
  simp only [h2.1,h2.2,or_self,if_false,h1]
  rw [if_neg (by omega),if_neg (by simp)]
theorem YC:∀ a:Fin 10,octet [UInt8.ofNat (48+a.val)]=true→[UInt8.ofNat (48+a.val)]=Ad (value [UInt8.ofNat (48+a.val)]):=by decide +kernel
theorem Xn:∀ a b:Fin 10,octet [UInt8.ofNat (48+a.val),UInt8.ofNat (48+b.val)]=true→[UInt8.ofNat (48+a.val),UInt8.ofNat (48+b.val)]=Ad (value [UInt8.ofNat (48+a.val),UInt8.ofNat (48+b.val)]):=by decide +kernel
theorem Q9:∀ a b c:Fin 10,octet [UInt8.ofNat (48+a.val),UInt8.ofNat (48+b.val),UInt8.ofNat (48+c.val)]=true→[UInt8.ofNat (48+a.val),UInt8.ofNat (48+b.val),UInt8.ofNat (48+c.val)]=Ad (value [UInt8.ofNat (48+a.val),UInt8.ofNat (48+b.val),UInt8.ofNat (48+c.val)]):=by decide +kernel
theorem yM {c:UInt8} (h:gU c=true):∃ a:Fin 10,c=UInt8.ofNat (48+a.val):=by
 unfold gU at h
 simp only [Bool.and_eq_true,decide_eq_true_eq] at h
 refine ⟨⟨c.toNat-48,by omega⟩,?_⟩
 apply UInt8.toNat.inj
 rw [UInt8.toNat_ofNat_of_lt' (by have:=c.toNat_lt;show 48+(c.toNat-48)<256;omega)]
 show c.toNat=48+(c.toNat-48)
 omega
theorem zx (h:octet s=true):1≤s.length∧s.length≤3∧s.all gU=true∧value s≤255:=by
 unfold octet at h
 simp only [Bool.and_eq_true,decide_eq_true_eq] at h
 exact ⟨h.1.1.1.1,h.1.1.1.2,h.1.1.2,h.1.2⟩
theorem MP (h:octet s=true):s=Ad (value s):=by
 obtain ⟨h1,h2,h3,_⟩:=zx h
 match s,h1,h2 with
 | [a],_,_ =>
  simp at h3
  obtain ⟨a,rfl⟩:=yM h3
  exact YC a h
 | [a,b],_,_ =>
  simp at h3
  obtain ⟨a,rfl⟩:=yM h3.1
  obtain ⟨b,rfl⟩:=yM h3.2
  exact Xn a b h
 | [a,b,c],_,_ =>
  simp at h3
  obtain ⟨a,rfl⟩:=yM h3.1
  obtain ⟨b,rfl⟩:=yM h3.2.1
  obtain ⟨c,rfl⟩:=yM h3.2.2
  exact Q9 a b c h
 | a::b::c::d::r,_,h=>simp at h
theorem Fb (s:List UInt8):octet s=true↔∃ n:Int,Lib.atoiAll s = .ok n∧n≤255∧Lib.itoa n=s∧0≤n:=by
 constructor
 ·intro h
  have h1:=(zx h).2.2.2
  have h2:=MP h
  refine ⟨(value s:Nat),?_,by omega,?_,by omega⟩
  ·have h3:=QZ (n:=value s) (by omega)
   rwa [← h2] at h3
  ·unfold Lib.itoa
   rw [if_neg (by omega),Int.toNat_natCast,KN (by omega),← h2]
 ·rintro ⟨n,h1,h2,h3,h4⟩
  obtain ⟨k,rfl⟩:=Int.eq_ofNat_of_zero_le h4
  unfold Lib.itoa at h3
  rw [if_neg (by omega),Int.toNat_natCast,KN (by omega)] at h3
  rw [← h3]
  exact (Xc ⟨k,by omega⟩).1
def lead (l:List UInt8):List UInt8:=l.takeWhile gU
theorem vk (l:List UInt8) (c:UInt8):value (l++[c])=10*value l+(c.toNat-48):=by unfold value;rw [List.foldl_append];rfl
theorem lN {α:Type} {p:List α→Prop} (h0:p []) (h1:∀ l b,p l→p (l++[b])):∀ l,p l:=fun l=>by
 have:∀ r:List α,p r.reverse:=fun r=>by
  induction r with
  | nil=>exact h0
  | cons b r ih=>rw [List.reverse_cons];exact h1 _ _ ih
 have h:=this l.reverse
 rwa [List.reverse_reverse] at h
theorem Jp:∀ (l:List UInt8),l.all gU=true→value l<10^l.length:=by
 refine lN (fun _=>by decide) fun l c ih h=>?_
 ·rw [List.all_append,Bool.and_eq_true] at h
  have h1:=ih h.1
  have h2:gU c=true:=by simpa using h.2
  unfold gU at h2
  simp only [Bool.and_eq_true,decide_eq_true_eq] at h2
  rw [vk,List.length_append,List.length_singleton,Nat.pow_succ]
  omega
theorem Sv (l:List UInt8):(lead l).all gU=true:=List.all_eq_true.2 fun x hx=>by
 unfold lead at hx
 induction l with
 | nil=>simp at hx
 | cons c r ih =>
  rw [List.takeWhile_cons] at hx
  split at hx
  ·rename_i hc
   rcases List.mem_cons.1 hx with rfl|hx
   ·exact hc
   ·exact ih hx
  ·cases hx
end iM
namespace FnB
open Go.RowKit Mem Abs
variable {caps:List V} {p:UInt8→Bool} {gl:iJ} {g:Nat}
theorem Yu {l:List UInt8} (hg:dR Tryz.prog g=true) (hc:V.aY caps=[]) (hl:l.length≤LIM) (h:∀ c∈l,av Tryz.prog gl g ([]++[bB c]++caps) (.bool (p c))):av Tryz.prog gl 210 [.fro (l.map bB),.fn (.func g) [] caps] (.int .i64 (eY p l)):=by
 refine iL af Tryz.func210 rfl Tryz.ntmps210 Tryz.results210 rfl fun N=>?_
 repeat' (first|refine zW ?_|exact ai)
 refine bM (fun k=>⟨[(0,.fro (l.map bB)),(1,.fn (.func g) [] caps),(7,.int .i64 (l.map bB).length),(8,.int .i64 (k:Int))],[],0,19⟩) (fun k=>k≤l.length∧∀ j y,j<k→l[j]? = some y→p y=false) l.length 0 ?_ ⟨Nat.zero_le _,fun j y h=>absurd h (Nat.not_lt_zero _)⟩ ?_
 ·exact (by exact ai)
 ·intro k ⟨hk,hp⟩
  simp only [LIM] at hl
  have e0:((l.map bB).length:Int)=(l.length:Int):=by simp
  by_cases hk2:k<l.length
  ·have e1:(l.map bB)[k]? = some (bB l[k]):=by simp [hk2]
   have h1:=h l[k] (List.getElem_mem hk2)
   repeat' (first|refine zV ?_|(refine isR ?_;refine rR rfl rfl rfl (yK (vs:=[_]) rfl (enters hg) (by rfl) h1 (by simp [V.aY,V.names,hc])) (hT rfl (hT rfl Abs.h0)) (fun hb=>?_) (fun hb=>?_))|refine zW ?_|exact ai)
   ·show V.int .i64 _=V.int .i64 _
    rw [oD hp (List.getElem?_eq_getElem hk2) hb]
   ·refine ⟨⟨by omega,fun j y hj hy=>?_⟩,by omega,?_⟩
    ·rcases Nat.lt_succ_iff_lt_or_eq.1 hj with h1|rfl
     ·exact hp j y h1 hy
     ·rw [List.getElem?_eq_getElem hk2] at hy;cases hy;exact hb
    ·exact (by exact ai)
  ·repeat' (first|refine zW ?_|exact ai)
   show V.int .i64 _=V.int .i64 _
   rw [j4 fun x hx=>?_]
   obtain ⟨i,hi⟩:=List.mem_iff_getElem?.1 hx
   exact hp i x (by have:=(List.getElem?_eq_some_iff.1 hi).1;omega) hi
theorem Mw {l:List UInt8} (hg:dR Tryz.prog g=true) (hc:V.aY caps=[]) (hl:l.length≤LIM) (h:∀ c∈l,av Tryz.prog gl g ([]++[bB c]++caps) (.bool (p c))):av Tryz.prog gl 158 [.fro (l.map bB),.fn (.func g) [] caps] (.bool (l.any p)):=by
 have hi:=Yu hg hc hl h
 have hn:V.aY [.fro (l.map bB),.fn (.func g) [] caps]=[]:=by simp [V.aY,V.names,hc]
 refine iL af Tryz.func158 rfl Tryz.ntmps158 Tryz.results158 rfl fun N=>?_
 repeat' (first|refine zW ?_|(refine zs ?_ ?_<;>intro hc)|exact ai)
 refine aJ rfl rfl rfl (BR rfl (enters (by kernel_rfl)) (by rfl) hi hn) (hT rfl (hT rfl Abs.h0)) ?_
 repeat' (first|refine zW ?_|(refine zs ?_ ?_<;>intro hc)|exact ai)
 ·show V.bool _=V.bool _
  rw [lD.1 (by assumption)]
 ·show V.bool _=V.bool _
  have:¬ (l.any p=true):=fun h=>by have:=lD.2 h;contradiction
  simp only [Bool.not_eq_true] at this
  rw [this]
end FnB
end Go.Proofs.YtlfdjpgghiemfaaGreatDoor
