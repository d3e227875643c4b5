/- Texts of the proof, joined: WordR, WordJ, WordQ, TreeW, PathT, Glob, HostP, HostO, FnB. -/
import Derived.RangeFuncNested
import Derived.RangeFuncBound
import Derived.RangeFuncCalls
import Derived.RangeFuncLeaves
import Derived.RangeFuncBox
import Derived.Shelf.Abstract
import Derived.Shelf.RegionOpen
import Derived.WalkKit
import Derived.OwnWalkIn
import Derived.TacticsInMore
import Derived.LoopNIn
import Derived.LoopIn
import Derived.Maps.AppendAt
import Derived.Test.YtlfdjpgghiemfaaGreatDoorG14
import Derived.Lib.Join
import Derived.Test.YtlfdjpgghiemfaaGreatDoorG12
import Derived.Test.YtlfdjpgghiemfaaGreatDoorG11
import Derived.Test.YtlfdjpgghiemfaaGreatDoorG13
import Derived.Lib.LaidTab
import Derived.Lib.ItoaLen
import Derived.Lib.AppendIntMem
import Derived.Test.YtlfdjpgghiemfaaGreatDoorG2
import Derived.Test.YtlfdjpgghiemfaaGreatDoorG1
import Derived.Lib.AtoiAll
import Derived.Lib.ItoaNum
set_option maxHeartbeats 4000000
set_option maxRecDepth 100000
section
namespace Go.Proofs.YtlfdjpgghiemfaaGreatDoor.WordR
open Go.RowKit Go.Shelf Mem WordP WordW WordS WordC Range
attribute [local go_sem] Oper.semAt_some
theorem grown_of_below {w w':World} (h:Below w.heap.size w w') (row:Option Nat):w.grownBy w' row:=⟨h.os,h.tape,h.output,h.size,fun k hk _=>h.block k hk⟩
theorem box_same {W W':World} {B:Nat} {t:TypeId} {v:Value} (h:Boxed W B t v) (e:W'.heap[B]? = W.heap[B]?):Boxed W' B t v:=e.trans h
def boxLen (b:Nat) (W:World):Nat:=match W.cell? ⟨b,0,none⟩ with|some (.string s)=>s.size|_=>0
theorem boxLen_of {b:Nat} {W:World} {t:TypeId} {s:ByteArray} (h:Boxed W b t (.string s)):boxLen b W=s.size:=by unfold boxLen;rw [h.cell]
theorem iter_hands (b c:Nat) (hbc:b≠c) (s:ByteArray) (u:UInt8) (w:World) (hs:s.size≤4611686018427387904) (n:Nat) (hn:1≤n) (hb:Boxed w b 9 (.string s)) (hc:Boxed w c 5 (.int .u8 u.toNat)) :
  Hands Fence.wide n Tryz.prog 101 #[.pointer (some ⟨b,0,none⟩),.pointer (some ⟨c,0,none⟩)] (fun x:ByteArray => #[Value.string x]) b (fun k=>k=b∨k=c) (fun xs=>xs=(split u s.data.toList).map str) (s.size+1) w:=by
 intro l J W hW hz hJ hY h0
 have hbW:Boxed W b 9 (.string s):=box_same hb (hW b (.inl rfl))
 have hcW:Boxed W c 5 (.int .u8 u.toNat):=box_same hc (hW c (.inr rfl))
 refine callsIn_of_wp Tryz.func101 rfl trivial ?_ rfl
 simp only [Tryz.ntmps101,List.size_toArray,List.length_cons,List.length_nil,Nat.reduceAdd,Nat.reduceSub,Array.replicate_succ,Array.replicate_zero,List.push_toArray,List.append_toArray,List.nil_append,List.cons_append]
 gi_wp2
 gi_loopw [4] (fun _ wr=>∃ (pre:List ByteArray) (cur:ByteArray),Boxed wr b 9 (.string cur)∧Boxed wr c 5 (.int .u8 u.toNat)∧pre.length+cur.size≤s.size∧(split u s.data.toList).map str=pre++(split u cur.data.toList).map str∧J pre wr) (fun _ wr=>boxLen b wr)
 case atStart=>exact ⟨[],s,hbW,hcW,by simp,rfl,h0⟩
 case round =>
  clear hbW hcW hb hc hW hz h0
  obtain ⟨pre,cur,hb,hc,hlen,hsp,hj⟩:=hrel
  have cb:=hb.cell
  have cc:=hc.cell
  have CUT:=fun w'=>cut_any cur u w' (by omega)
  have hSP:=Lib.hid hsp
  clear hsp
  rcases first_at u cur.data.toList with h|⟨a,r,hl,h⟩
  ·rw [cut_none h] at CUT
   have hst:str cur.data.toList=cur:=mkB cur
   have hfin:(split u s.data.toList).map str=pre++[str cur.data.toList]:=by rw [hSP.out,split_none u _ h];rfl
   have HF:=Lib.hid hfin
   have CUT:=Lib.hid CUT
   clear h hfin hst
   gi_wp2
   refine ⟨trivial,?_⟩
   refine (callsIn_wide.2 (CUT.out _)).mono ?_
   rintro e w2 ⟨rfl,hb2⟩
   have g2:=grown_of_below hb2 none
   have hb':=hb.kept g2 (by simp)
   have hc':=hc.kept g2 (by simp)
   have hj':=hJ _ _ _ none hj g2 (.inl rfl)
   obtain ⟨fn,tmps,assign,body,hy,hR⟩:=hY pre (str cur.data.toList) w2 hj' (by omega)
   clear hb2 g2 cb cc hb hc hj
   gi_wp2
   refine hR.mono ?_
   rintro e W3 ⟨rfl,hj3,hk3,hz3⟩
   gi_wp2
   refine bodyPost_ret (results_none rfl _ _ _) rfl ?_
   exact ⟨⟨_,rfl⟩,pre++[str cur.data.toList],HF.out.symm,hj3⟩
  ·have hcut:cut u cur.data.toList=(a,r,true):=by rw [hl];exact cut_at h
   have hz:a.length+1+r.length=cur.size:=by
    have:cur.data.toList.length=cur.size:=by simp
    rw [hl] at this;simp at this;omega
   rw [hcut] at CUT
   have hnext:(split u s.data.toList).map str=(pre++[str a])++(split u (str r).data.toList).map str:=by
    rw [hSP.out,hl,split_app u a r h];simp [str]
   have HF:=Lib.hid hnext
   have CUT:=Lib.hid CUT
   clear h hnext hl hcut
   gi_wp2
   refine ⟨trivial,?_⟩
   refine (callsIn_wide.2 (CUT.out _)).mono ?_
   rintro e w2 ⟨rfl,hb2⟩
   have g2:=grown_of_below hb2 none
   have hb':=hb.kept g2 (by simp)
   have hc':=hc.kept g2 (by simp)
   have hj':=hJ _ _ _ none hj g2 (.inl rfl)
   obtain ⟨fn,tmps,assign,body,hy,hR⟩:=hY pre (str a) w2 hj' (by omega)
   have hbl:=boxLen_of hb
   clear hb2 g2 cb cc hb hc hj
   gi_wp2
   refine hR.mono ?_
   rintro e W3 ⟨rfl,hj3,hk3,hz3⟩
   have hb3:=box_same hb' (hk3 b (.inl rfl))
   have hc3:=box_same hc' (hk3 c (.inr rfl))
   have cb:=hb3.cell
   have fb:=hb3.frozen
   gi_wp2
   go_roundw
   case rel=>exact ⟨pre++[str a],str r,hb3.set _,hc3.other (Ne.symm hbc) _,by rw [str_size];simp;omega,HF.out,hJ _ _ _ (some b) hj3 (grownBy_setCell' _ _ _) (.inr rfl)⟩
   case measure=>rw [boxLen_of (hb3.set _),hbl,str_size];omega
theorem made_any (s:ByteArray) (u:UInt8) (w:World) :
  Calls Tryz.prog 69 #[.string s,.int .u8 u.toNat] w (fun e w'=>e = .returned (.func (.func 101) #[] #[.pointer (some ⟨w.heap.size,0,none⟩),.pointer (some ⟨w.heap.size+1,0,none⟩)])∧w'=(w.alloc (.cells #[.string s] 9)).alloc (.cells #[.int .u8 u.toNat] 5)):=by
 go_enter Tryz.func69,Tryz.ntmps69
 go_wp2_with fail
 go_ret
 exact ⟨by simp,rfl⟩
theorem own_lower {w:World} {a b:Nat} {e:TypeId} {size n:Nat} {v:Value} {xs:List Value} (h:w.ownsRow b e size v n xs) (hab:a≤b):w.ownsRow a e size v n xs:=by
 refine ⟨h.1,?_⟩
 rcases h.2 with h|⟨g,cap,cur,e1,e2,e3⟩
 ·exact .inl h
 ·exact .inr ⟨g,cap,cur,e1,by omega,e3⟩
theorem own_far {w:World} {b k:Nat} {e:TypeId} {size n:Nat} {v:Value} {xs:List Value} (h:w.ownsRow b e size v n xs) (hk:k<b):v.ownBlock≠some k:=by
 rcases h.2 with ⟨rfl,_⟩|⟨g,cap,cur,rfl,e2,e3⟩
 ·simp [Value.ownBlock]
 ·simp [Value.ownBlock];omega
theorem info_str:(Tryz.prog.info? 9).map (fun i=>(i.zero,i.size,i.bytes))=some (some (.string ⟨#[]⟩),1,16):=by kernel_rfl
theorem parts_any (s:ByteArray) (u:UInt8) (w:World) (hs:s.size≤4398046511104) :
  Calls Tryz.prog 40 #[.string s,.int .u8 u.toNat] w (GivesRow w.heap.size 9 (split u s.data.toList).length (((split u s.data.toList).map str).map Value.string) w):=by
 refine (callsIn_wide (n:=3)).1 ?_
 obtain ⟨i0,hi,hz0,hz1,hz2⟩:=info_parts info_str
 refine callsIn_of_wp_marks Tryz.func40 rfl trivial ?_ rfl
 simp only [Tryz.ntmps40,List.size_toArray,List.length_cons,List.length_nil,Nat.reduceAdd,Nat.reduceSub,Array.replicate_succ,Array.replicate_zero,List.push_toArray,List.append_toArray,List.nil_append,List.cons_append]
 gi_wp2
 refine ⟨trivial,?_⟩
 refine (callsIn_wide.2 (made_any s u _)).mono ?_
 rintro e w' ⟨rfl,rfl⟩
 have bO:=Boxed.new w 83 (.slice none 0 0)
 have bS:=Boxed.new (w.alloc (.cells #[.slice none 0 0] 83)) 9 (.string s)
 have bU:=Boxed.new ((w.alloc (.cells #[.slice none 0 0] 83)).alloc (.cells #[.string s] 9)) 5 (.int .u8 u.toNat)
 have bO:=(bO.alloc (.cells #[.string s] 9)).alloc (.cells #[.int .u8 u.toNat] 5)
 have bS:=bS.alloc (.cells #[.int .u8 u.toNat] 5)
 rw [World.size_alloc] at bS bU
 rw [World.size_alloc] at bU
 have hB0:Below w.heap.size w (((w.alloc (.cells #[.slice none 0 0] 83)).alloc (.cells #[.string s] 9)).alloc (.cells #[.int .u8 u.toNat] 5)):=(((Below.refl _ w).alloc (Nat.le_refl _) _).alloc (by simp) _).alloc (by simp;omega) _
 have hz:(((w.alloc (.cells #[.slice none 0 0] 83)).alloc (.cells #[.string s] 9)).alloc (.cells #[.int .u8 u.toNat] 5)).heap.size=w.heap.size+3:=by simp
 generalize (((w.alloc (.cells #[.slice none 0 0] 83)).alloc (.cells #[.string s] 9)).alloc (.cells #[.int .u8 u.toNat] 5))=W0 at bO bS bU hB0 hz ⊢
 gi_wp2
 refine range_hands rfl (by omega) (gf:=101) (lb := #[.pointer (some ⟨w.heap.size+1,0,none⟩),.pointer (some ⟨w.heap.size+1+1,0,none⟩)]) rfl trivial (enters_of Tryz.func101 (by kernel_rfl) rfl)
  (K:=fun k=>k=w.heap.size+1∨k=w.heap.size+1+1) (.inl rfl) (fun k hk=>by rcases hk with h|h<;>omega)
  (iter_hands (w.heap.size+1) (w.heap.size+1+1) (by omega) s u W0 (by omega) _ (by omega) bS bU) (fun _=>rfl)
  (fun pre W=>(∃ v,Boxed W w.heap.size 83 v∧W.ownsRow (w.heap.size+3) 9 1 v pre.length (pre.map Value.string))∧Below w.heap.size w W) ?hI ?h0
  (fun x=>{ tmps := #[.string s,.int .u8 u.toNat,undef,undef,.slice none 0 0,.pointer (some ⟨w.heap.size,0,none⟩),.string x,.string s,.int .u8 u.toNat,.func (.func 101) #[] #[.pointer (some ⟨w.heap.size+1,0,none⟩),.pointer (some ⟨w.heap.size+1+1,0,none⟩)],.string x,undef,undef,undef,undef,undef],defers:=[] }) ?assign ?body ?done
 case hI =>
  rintro xs W W' row ⟨⟨v,hv,hr⟩,hB⟩ hg hrow
  refine ⟨⟨v,hv.kept hg (fun e=>?_),hr.kept hg ?_⟩,hB.grown hg hB.size (fun j e=>?_)⟩
  ·rcases hrow _ e.symm with h|⟨h,_⟩<;>omega
  ·cases row with
   | none =>
    by_cases h:v.ownBlock=none
    ·exact .inl h
    ·exact .inr h
   | some r =>
    refine .inr (fun e=>?_)
    rcases hrow r rfl with h|⟨h,o,ho,hc⟩
    ·exact own_far hr (by omega) e
    ·rcases hr.2 with ⟨rfl,_⟩|⟨g,cap,cur,rfl,e2,e3,_⟩
     ·simp [Value.ownBlock] at e
     ·obtain rfl:g=r:=by simpa [Value.ownBlock] using e
      rw [e3] at ho;cases ho;cases hc
  ·rcases hrow j e with h|⟨h,_⟩<;>omega
 case h0=>exact ⟨⟨_,bO,World.ownsRow_nil _ _ _ _⟩,hB0⟩
 case assign =>
  intro l x W K hK
  gi_wp2
  exact hK
 case body =>
  rintro l pre x W ⟨⟨v,hv,hrow⟩,hB⟩ hlt hsz
  have hc:=hv.cell
  have hw:=hB.size
  have hml:pre.length+1≤maxLen:=by unfold maxLen;omega
  have hbd:(pre.length+1)*16≤140737488355328:=by omega
  gi_wp2_with (gi_at_builtin;refine wpListIn_append_own _ rfl _ _ 83 rfl (w.heap.size+3) 9 i0 (.string ⟨#[]⟩) 1 16 Tryz.underlying83 hi hz0 hz1 hz2 rfl (by decide) _ _ _ rfl (hrow.alloc _) ⟨W.heap.size,0,none⟩ 1 1 [.string x] rfl rfl (cell_one_new _ _ _) (by simp [Value.oneCell']) hml hbd (by simp;omega) ?_;intro v' w1 hown' hgrow _;obtain ⟨g',cap',rfl⟩:=ownsRow_succ hown';obtain ⟨hv1,hv2,hr2,hk2,hb2⟩:=hv.appended (by decide) (own_lower (a:=w.heap.size) hrow (by omega)) hB.size (Nat.le_refl _) (own_lower hown' (by omega)) hgrow;have hc1:=hv1.cell;have hf1:=hv1.frozen)
  refine ⟨hk2,fun k hk=>?_,⟨_,hv2,by simpa using hown'.kept (grownBy_setCell' w1 _ _) (.inr (hv1.not_row (by decide) hown').symm)⟩,hB.trans hb2⟩
  have hkB:k≠w.heap.size:=by rcases hk with h|h<;>omega
  have hk3:k<w.heap.size+3:=by rcases hk with h|h<;>omega
  exact (Below.heap_setCell _ _ _ k hkB).trans ((hgrow.block k (by simp;omega) (Ne.symm (own_far hrow hk3))).trans (Below.heap_alloc _ _ _ (by omega)))
 case done =>
  rintro D ys W hD hys ⟨⟨v,hv,hrow⟩,hB⟩ hK
  have hc:=hv.cell
  gi_wp2
  refine ⟨by simp,.inl ⟨_,_,rfl,run_takeDeferred hK,?_⟩⟩
  refine ⟨_,results_tmp rfl _ _ _,v,rfl,?_,hB.trans (belowK_b (w:=w) (Nat.le_refl _) W D _ _ (by omega) hK rfl rfl)⟩
  have hr:=ownsRow_putObj (own_lower (a:=w.heap.size) hrow (by omega)) (.deferred none) hK rfl
  rw [hys] at hr
  simpa using hr
end Go.Proofs.YtlfdjpgghiemfaaGreatDoor.WordR
end
section
namespace Go.Proofs.YtlfdjpgghiemfaaGreatDoor.WordJ
open Go.RowKit Mem WordP OneB WordW WordS WordC
def strs (L:List ByteArray):List Value:=L.map Value.string
end Go.Proofs.YtlfdjpgghiemfaaGreatDoor.WordJ
end
section
namespace Go.Proofs.YtlfdjpgghiemfaaGreatDoor.WordQ
open Go.RowKit Mem WordP OneB WordW WordS WordJ
open WordC (ext_drop ext_take)
end Go.Proofs.YtlfdjpgghiemfaaGreatDoor.WordQ
end
section
namespace Go.Proofs.YtlfdjpgghiemfaaGreatDoor.TreeW
open Go.RowKit Mem Abs WordP OneB WordS
theorem fz_strs {X:Nat→Prop} {w:World} {L:List (List UInt8)} {base T:Nat} {v:Value} (hX:∀ b,X b→b<base) (hl:L.length≤LIM) (hs:∀ l∈L,l.length≤SLIM) (h:w.ownsRow base T 1 v L.length (L.map fun l=>Value.string (str l))):Fz X w (strsT L) v :=
 owns_fz (f:=strT) (g:=fun l=>Value.string (str l)) (fun _=>rfl) (fun _=>rfl) (fun l hl=>.str (by rw [str_size];exact hs l hl)) hX hl h
theorem str_lim {l:List UInt8} {r:List Abs.V} (h:V.LimL (strT l::r)):l.length≤4611686018427387904∧V.LimL r:=by
 have:=h.1
 rw [V.Lim,str_size] at this
 exact ⟨this,h.2⟩
section
variable {l m:List UInt8} {u c:UInt8} {L K:List (List UInt8)}
theorem one_str {f:FuncId} {r:Abs.V} {rv:ByteArray→Value} (h:∀ (s:ByteArray) w,s.size≤4611686018427387904→Calls Tryz.prog f #[.string s] w (Gives (rv s) w)) (hr:∀ N w,l.length≤SLIM→Fz N w r (rv (str l))):ACalls Tryz.prog f [strT l] r:=fun g N w vs hG hN hlen hv=>by
 obtain ⟨vs⟩:=vs
 match vs,hlen with
 | [x0],_ =>
  obtain ⟨rfl,h0⟩:=fz_str (hv 0 _ x0 rfl rfl)
  exact (h _ w h0).mono fun e w' ⟨h1,h2⟩=>⟨_,h1,h2,hr N w' (by rw [str_size] at h0;exact h0)⟩
theorem two_str {f:FuncId} {r:Abs.V} {rv:ByteArray→Value} (h:∀ (s:ByteArray) w,s.size≤4611686018427387904→Calls Tryz.prog f #[.string s,.int .u8 c.toNat] w (Gives (rv s) w)) (hr:∀ N w,l.length≤SLIM→Fz N w r (rv (str l))):ACalls Tryz.prog f [strT l,byteT c] r:=fun g N w vs hG hN hlen hv=>by
 obtain ⟨vs⟩:=vs
 match vs,hlen with
 | [x0,x1],_ =>
  obtain ⟨rfl,h0⟩:=fz_str (hv 0 _ x0 rfl rfl)
  obtain ⟨rfl,_⟩:=fz_int (hv 1 _ x1 rfl rfl)
  exact (h _ w h0).mono fun e w' ⟨h1,h2⟩=>⟨_,h1,h2,hr N w' (by rw [str_size] at h0;exact h0)⟩
theorem fold_len (l:List UInt8):(fold l).length=l.length:=by simp [fold]
theorem fold_v:ACalls Tryz.prog 120 [strT l] (strT (fold l)):=one_str (rv:=fun s=>.string (str (fold s.data.toList))) (fun s w hs=>WordW.fold_any s w hs) fun N w h=>by rw [str_toList];exact .str (by rw [str_size,fold_len];exact h)
theorem trim_len (l:List UInt8):(trim l).length≤l.length:=by
 unfold trim rdrop
 rw [List.length_reverse]
 have h1:((l.dropWhile blankB).reverse.dropWhile blankB).length≤(l.dropWhile blankB).reverse.length:=(List.dropWhile_sublist _).length_le
 have h2:(l.dropWhile blankB).length≤l.length:=(List.dropWhile_sublist _).length_le
 rw [List.length_reverse] at h1
 omega
theorem trim_v:ACalls Tryz.prog 127 [strT l] (strT (trim l)):=one_str (rv:=fun s=>.string (str (trim s.data.toList))) (fun s w hs=>WordC.trim_any s w hs) fun N w h=>by rw [str_toList];exact .str (by rw [str_size];exact Nat.le_trans (trim_len l) h)
abbrev posB (c:UInt8) (l:List UInt8):Int:=Lib.indexByte l c
theorem pos_in (c:UInt8) (l:List UInt8) : -1≤posB c l∧(posB c l<l.length):=by
 rcases first_at c l with h|⟨a,r,rfl,h⟩
 ·rw [posB,index_none l c h];omega
 ·rw [posB,index_at a r c h];simp;omega
theorem pos_none {c:UInt8} {l:List UInt8}:posB c l<0↔l.contains c=false:=by
 have:=index_ge l c
 by_cases h:l.contains c=true
 ·rw [h,decide_eq_true_eq] at this
  simp [posB];constructor
  ·intro h2;omega
  ·intro h2;simp at h;exact absurd h h2
 ·simp only [Bool.not_eq_true] at h
  rw [h,decide_eq_false_iff_not] at this
  simp only [posB,h,iff_true];omega
theorem split_in (_h:∀ x∈split u l,True):∀ x∈split u l,x.length≤l.length:=by
 clear _h
 suffices H:∀ (n:Nat) (l:List UInt8),l.length≤n→∀ x∈split u l,x.length≤l.length from H l.length l (Nat.le_refl _)
 intro n
 induction n with
 | zero =>
  intro l hl x hx
  have:l=[]:=List.eq_nil_of_length_eq_zero (by omega)
  subst this
  rw [split_none _ _ rfl,List.mem_singleton] at hx
  subst hx;exact Nat.le_refl _
 | succ n ih =>
  intro l hl x hx
  rcases first_at u l with h|⟨a,r,rfl,h⟩
  ·rw [split_none _ _ h,List.mem_singleton] at hx
   subst hx;exact Nat.le_refl _
  ·rw [split_app _ _ _ h] at hx
   simp only [List.length_append,List.length_cons] at hl ⊢
   rcases List.mem_cons.1 hx with rfl|hx
   ·omega
   ·have:=ih r (by omega) x hx;omega
theorem placeOf_v:ACalls Tryz.prog 15 [strT l,byteT c] (.int .i64 (posB c l)):=two_str (rv:=fun s=>.int .i64 (Lib.indexByte s.data.toList c)) (fun s w hs=>WordV.placeOf_any s c w hs) fun N w h=>by
 rw [str_toList]
 have:=pos_in c l
 simp only [SLIM] at h
 exact .int ⟨by simp only [rng,posB] at *;omega,by simp only [rng,posB] at *;omega⟩
def cutF (c:UInt8) (l:List UInt8):List UInt8 × List UInt8 × Bool:=if l.contains c then (l.take (posB c l).toNat,l.drop ((posB c l).toNat+1),true) else (l,[],false)
theorem cutF_none {c:UInt8} {l:List UInt8} (h:l.contains c=false):cutF c l=(l,[],false):=by unfold cutF;rw [h];rfl
theorem cutF_at {c:UInt8} {a r:List UInt8} (h:a.contains c=false):cutF c (a++c::r)=(a,r,true):=by
 unfold cutF
 have e:(a++c::r).contains c=true:=by simp
 rw [e,if_pos rfl,posB,index_at a r c h]
 simp
theorem cutF_len (c:UInt8) (l:List UInt8):(cutF c l).1.length≤l.length∧(cutF c l).2.1.length≤l.length:=by
 unfold cutF
 split
 ·simp;omega
 ·simp
theorem cut_v:ACalls Tryz.prog 42 [strT l,byteT c] (.tup [strT (cutF c l).1,strT (cutF c l).2.1,.bool (cutF c l).2.2]):=fun g N w vs hG hN hlen hv=>by
 obtain ⟨vs⟩:=vs
 match vs,hlen with
 | [x0,x1],_ =>
  obtain ⟨rfl,h0⟩:=fz_str (hv 0 _ x0 rfl rfl)
  obtain ⟨rfl,_⟩:=fz_int (hv 1 _ x1 rfl rfl)
  refine (WordC.cut_any _ c w h0).mono fun e w' ⟨h1,h2⟩=>⟨_,h1,h2,?_⟩
  have e:WordC.cut c (str l).data.toList=cutF c l:=by
   rw [str_toList]
   rcases first_at c l with h|⟨a,r,rfl,h⟩
   ·rw [WordC.cut_none h,cutF_none h]
   ·rw [WordC.cut_at h,cutF_at h]
  have hc:=cutF_len c l
  rw [str_size] at h0
  rw [e]
  refine .tup rfl fun i x y hx hy=>?_
  have hi:i<3:=(List.getElem?_eq_some_iff.1 hx).1
  have:i=0∨i=1∨i=2:=by omega
  rcases this with rfl|rfl|rfl<;>(cases hx;cases hy)
  ·exact .str (by rw [str_size];exact Nat.le_trans hc.1 h0)
  ·exact .str (by rw [str_size];exact Nat.le_trans hc.2 h0)
  ·exact .bool
theorem shut_parts {f:FuncId} (hl:l.length≤4398046511104) (h:∀ (s:ByteArray) w,s.size≤4398046511104→Calls Tryz.prog f #[.string s,.int .u8 u.toNat] w (GivesRow w.heap.size 9 (split u s.data.toList).length (((split u s.data.toList).map str).map Value.string) w)):ACalls Tryz.prog f [strT l,byteT u] (strsT (split u l)):=fun g N w vs hG hN hlen hv=>by
 obtain ⟨vs⟩:=vs
 match vs,hlen with
 | [x0,x1],_ =>
  obtain ⟨rfl,h0⟩:=fz_str (hv 0 _ x0 rfl rfl)
  obtain ⟨rfl,_⟩:=fz_int (hv 1 _ x1 rfl rfl)
  refine (h _ w (by rw [str_size];exact hl)).mono fun e w' ⟨v,h1,h2,h3⟩=>⟨_,h1,h3,?_⟩
  rw [str_toList,List.map_map] at h2
  refine fz_strs hN ?_ (fun x hx=>?_) h2
  ·have:=split_len u l;simp only [LIM];omega
  ·have:=split_in (u:=u) (l:=l) (fun _ _=>trivial) x hx;simp only [SLIM];omega
theorem parts_v (hl:l.length≤4398046511104):ACalls Tryz.prog 40 [strT l,byteT u] (strsT (split u l)):=shut_parts hl fun s w hs=>WordR.parts_any s u w hs
end
end Go.Proofs.YtlfdjpgghiemfaaGreatDoor.TreeW
end
section
namespace Go.Proofs.YtlfdjpgghiemfaaGreatDoor.PathT
open Go.RowKit Mem Abs TreeW
def pre (l m:List UInt8):Bool:=decide (l.take m.length=m)
theorem pre_iff (l m:List UInt8):pre l m=true↔∃ x,l=m++x:=by
 unfold pre
 rw [decide_eq_true_eq]
 constructor
 ·intro h
  exact ⟨l.drop m.length,by conv=>{ lhs;rw [← List.take_append_drop m.length l,h] }⟩
 ·rintro ⟨x,rfl⟩
  simp
theorem pre_len {l m:List UInt8} (h:pre l m=true):m.length≤l.length:=by
 obtain ⟨x,rfl⟩:=(pre_iff l m).1 h
 simp
theorem hasPrefixL_v {l m:List UInt8}:ACalls Tryz.prog 102 [strT l,strT m] (.bool (pre l m)):=by
 refine fun2 tb_ok Tryz.func102 rfl Tryz.ntmps102 Tryz.results102 rfl fun N=>?_
 by_cases h0:m.length≤l.length
 ·have e:l.take ((m.length:Int)).toNat=l.take m.length:=rfl
  by_cases h1:l.take ((m.length:Int)).toNat=m
  ·skip
   repeat' (first|refine zt ?_|(refine isR ?_;first|refine zo ?_|refine zL ?_|refine zc4 ?_|refine zc5 ?_|refine zS ?_)|refine zr ?_|exact x_le)
   rw [show pre l m=true from decide_eq_true h1];rfl
  ·skip
   repeat' (first|refine zt ?_|(refine isR ?_;first|refine zo ?_|refine zL ?_|refine zc4 ?_|refine zc5 ?_|refine zS ?_)|refine zr ?_|exact x_le)
   rw [show pre l m=false from decide_eq_false h1];rfl
 ·skip
  repeat' (first|refine zt ?_|(refine isR ?_;first|refine zo ?_|refine zL ?_|refine zc4 ?_|refine zc5 ?_|refine zS ?_)|refine zr ?_|exact x_le)
  have:pre l m=false:=by
   cases h:pre l m with
   | false=>rfl
   | true=>exact absurd (pre_len h) h0
  rw [this];rfl
theorem hasPrefix_v {l m:List UInt8}:ACalls Tryz.prog 92 [strT l,strT m] (.bool (pre l m)):=by
 have c1:=hasPrefixL_v (l:=l) (m:=m)
 refine fun2 tb_ok Tryz.func92 rfl Tryz.ntmps92 Tryz.results92 rfl fun N=>?_
 repeat' (first|refine zt ?_|(refine isR ?_;first|refine zo ?_|refine zk c1 ?_)|refine zr ?_|exact x_le)
 rfl
def cutP (l m:List UInt8):List UInt8 × Bool:=if pre l m then (l.drop m.length,true) else (l,false)
theorem cutPrefixL_v {l m:List UInt8}:ACalls Tryz.prog 70 [strT l,strT m] (.tup [strT (cutP l m).1,.bool (cutP l m).2]):=by
 have c1:=hasPrefixL_v (l:=l) (m:=m)
 cases hp:pre l m with
 | true =>
  have:=pre_len hp
  have e:cutP l m=(l.drop m.length,true):=by unfold cutP;rw [hp];rfl
  rw [e]
  rw [hp] at c1
  refine fun2 tb_ok Tryz.func70 rfl Tryz.ntmps70 Tryz.results70 rfl fun N=>?_
  repeat' (first|refine zt ?_|(refine isR ?_;first|refine zo ?_|refine zk c1 ?_|refine zL ?_|refine zS ?_)|refine zr ?_|exact x_le)
  rfl
 | false =>
  have e:cutP l m=(l,false):=by unfold cutP;rw [hp];rfl
  rw [e]
  rw [hp] at c1
  refine fun2 tb_ok Tryz.func70 rfl Tryz.ntmps70 Tryz.results70 rfl fun N=>?_
  repeat' (first|refine zt ?_|(refine isR ?_;first|refine zo ?_|refine zk c1 ?_|refine zL ?_|refine zS ?_)|refine zr ?_|exact x_le)
  rfl
theorem cutPrefix_v {l m:List UInt8}:ACalls Tryz.prog 41 [strT l,strT m] (.tup [strT (cutP l m).1,.bool (cutP l m).2]):=by
 have c1:=cutPrefixL_v (l:=l) (m:=m)
 generalize cutP l m=p at *
 refine fun2 tb_ok Tryz.func41 rfl Tryz.ntmps41 Tryz.results41 rfl fun N=>?_
 repeat' (first|refine zt ?_|(refine isR ?_;first|refine zo ?_|refine zk c1 ?_)|refine zr ?_|exact x_le)
 rfl
def pathF (p o:List UInt8):Bool:=pre p o&&(decide (p.drop o.length=[])||decide (o.getLast? = some 47)||decide ((p.drop o.length).head? = some 47))
end Go.Proofs.YtlfdjpgghiemfaaGreatDoor.PathT
end
section
namespace Go.Proofs.YtlfdjpgghiemfaaGreatDoor.Globs
open Go.RowKit Mem Abs TreeW
def Cells (f:Nat→Option Obj) (g:Nat) (cs:Array Value):Prop:=∃ t fr,f g=some (.cells cs t fr)
def gN:Nat:=max (max 2 3) 1+1
def gStr:Glob:=⟨gN,fun f=>(∃ v:Value,(v = .nilIface∨∃ t p,v = .iface t p)∧Cells f 2 #[v])∧(∃ v:Value,(v = .nilIface∨∃ t p,v = .iface t p)∧Cells f 3 #[v])∧Cells f 1 (Lib.pow10Tab.map fun z=>Value.int .u64 z).toArray⟩
section
variable {X:Nat→Prop} {w:World} {l:List UInt8}
theorem at_cell {g:Nat} {cs:Array Value} (hg:g<gN) (h:Cells (fun i=>if i<gN then w.heap[i]? else none) g cs) (i:Nat):w.cell? ⟨g,i,none⟩=cs[i]? := by
 obtain ⟨t,fr,h⟩:=h
 simp only [hg,if_true] at h
 unfold World.cell?
 simp only [h]
 rfl
theorem tab_is (h : GlOk gStr X w) : Lib.TabIs Tryz.prog w "internal/strconv.uint64pow10" .u64 Lib.pow10Tab := by
 obtain ⟨_,_,_,_,t,fr,h⟩:=h
 have e : Tryz.prog.globalNamed "internal/strconv.uint64pow10" = some 1 := by kernel_rfl
 unfold Lib.TabIs World.var?
 rw [e]
 have h:w.heap[1]? = _:=h
 simp only [Option.bind_some,h]
abbrev digits (n:Int):List UInt8:=Lib.itoa n
theorem digits_len (n:Int) (h:InR .i64 n):(digits n).length≤21:=Lib.itoa_length_le n h.1 h.2
theorem itoa_v {n:Int}:ACallsG Tryz.prog gStr 50 [.int .i64 n] (strT (digits n)):=fun N w vs hG hN hlen hv=>by
 obtain ⟨vs⟩:=vs
 match vs,hlen with
 | [x0],_ =>
  obtain ⟨rfl,h0⟩:=fz_int (hv 0 _ x0 rfl rfl)
  have h1 : -9223372036854775808≤n∧n≤9223372036854775807:=h0
  refine (Tryz.strconv_Itoa n h1.1 h1.2 w (tab_is hG)).mono fun e w' ⟨h2,k,os,h3⟩=>⟨_,h2,?_,.str ?_⟩
  ·rw [h3];exact Lib.below_grow _ _ (Nat.le_refl _) _ _
  ·rw [str_size];have:=digits_len n h0;simp only [SLIM];omega
def atoiF (l:List UInt8):Int × Bool:=match Lib.atoiAll l with
 | .ok v=>(v,true)
 | .range=>(Lib.atoiSat l,false)
 | _=>(0,false)
def errT:Bool→Abs.V
 | true=>.nili
 | false=>.ifc 212 (.fp [] 0)
theorem atoi_in {v:Int} (h:Lib.atoiAll l = .ok v):InR .i64 v:=by
 unfold Lib.atoiAll at h
 split at h
 ·cases h
 ·dsimp only at h
  split at h
  ·cases h
  ·cases h
  ·split at h
   ·cases h
   ·split at h
    ·cases h
    ·cases h
     constructor<;>simp only [rng]<;>split<;>omega
theorem sat_in (l:List UInt8):InR .i64 (Lib.atoiSat l):=by
 unfold Lib.atoiSat
 split<;>exact ⟨by decide,by decide⟩
theorem atoi_v (hl:l.length≤281474976710656):ACallsG Tryz.prog gStr 96 [strT l] (.tup [.int .i64 (atoiF l).1,errT (atoiF l).2]):=fun N w vs hG hN hlen hv=>by
 obtain ⟨vs⟩:=vs
 match vs,hlen with
 | [x0],_ =>
  obtain ⟨rfl,h0⟩:=fz_str (hv 0 _ x0 rfl rfl)
  obtain ⟨g1,g2,⟨v1,i1,k1⟩,⟨v2,i2,k2⟩,_⟩:=hG
  have sz:(str l).size≤281474976710656:=by rw [str_size];exact hl
  have two:∀ {w':World} {a b:Abs.V} {x y:Value},Fz N w' a x→Fz N w' b y→Fz N w' (.tup [a,b]) (.tuple #[x,y]):=fun ha hb=>.tup rfl fun i x c hx hc=>by
   have hi:i<2:=(List.getElem?_eq_some_iff.1 hx).1
   have:i=0∨i=1:=by omega
   rcases this with rfl|rfl<;>(cases hx;cases hc)
   ·exact ha
   ·exact hb
  have far:∀ {w':World} {M:Nat} {o:Obj},w.heap.size≤M→w'.heap[M]? = some o→Fz N w' (errT false) (.iface 212 (.pointer (some ⟨M,0,none⟩))):=fun {w' M o} h1 h2 =>
   .ifc (.fp (cs:=[]) (o:=0) (fun _=>undef) (fun hx=>by have:=hN M hx;omega) (block_lt h2) (fun u hu=>by cases hu) (fun j u hu=>by simp at hu) (fun j u hu=>by simp at hu))
  unfold atoiF
  rcases he:Lib.atoiAll l with v|_|_
  ·refine (Tryz.strconv_Atoi_ok (str l) (by omega) v (by rw [str_toList];exact he) w).mono fun e w' ⟨h2,h3⟩=>⟨_,h2,?_,two (.int (atoi_in he)) .nili⟩
   rcases h3 with rfl|⟨t,rfl⟩
   ·exact Below.refl _ _
   ·exact Lib.bytesWorld_below _ _ _
  ·exact (Tryz.strconv_Atoi_syntax (str l) sz (by rw [str_toList,he];exact ⟨fun v h=>(by cases h),fun h=>(by cases h)⟩) v1 w (at_cell (by decide) k1 0) i1).mono fun e w' ⟨M,h2,h3,h4,h5⟩=>⟨_,h2,h5,two (.int (inR_zero _)) (far h3 h4)⟩
  ·refine (Tryz.strconv_Atoi_range (str l) sz (by rw [str_toList];exact he) v2 w (at_cell (by decide) k2 0) i2).mono fun e w' ⟨M,h2,h3,h4,h5⟩=>⟨_,h2,h5,two ?_ (far h3 h4)⟩
   rw [str_toList]
   exact .int (sat_in l)
theorem laid_at {P:Program} {W:World} {n:String} {d:DataW Unit}:∀ {l:List (String × DataW Unit)} {ps:List MemPlace},DataW.LaidVars P W l ps→(n,d)∈l →
  ∃ g t cs fuel p,P.globalNamed n=some g∧(P.globals[g]?).map (·.type)=some t∧W.var? P n=some cs∧DataW.trod (fun _=>()) P W 0 (fun _=>true) false fuel t cs.toList=some (d,p)
 | (m,e)::r,ps,h,hm=>by
  obtain ⟨g,t,cs,fuel,p,q,h1,h2,h3,h4,h5,_⟩:=h
  rcases List.mem_cons.1 hm with e|hm
  ·cases e;exact ⟨g,t,cs,fuel,p,h1,h2,h3,h4⟩
  ·exact laid_at h5 hm
theorem var_heap {P:Program} {W:World} {n:String} {g:Nat} {cs:Array Value} (hg:P.globalNamed n=some g) (h:W.var? P n=some cs):∃ t fr,W.heap[g]? = some (.cells cs t fr):=by
 unfold World.var? at h
 rw [hg] at h
 simp only [Option.bind_some] at h
 split at h
 ·rename_i cs' t fr hh
  cases h
  exact ⟨t,fr,hh⟩
 ·cases h
theorem trod_held {P:Program} {W:World} {fuel t ms:_} {cs:List Value} {d:DataW Unit} {p:List MemPlace} (ht:P.underlying t=some (.interface ms)) (h:DataW.trod (fun _=>()) P W 0 (fun _=>true) false fuel t cs=some (d,p)):∃ v,cs=[v]∧(v = .nilIface∨∃ u x,v = .iface u x):=by
 cases fuel with
 | zero=>simp [DataW.trod] at h
 | succ fuel =>
  unfold DataW.trod at h
  rw [ht] at h
  split at h<;>first
   | (rename_i e1 e2;cases e2;exact ⟨_,rfl,.inl rfl⟩)
   | exact ⟨_,rfl,.inl rfl⟩
   | exact ⟨_,rfl,.inr ⟨_,_,rfl⟩⟩
   | (rename_i e;cases e)
   | cases h
theorem glob_of {laid : List (String × DataW Unit)} {d1 d2 : DataW Unit} {w : World} (h : laidMet Tryz.prog laid w) (m1 : ("strconv.ErrSyntax", d1) ∈ laid) (m2 : ("strconv.ErrRange", d2) ∈ laid) (m3 : ("internal/strconv.uint64pow10", Lib.tabData .u64 Lib.pow10Tab) ∈ laid) : GlOk gStr (fun _ => False) w := by
 obtain ⟨ps,h,_⟩:=h
 have ht:∀ n g t,Tryz.prog.globalNamed n=some g→(Tryz.prog.globals[g]?).map (·.type)=some t→∀ g' t',Tryz.prog.globalNamed n=some g'→(Tryz.prog.globals[g']?).map (·.type)=some t'→g'=g∧t'=t:=fun n g t h1 h2 g' t' h3 h4=>by
  rw [h1] at h3;cases h3
  rw [h2] at h4;cases h4
  exact ⟨rfl,rfl⟩
 obtain ⟨g,t,cs,fuel,p,a1,a2,a3,a4⟩:=laid_at h m1
 obtain ⟨rfl,rfl⟩:=ht _ 2 102 (by kernel_rfl) (by kernel_rfl) g t a1 a2
 obtain ⟨v1,e1,i1⟩:=trod_held Tryz.underlying102 a4
 obtain ⟨t1,fr1,b1⟩:=var_heap a1 a3
 obtain ⟨g',t',cs',fuel',p',c1,c2,c3,c4⟩:=laid_at h m2
 obtain ⟨rfl,rfl⟩:=ht _ 3 102 (by kernel_rfl) (by kernel_rfl) g' t' c1 c2
 obtain ⟨v2,e2,i2⟩:=trod_held Tryz.underlying102 c4
 obtain ⟨t2,fr2,b2⟩:=var_heap c1 c3
 obtain ⟨g3,t3,cs3,fuel3,p3,k1,k2,k3,k4⟩:=laid_at h m3
 obtain ⟨rfl,rfl⟩:=ht _ 1 252 (by kernel_rfl) (by kernel_rfl) g3 t3 k1 k2
 obtain ⟨tt,fr3,b3⟩:=var_heap k1 k3
 have e3:=Lib.cells_of_tab Tryz.underlying252 Tryz.underlying201 (by kernel_rfl) (by kernel_rfl) k4
 have e1:cs = #[v1]:=by apply Array.ext';simpa using e1
 have e2:cs' = #[v2]:=by apply Array.ext';simpa using e2
 have e3:cs3=(Lib.pow10Tab.map fun z=>Value.int .u64 z).toArray:=by apply Array.ext';simpa using e3
 have hsz:∀ g o,w.heap[g]? = some o→g<w.heap.size:=fun g o h=>(Array.getElem?_eq_some_iff.1 h).1
 have z1:=hsz _ _ b1
 have z2:=hsz _ _ b2
 have z3:=hsz _ _ b3
 refine ⟨by show gN≤_;unfold gN;omega,fun b hb=>hb.elim,⟨v1,i1,t1,fr1,?_⟩,⟨v2,i2,t2,fr2,?_⟩,⟨tt,fr3,?_⟩⟩
 ·rw [← e1];exact (if_pos (show 2<gN by decide)).trans b1
 ·rw [← e2];exact (if_pos (show 3<gN by decide)).trans b2
 ·rw [← e3];exact (if_pos (show 1<gN by decide)).trans b3
end
end Go.Proofs.YtlfdjpgghiemfaaGreatDoor.Globs
end
section
namespace Go.Proofs.YtlfdjpgghiemfaaGreatDoor.HostP
open WordP WordS
def digB (c:UInt8):Bool:=decide (48≤c.toNat)&&decide (c.toNat≤57)
def outerB (c:UInt8):Bool:=(decide (97≤c.toNat)&&decide (c.toNat≤122))||digB c
def hostB (c:UInt8):Bool:=outerB c||c.toNat==45
def label (l:List UInt8):Bool := !l.isEmpty&&decide (l.length≤63)&&outerB (l.getD 0 0)&&outerB (l.getD (l.length-1) 0)&&l.all hostB
def canonF (l:List UInt8):List UInt8 × Nat:=if 253<l.length then ([],2) else if (split 46 (fold l)).all label then (fold l,0) else ([],1)
def value (l:List UInt8):Nat:=l.foldl (fun n c=>10*n+(c.toNat-48)) 0
def octet (l:List UInt8):Bool:=decide (1≤l.length)&&decide (l.length≤3)&&l.all digB&&decide (value l≤255)&&(decide (l.length≤1) || !(l.getD 0 0==48))
def address (l:List UInt8):Bool:=decide ((split 46 l).length=4)&&(split 46 l).all octet
def endsB (l s:List UInt8):Bool:=decide (s.length≤l.length)&&l.drop (l.length-s.length)==s
def matchF (h d:List UInt8):Bool:=h==d||(!address h&&endsB h (46::d))
def after:List UInt8→List (List UInt8)
 | []=>[]
 | c::r=>if c=46 then r::after r else after r
def upsF (l:List UInt8):List (List UInt8):=if l=[] then [] else if address l then [l] else l::after l
theorem endsB_iff (l s:List UInt8):endsB l s=true↔∃ x,l=x++s:=by
 unfold endsB
 constructor
 ·intro h
  simp only [Bool.and_eq_true,decide_eq_true_eq,beq_iff_eq] at h
  refine ⟨l.take (l.length-s.length),?_⟩
  conv=>{ lhs;rw [← List.take_append_drop (l.length-s.length) l,h.2] }
 ·rintro ⟨x,rfl⟩
  simp
theorem canon_ok {l h:List UInt8} (e:canonF l=(h,0)):h=fold l∧l.length≤253∧(split 46 (fold l)).all label=true:=by
 unfold canonF at e
 split at e
 ·cases e
 ·split at e
  ·rename_i h1 h2
   cases e
   exact ⟨rfl,by omega,h2⟩
  ·cases e
theorem mem_after (a:List UInt8):∀ l:List UInt8,a∈after l↔∃ x,l=x++46::a
 | []=>by simp [after]
 | c::r=>by
  have ih:=mem_after a r
  unfold after
  constructor
  ·intro h
   split at h
   ·rename_i hc
    rcases List.mem_cons.1 h with rfl|h
    ·exact ⟨[],by rw [hc];rfl⟩
    ·obtain ⟨x,rfl⟩:=ih.1 h
     exact ⟨c::x,rfl⟩
   ·obtain ⟨x,rfl⟩:=ih.1 h
    exact ⟨c::x,rfl⟩
  ·rintro ⟨x,hx⟩
   cases x with
   | nil =>
    simp at hx
    rw [if_pos hx.1,hx.2];exact List.mem_cons_self
   | cons d x =>
    simp only [List.cons_append,List.cons.injEq] at hx
    have:=ih.2 ⟨x,hx.2⟩
    split
    ·exact List.mem_cons_of_mem _ this
    ·exact this
theorem after_none (l:List UInt8) (h:l.contains 46=false):after l=[]:=by
 induction l with
 | nil=>rfl
 | cons c r ih =>
  simp only [List.contains_cons,Bool.or_eq_false_iff,beq_eq_false_iff_ne] at h
  unfold after
  rw [if_neg (fun e=>h.1 e.symm),ih h.2]
theorem after_at (a r:List UInt8) (h:a.contains 46=false):after (a++46::r)=r::after r:=by
 induction a with
 | nil=>simp [after]
 | cons c a ih =>
  simp only [List.contains_cons,Bool.or_eq_false_iff,beq_eq_false_iff_ne] at h
  rw [List.cons_append,after,if_neg (fun e=>h.1 e.symm),ih h.2]
theorem after_len (l:List UInt8):(after l).length≤l.length:=by
 induction l with
 | nil=>exact Nat.le_refl _
 | cons c l ih=>unfold after;split<;>simp<;>omega
end Go.Proofs.YtlfdjpgghiemfaaGreatDoor.HostP
end
section
namespace Go.Proofs.YtlfdjpgghiemfaaGreatDoor.HostO
open WordP WordS HostP
def dig3 (n:Nat):List UInt8:=if n<10 then [UInt8.ofNat (48+n)] else if n<100 then [UInt8.ofNat (48+n/10),UInt8.ofNat (48+n % 10)] else [UInt8.ofNat (48+n/100),UInt8.ofNat (48+n/10 % 10),UInt8.ofNat (48+n % 10)]
theorem dec_dig3 {n:Nat} (h:n<1000):Lib.decDigits n=dig3 n:=by
 unfold dig3
 split
 ·exact Lib.decDigits_one (by assumption)
 ·split
  ·exact Lib.decDigits_two (by assumption) (by assumption)
  ·rw [Lib.decDigits,dif_neg (by assumption),Lib.decDigits_two (by omega) (by omega)]
   simp only [List.cons_append,List.nil_append,Nat.div_div_eq_div_mul]
theorem oct_fin:∀ n:Fin 256,octet (dig3 n.val)=true∧value (dig3 n.val)=n.val:=by decide +kernel
theorem atoi_fin:∀ n:Fin 256,Lib.parseMag (dig3 n.val) = .ok n.val∧(match dig3 n.val with|[]=>false|c::_=>decide (c.toNat≠43)&&decide (c.toNat≠45))=true:=by decide +kernel
theorem atoi_dig3 {n:Nat} (h:n<256):Lib.atoiAll (dig3 n) = .ok (n:Int):=by
 obtain ⟨h1,h2⟩:=atoi_fin ⟨n,h⟩
 simp only at h1 h2
 revert h1 h2
 generalize dig3 n=l
 intro h1 h2
 cases l with
 | nil=>cases h2
 | cons c r =>
  simp only [Bool.and_eq_true,decide_eq_true_eq] at h2
  unfold Lib.atoiAll
  simp only [h2.1,h2.2,or_self,if_false,h1]
  rw [if_neg (by omega),if_neg (by simp)]
theorem one_fin:∀ a:Fin 10,octet [UInt8.ofNat (48+a.val)]=true→[UInt8.ofNat (48+a.val)]=dig3 (value [UInt8.ofNat (48+a.val)]):=by decide +kernel
theorem two_fin:∀ a b:Fin 10,octet [UInt8.ofNat (48+a.val),UInt8.ofNat (48+b.val)]=true→[UInt8.ofNat (48+a.val),UInt8.ofNat (48+b.val)]=dig3 (value [UInt8.ofNat (48+a.val),UInt8.ofNat (48+b.val)]):=by decide +kernel
theorem three_fin:∀ a b c:Fin 10,octet [UInt8.ofNat (48+a.val),UInt8.ofNat (48+b.val),UInt8.ofNat (48+c.val)]=true→[UInt8.ofNat (48+a.val),UInt8.ofNat (48+b.val),UInt8.ofNat (48+c.val)]=dig3 (value [UInt8.ofNat (48+a.val),UInt8.ofNat (48+b.val),UInt8.ofNat (48+c.val)]):=by decide +kernel
theorem dig_of {c:UInt8} (h:digB c=true):∃ a:Fin 10,c=UInt8.ofNat (48+a.val):=by
 unfold digB at h
 simp only [Bool.and_eq_true,decide_eq_true_eq] at h
 refine ⟨⟨c.toNat-48,by omega⟩,?_⟩
 apply UInt8.toNat.inj
 rw [UInt8.toNat_ofNat_of_lt' (by have:=c.toNat_lt;show 48+(c.toNat-48)<256;omega)]
 show c.toNat=48+(c.toNat-48)
 omega
theorem octet_parts {s:List UInt8} (h:octet s=true):1≤s.length∧s.length≤3∧s.all digB=true∧value s≤255:=by
 unfold octet at h
 simp only [Bool.and_eq_true,decide_eq_true_eq] at h
 exact ⟨h.1.1.1.1,h.1.1.1.2,h.1.1.2,h.1.2⟩
theorem octet_dig3 {s:List UInt8} (h:octet s=true):s=dig3 (value s):=by
 obtain ⟨h1,h2,h3,_⟩:=octet_parts h
 match s,h1,h2 with
 | [a],_,_ =>
  simp at h3
  obtain ⟨a,rfl⟩:=dig_of h3
  exact one_fin a h
 | [a,b],_,_ =>
  simp at h3
  obtain ⟨a,rfl⟩:=dig_of h3.1
  obtain ⟨b,rfl⟩:=dig_of h3.2
  exact two_fin a b h
 | [a,b,c],_,_ =>
  simp at h3
  obtain ⟨a,rfl⟩:=dig_of h3.1
  obtain ⟨b,rfl⟩:=dig_of h3.2.1
  obtain ⟨c,rfl⟩:=dig_of h3.2.2
  exact three_fin a b c h
 | a::b::c::d::r,_,h=>simp at h
theorem octet_iff (s:List UInt8):octet s=true↔∃ n:Int,Lib.atoiAll s = .ok n∧n≤255∧Lib.itoa n=s∧0≤n:=by
 constructor
 ·intro h
  have h1:=(octet_parts h).2.2.2
  have h2:=octet_dig3 h
  refine ⟨(value s:Nat),?_,by omega,?_,by omega⟩
  ·have h3:=atoi_dig3 (n:=value s) (by omega)
   rwa [← h2] at h3
  ·unfold Lib.itoa
   rw [if_neg (by omega),Int.toNat_natCast,dec_dig3 (by omega),← h2]
 ·rintro ⟨n,h1,h2,h3,h4⟩
  obtain ⟨k,rfl⟩:=Int.eq_ofNat_of_zero_le h4
  unfold Lib.itoa at h3
  rw [if_neg (by omega),Int.toNat_natCast,dec_dig3 (by omega)] at h3
  rw [← h3]
  exact (oct_fin ⟨k,by omega⟩).1
def lead (l:List UInt8):List UInt8:=l.takeWhile digB
def leadN (l:List UInt8):Nat:=value ((lead l).take 5)
end Go.Proofs.YtlfdjpgghiemfaaGreatDoor.HostO
end
section
namespace Go.Proofs.YtlfdjpgghiemfaaGreatDoor.FnB
open Go.RowKit Mem Abs
theorem index_b {gl:Glob} {g:Nat} {caps:List V} {p:UInt8→Bool} {l:List UInt8} (hg:hasBody Tryz.prog g=true) (hc:V.namesL caps=[]) (hl:l.length≤LIM) (h:∀ c∈l,ACallsG Tryz.prog gl g ([]++[byteT c]++caps) (.bool (p c))):ACallsG Tryz.prog gl 210 [.fro (l.map byteT),.fn (.func g) [] caps] (.int .i64 (firstI p l)):=by
 refine funG2 tb_ok Tryz.func210 rfl Tryz.ntmps210 Tryz.results210 rfl fun N=>?_
 repeat' (first|refine zt ?_|(refine isR ?_;first|refine zo ?_|refine zA ?_|refine zL ?_|refine zc1 ?_|refine zI ?_)|refine zr ?_|exact x_le)
 refine awp_for (fun k=>⟨[(0,.fro (l.map byteT)),(1,.fn (.func g) [] caps),(7,.int .i64 (l.map byteT).length),(8,.int .i64 (k:Int))],[],0,19⟩) (fun k=>k≤l.length∧∀ j y,j<k→l[j]? = some y→p y=false) l.length 0 ?_ ⟨Nat.zero_le _,fun j y h=>absurd h (Nat.not_lt_zero _)⟩ ?_
 ·exact (by exact x_le)
 ·intro k ⟨hk,hp⟩
  simp only [LIM] at hl
  have e0:((l.map byteT).length:Int)=(l.length:Int):=by simp
  by_cases hk2:k<l.length
  ·have e1:(l.map byteT)[k]? = some (byteT l[k]):=by simp [hk2]
   have h1:=h l[k] (List.getElem_mem hk2)
   repeat' (first|refine zt ?_|(refine isR ?_;first|refine zo ?_|refine r_splitB rfl rfl rfl (law_callv (vs:=[_]) rfl (enters hg) (by rfl) h1 (by simp [V.namesL,V.names,hc])) (hT rfl (hT rfl Abs.h0)) (fun hb=>?_) (fun hb=>?_)|refine zA ?_|refine zL ?_|refine zc1 ?_|refine zI ?_)|refine zr ?_|exact x_le)
   ·show V.int .i64 _=V.int .i64 _
    rw [firstI_at hp (List.getElem?_eq_getElem hk2) hb]
   ·refine ⟨⟨by omega,fun j y hj hy=>?_⟩,by omega,?_⟩
    ·rcases Nat.lt_succ_iff_lt_or_eq.1 hj with h1|rfl
     ·exact hp j y h1 hy
     ·rw [List.getElem?_eq_getElem hk2] at hy;cases hy;exact hb
    ·exact (by exact x_le)
  ·skip
   repeat' (first|refine zt ?_|(refine isR ?_;first|refine zo ?_|refine zA ?_|refine zL ?_|refine zc1 ?_|refine zI ?_)|refine zr ?_|exact x_le)
   show V.int .i64 _=V.int .i64 _
   rw [firstI_none fun x hx=>?_]
   obtain ⟨i,hi⟩:=List.mem_iff_getElem?.1 hx
   exact hp i x (by have:=(List.getElem?_eq_some_iff.1 hi).1;omega) hi
theorem contains_b {gl:Glob} {g:Nat} {caps:List V} {p:UInt8→Bool} {l:List UInt8} (hg:hasBody Tryz.prog g=true) (hc:V.namesL caps=[]) (hl:l.length≤LIM) (h:∀ c∈l,ACallsG Tryz.prog gl g ([]++[byteT c]++caps) (.bool (p c))):ACallsG Tryz.prog gl 158 [.fro (l.map byteT),.fn (.func g) [] caps] (.bool (l.any p)):=by
 have hi:=index_b hg hc hl h
 have hn:V.namesL [.fro (l.map byteT),.fn (.func g) [] caps]=[]:=by simp [V.namesL,V.names,hc]
 refine funG2 tb_ok Tryz.func158 rfl Tryz.ntmps158 Tryz.results158 rfl fun N=>?_
 repeat' (first|refine zt ?_|(refine isR ?_;first|refine zo ?_|(refine zs4 ?_ ?_<;>intro hc))|refine zr ?_|exact x_le)
 refine r_val rfl rfl rfl (law_call rfl (enters (by kernel_rfl)) (by rfl) hi hn) (hT rfl (hT rfl Abs.h0)) ?_
 repeat' (first|refine zt ?_|(refine isR ?_;first|refine zo ?_|(refine zs4 ?_ ?_<;>intro hc))|refine zr ?_|exact x_le)
 ·show V.bool _=V.bool _
  rw [firstI_ge.1 (by assumption)]
 ·show V.bool _=V.bool _
  have:¬ (l.any p=true):=fun h=>by have:=firstI_ge.2 h;contradiction
  simp only [Bool.not_eq_true] at this
  rw [this]
end Go.Proofs.YtlfdjpgghiemfaaGreatDoor.FnB
end
