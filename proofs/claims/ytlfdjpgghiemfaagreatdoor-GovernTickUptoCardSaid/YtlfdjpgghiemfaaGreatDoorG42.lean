/- Texts of the proof, joined: ClockO, ClockR, ClockT, ClockI, ClockM, ClockV, DateB. -/
import Derived.Test.YtlfdjpgghiemfaaGreatDoorG41
set_option maxHeartbeats 4000000
set_option maxRecDepth 100000
namespace Go.Proofs.YtlfdjpgghiemfaaGreatDoor
namespace nL
open Go.RowKit jW jI
variable {h s:Int} {w:World} {m y mi d:Int}
theorem ZJ {B:Nat} {W w1:World} (hb:Below B W w1):(∀ b o,b<B→w1.cell? ⟨b,o,none⟩=W.cell? ⟨b,o,none⟩)∧(∀ b o,b<B→w1.frozen? ⟨b,o,none⟩=W.frozen? ⟨b,o,none⟩) :=
 ⟨fun b o h=>hb.cell (p:=⟨b,o,none⟩) h,fun b o h=>hb.frozen (p:=⟨b,o,none⟩) h⟩
def ab8 (y m d h mi s:Int) (v:Value):Prop:=(right y m d h mi s∧v = .tuple #[.int .i64 (mom y m d h mi s),.int .i64 0])∨(¬ right y m d h mi s∧v = .tuple #[.int .i64 0,.int .i64 3])
def LG (y m d h mi s:Int) (w:World) (e:Ending) (w':World):Prop:=∃ v,e = .returned v∧ab8 y m d h mi s v∧Below w.heap.size w w'
def Good (y m d h mi s:Int) (k:Nat):Prop:=(0<k→1601≤y∧y≤9999)∧(1<k→1≤d∧d≤mD y m)∧(2<k→0≤h∧h≤23)∧(3<k→0≤mi∧mi≤59)∧(4<k→0≤s∧s≤59)
theorem MN (g:Good y m d h mi s 5):right y m d h mi s:=by
 obtain ⟨a,b,c,e,f⟩:=g
 have:=a (by omega);have:=b (by omega);have:=c (by omega);have:=e (by omega);have:=f (by omega)
 exact ⟨⟨by omega,by omega,by omega,by omega⟩,by omega,by omega,by omega,by omega,by omega,by omega⟩
theorem Co {w':World} (g:¬ right y m d h mi s) (hb:Below w.heap.size w w'):LG y m d h mi s w (.returned (.tuple #[.int .i64 0,.int .i64 3])) w':=⟨_,rfl,.inr ⟨g,rfl⟩,hb⟩
theorem NF (g:Good y m d h mi s 0) (h2:1601≤y∧y≤9999):Good y m d h mi s 1:=by
 obtain ⟨a,b,c,e,f⟩:=g
 exact ⟨fun _=>h2,fun h=>by omega,fun h=>by omega,fun h=>by omega,fun h=>by omega⟩
theorem adq (h2:¬ (1601≤y∧y≤9999)):¬ right y m d h mi s:=fun hr=>h2 ⟨hr.1.1,hr.1.2.1⟩
theorem MB (g:Good y m d h mi s 1) (h2:1≤d∧d≤mD y m):Good y m d h mi s 2:=by
 obtain ⟨a,b,c,e,f⟩:=g
 exact ⟨fun _=>a (by omega),fun _=>h2,fun h=>by omega,fun h=>by omega,fun h=>by omega⟩
theorem oI (h2:¬ (1≤d∧d≤mD y m)):¬ right y m d h mi s:=fun hr=>h2 ⟨hr.1.2.2.1,hr.1.2.2.2⟩
theorem Nh (g:Good y m d h mi s 2) (h2:0≤h∧h≤23):Good y m d h mi s 3:=by
 obtain ⟨a,b,c,e,f⟩:=g
 exact ⟨fun _=>a (by omega),fun _=>b (by omega),fun _=>h2,fun h=>by omega,fun h=>by omega⟩
theorem adw (h2:¬ (0≤h∧h≤23)):¬ right y m d h mi s:=fun hr=>h2 ⟨hr.2.1,hr.2.2.1⟩
theorem MI (g:Good y m d h mi s 3) (h2:0≤mi∧mi≤59):Good y m d h mi s 4:=by
 obtain ⟨a,b,c,e,f⟩:=g
 exact ⟨fun _=>a (by omega),fun _=>b (by omega),fun _=>c (by omega),fun _=>h2,fun h=>by omega⟩
theorem adp (h2:¬ (0≤mi∧mi≤59)):¬ right y m d h mi s:=fun hr=>h2 ⟨hr.2.2.2.1,hr.2.2.2.2.1⟩
theorem NE (g:Good y m d h mi s 4) (h2:0≤s∧s≤59):Good y m d h mi s 5:=by
 obtain ⟨a,b,c,e,f⟩:=g
 exact ⟨fun _=>a (by omega),fun _=>b (by omega),fun _=>c (by omega),fun _=>e (by omega),fun _=>h2⟩
theorem ady (h2:¬ (0≤s∧s≤59)):¬ right y m d h mi s:=fun hr=>h2 ⟨hr.2.2.2.2.2.1,hr.2.2.2.2.2.2⟩
theorem nX {wr:World} {o:Obj} (hb:Below (w.heap.size+1) (w.alloc o) wr):Below w.heap.size w wr:=((Below.refl _ _).alloc (Nat.le_refl _) _).trans (hb.mono (by omega))
theorem acE (y d:Int):num y 1 d=dby y+d-1:=by unfold num;rw [Uc y 1 (by omega)];omega
theorem Ui (y k d:Int) (h:1≤k) (h2:k≤12):num y (k+1) d=num y k d+mD y k:=by unfold num;rw [BU y k h h2];omega
theorem aaY (hr:right y m d h mi s):1≤y∧y≤20000∧1≤m∧m≤12 ∧ -134774≤dby y∧dby y≤2932897:=by
 have hm:=Zu hr.1
 have a:=wm 1601 y hr.1.1
 have b:=wm y 10000 (by have:=hr.1.2.1;omega)
 rw [FJ] at a;rw [JQ] at b
 have:=hr.1.1;have:=hr.1.2.1
 omega
theorem aa7 (y m d h mi s:Int) (w:World) :
  Calls Tryz.prog 229 #[.agg #[.int .i64 y,.int .i64 m,.int .i64 d,.int .i64 h,.int .i64 mi,.int .i64 s]] w (LG y m d h mi s w):=by
 have ix0:∀ (x0 x1 x2 x3 x4 x5 x6 x7 x8 x9 x10 x11 x12 x13 x14:Value) (W:World),(Instr.index 303 (.agg #[x0,x1,x2,x3,x4,x5,x6,x7,x8,x9,x10,x11,x12,x13,x14]) (.int .i64 0)).run Tryz.prog W = .ok (.agg #[x0,x1,x2]) W:=fun _ _ _ _ _ _ _ _ _ _ _ _ _ _ _ _=>by kernel_rfl
 have ix1:∀ (x0 x1 x2 x3 x4 x5 x6 x7 x8 x9 x10 x11 x12 x13 x14:Value) (W:World),(Instr.index 303 (.agg #[x0,x1,x2,x3,x4,x5,x6,x7,x8,x9,x10,x11,x12,x13,x14]) (.int .i64 1)).run Tryz.prog W = .ok (.agg #[x3,x4,x5]) W:=fun _ _ _ _ _ _ _ _ _ _ _ _ _ _ _ _=>by kernel_rfl
 have ix2:∀ (x0 x1 x2 x3 x4 x5 x6 x7 x8 x9 x10 x11 x12 x13 x14:Value) (W:World),(Instr.index 303 (.agg #[x0,x1,x2,x3,x4,x5,x6,x7,x8,x9,x10,x11,x12,x13,x14]) (.int .i64 2)).run Tryz.prog W = .ok (.agg #[x6,x7,x8]) W:=fun _ _ _ _ _ _ _ _ _ _ _ _ _ _ _ _=>by kernel_rfl
 have ix3:∀ (x0 x1 x2 x3 x4 x5 x6 x7 x8 x9 x10 x11 x12 x13 x14:Value) (W:World),(Instr.index 303 (.agg #[x0,x1,x2,x3,x4,x5,x6,x7,x8,x9,x10,x11,x12,x13,x14]) (.int .i64 3)).run Tryz.prog W = .ok (.agg #[x9,x10,x11]) W:=fun _ _ _ _ _ _ _ _ _ _ _ _ _ _ _ _=>by kernel_rfl
 have ix4:∀ (x0 x1 x2 x3 x4 x5 x6 x7 x8 x9 x10 x11 x12 x13 x14:Value) (W:World),(Instr.index 303 (.agg #[x0,x1,x2,x3,x4,x5,x6,x7,x8,x9,x10,x11,x12,x13,x14]) (.int .i64 4)).run Tryz.prog W = .ok (.agg #[x12,x13,x14]) W:=fun _ _ _ _ _ _ _ _ _ _ _ _ _ _ _ _=>by kernel_rfl
 go_enter Tryz.func229,Tryz.ntmps229
 go_wp2_with fail
 go_quiet ((go_at_call 251;exact Calls.quiet_of_same ((DK _ _ _).mono (fun _ _ ⟨a,b⟩=>⟨a,b.symm⟩))))
 go_wp2_with fail
 go_loopw [29] (fun i wr=>∃ k:Nat,k≤5∧i = .int .i64 k∧Good y m d h mi s k∧Below (w.heap.size+1) (w.alloc (.cells #[.int .i64 y,.int .i64 m,.int .i64 d,.int .i64 h,.int .i64 mi,.int .i64 s] 274)) wr) (fun i _=>5-(intOf i).toNat)
 case atStart=>exact ⟨0,by omega,rfl,⟨by omega,by omega,by omega,by omega,by omega⟩,⟨rfl,rfl,rfl,by simp,fun _ _=>rfl⟩⟩
 case round =>
  obtain ⟨k,hk,rfl,hg,hb⟩:=hrel
  obtain ⟨hc,hf⟩:=ZJ hb
  have hsz:w.heap.size+1≤wr.heap.size:=by have:=hb.size;simpa using this
  have G:=Lib.hid hg
  have hcase:k=0∨k=1∨k=2∨k=3∨k=4∨k=5:=by omega
  clear hg hk
  rcases hcase with rfl|rfl|rfl|rfl|rfl|rfl
  ·by_cases hgood:1601≤y∧y≤9999
   ·have hg1:Good y m d h mi s 1:=NF G.out hgood
    have G1:=Lib.hid hg1;clear hg1
    obtain ⟨hgl,hgr⟩:=hgood
    go_wp2_with fail
    go_roundw
    case rel=>exact ⟨1,by omega,rfl,G1.out,hb.alloc hsz _⟩
    case measure=>simp [intOf]
   ·have hno:¬ right y m d h mi s:=adq hgood
    have NO:=Lib.hid hno;clear hno
    by_cases hlo:1601≤y
    all_goals
     go_wp2_with fail
     go_ret2
     exact Co NO.out (nX (hb.alloc hsz _))
  ·by_cases hgood:1≤d∧d≤mD y m
   ·have hg1:Good y m d h mi s 2:=MB G.out hgood
    have G1:=Lib.hid hg1;clear hg1
    obtain ⟨hgl,hgr⟩:=hgood
    go_wp2_with fail
    go_roundw
    case rel=>exact ⟨2,by omega,rfl,G1.out,hb.alloc hsz _⟩
    case measure=>simp [intOf]
   ·have hno:¬ right y m d h mi s:=oI hgood
    have NO:=Lib.hid hno;clear hno
    by_cases hlo:1≤d
    all_goals
     go_wp2_with fail
     go_ret2
     exact Co NO.out (nX (hb.alloc hsz _))
  ·by_cases hgood:0≤h∧h≤23
   ·have hg1:Good y m d h mi s 3:=Nh G.out hgood
    have G1:=Lib.hid hg1;clear hg1
    obtain ⟨hgl,hgr⟩:=hgood
    go_wp2_with fail
    go_roundw
    case rel=>exact ⟨3,by omega,rfl,G1.out,hb.alloc hsz _⟩
    case measure=>simp [intOf]
   ·have hno:¬ right y m d h mi s:=adw hgood
    have NO:=Lib.hid hno;clear hno
    by_cases hlo:0≤h
    all_goals
     go_wp2_with fail
     go_ret2
     exact Co NO.out (nX (hb.alloc hsz _))
  ·by_cases hgood:0≤mi∧mi≤59
   ·have hg1:Good y m d h mi s 4:=MI G.out hgood
    have G1:=Lib.hid hg1;clear hg1
    obtain ⟨hgl,hgr⟩:=hgood
    go_wp2_with fail
    go_roundw
    case rel=>exact ⟨4,by omega,rfl,G1.out,hb.alloc hsz _⟩
    case measure=>simp [intOf]
   ·have hno:¬ right y m d h mi s:=adp hgood
    have NO:=Lib.hid hno;clear hno
    by_cases hlo:0≤mi
    all_goals
     go_wp2_with fail
     go_ret2
     exact Co NO.out (nX (hb.alloc hsz _))
  ·by_cases hgood:0≤s∧s≤59
   ·have hg1:Good y m d h mi s 5:=NE G.out hgood
    have G1:=Lib.hid hg1;clear hg1
    obtain ⟨hgl,hgr⟩:=hgood
    go_wp2_with fail
    go_roundw
    case rel=>exact ⟨5,by omega,rfl,G1.out,hb.alloc hsz _⟩
    case measure=>simp [intOf]
   ·have hno:¬ right y m d h mi s:=ady hgood
    have NO:=Lib.hid hno;clear hno
    by_cases hlo:0≤s
    all_goals
     go_wp2_with fail
     go_ret2
     exact Co NO.out (nX (hb.alloc hsz _))
  ·have hr:=MN G.out
   obtain ⟨e1,e2,e3,e4,e5,e6⟩:=aaY hr
   have e7:1≤d∧d≤31:=by have:=Ho y m;have:=hr.1.2.2;omega
   have e8:0≤h∧h≤23∧0≤mi∧mi≤59∧0≤s∧s≤59:=by obtain ⟨_,h⟩:=hr;omega
   have HR:=Lib.hid hr;clear hr
   obtain ⟨wo,rfl⟩:∃ wo:World,wo=wr:=⟨_,rfl⟩
   go_wp2_with fail
   go_quiet ((go_at_call 252;exact Calls.quiet_of_same ((Np _ _ e1 e2).mono (fun _ _ ⟨a,b⟩=>⟨a,b.symm⟩))))
   go_wp2_with fail
   go_loopw [6,7] (fun t i wr=>∃ k:Int,1≤k∧k≤m∧i = .int .i64 k∧t = .int .i64 (num y k d)∧Below (w.heap.size+1) (w.alloc (.cells #[.int .i64 y,.int .i64 m,.int .i64 d,.int .i64 h,.int .i64 mi,.int .i64 s] 274)) wr) (fun _ i _=>(m-intOf i).toNat)
   case atStart=>exact ⟨1,by omega,by omega,rfl,by rw [acE],⟨hb.os,hb.tape,hb.output,hb.size,hb.block⟩⟩
   case round =>
    obtain ⟨k,hk1,hk2,rfl,rfl,hb2⟩:=hrel
    obtain ⟨hc2,hf2⟩:=ZJ hb2
    have hsz2:w.heap.size+1≤wr.heap.size:=by have:=hb2.size;simpa using this
    have n1 : -134774≤num y k d∧num y k d≤2934000:=by have:=TL y k (by omega);unfold num;omega
    have n2:=Ui y k d hk1 (by omega)
    have n3:=Ho y k
    have N2:=Lib.hid n2;clear n2
    clear hc hf
    by_cases hlt:k<m
    ·go_wp2_with (go_at_call 251;refine (DK _ _ _).mono ?_;rintro e w' ⟨rfl,rfl⟩)
     go_roundw
     case rel =>
      repeat apply Exists.intro
      exact ⟨⟨k+1,by omega,by omega,rfl,by rw [N2.out],hb2⟩,rfl⟩
     case measure=>simp [intOf];omega
    ·obtain rfl:k=m:=by omega
     go_wp2_with fail
     go_ret2
     exact ⟨_,rfl,.inl ⟨HR.out,rfl⟩,nX hb2⟩
end nL
namespace MR
open Go.RowKit jW jI nL
end MR
namespace N8
open Go.RowKit jW jI nL
end N8
namespace Sc
open Go.RowKit jW jI nL N8
end Sc
namespace Vv
open Go.RowKit jW jI nL MR
end Vv
namespace yR
open Go.RowKit Mem Abs bP jW jI nL MR Vv N8 Sc
variable {h s:Int} {w:World} {m y mi d:Int} {X:Nat→Prop}
abbrev Sr (y m d h mi s:Int):Abs.V:=.agg [.int .i64 y,.int .i64 m,.int .i64 d,.int .i64 h,.int .i64 mi,.int .i64 s]
open Classical in
noncomputable def ofF (y m d h mi s:Int):Int × Int:=if right y m d h mi s then (mom y m d h mi s,0) else (0,3)
theorem Po (hr:right y m d h mi s):ofF y m d h mi s=(mom y m d h mi s,0):=if_pos hr
theorem R3 (hr:¬ right y m d h mi s):ofF y m d h mi s=(0,3):=if_neg hr
theorem Xv {x:Value} (hx:Fz X w (Sr y m d h mi s) x):x = .agg #[.int .i64 y,.int .i64 m,.int .i64 d,.int .i64 h,.int .i64 mi,.int .i64 s]:=by
 obtain ⟨cs,rfl,hl,hc⟩:=aaP hx
 obtain ⟨cs⟩:=cs
 match cs,hl with
 | [c0,c1,c2,c3,c4,c5],_ =>
  obtain ⟨rfl,_⟩:=kL (hc 0 _ c0 rfl rfl)
  obtain ⟨rfl,_⟩:=kL (hc 1 _ c1 rfl rfl)
  obtain ⟨rfl,_⟩:=kL (hc 2 _ c2 rfl rfl)
  obtain ⟨rfl,_⟩:=kL (hc 3 _ c3 rfl rfl)
  obtain ⟨rfl,_⟩:=kL (hc 4 _ c4 rfl rfl)
  obtain ⟨rfl,_⟩:=kL (hc 5 _ c5 rfl rfl)
  rfl
theorem BF {a b:Int} (ha:InR .i64 a) (hb:InR .i64 b):Fz X w (.tup [.int .i64 a,.int .i64 b]) (.tuple #[.int .i64 a,.int .i64 b]):=by
 refine .tup rfl fun i x c hx hc=>?_
 rcases i with _|_|i
 ·simp at hx hc;subst hx hc;exact .int ha
 ·simp at hx hc;subst hx hc;exact .int hb
 ·simp at hx
theorem aaz (y m d h mi s:Int):InR .i64 (ofF y m d h mi s).1∧InR .i64 (ofF y m d h mi s).2:=by
 by_cases hr:right y m d h mi s
 ·rw [Po hr]
  have:=Z5 hr
  exact ⟨⟨by simp only [rng];omega,by simp only [rng];omega⟩,oo _⟩
 ·rw [R3 hr]
  exact ⟨oo _,⟨by decide,by decide⟩⟩
theorem WZ {f:FuncId} (hc:∀ w,Calls Tryz.prog f #[.agg #[.int .i64 y,.int .i64 m,.int .i64 d,.int .i64 h,.int .i64 mi,.int .i64 s]] w (LG y m d h mi s w)):aj Tryz.prog f [Sr y m d h mi s] (.tup [.int .i64 (ofF y m d h mi s).1,.int .i64 (ofF y m d h mi s).2]):=fun g N w vs hG hN hlen hv=>by
 obtain ⟨vs⟩:=vs
 match vs,hlen with
 | [x0],_ =>
  have:=Xv (hv 0 _ x0 rfl rfl)
  subst this
  obtain ⟨r1,r2⟩:=aaz y m d h mi s
  refine (hc w).mono fun e w' ⟨v,he,ha,hb⟩=>⟨v,he,hb,?_⟩
  rcases ha with ⟨hr,rfl⟩|⟨hr,rfl⟩
  ·rw [Po hr] at r1 r2 ⊢;exact BF r1 r2
  ·rw [R3 hr] at r1 r2 ⊢;exact BF r1 r2
theorem adu:aj Tryz.prog 229 [Sr y m d h mi s] (.tup [.int .i64 (ofF y m d h mi s).1,.int .i64 (ofF y m d h mi s).2]):=WZ fun w=>aa7 y m d h mi s w
structure TM where
 y:Int
 m:Int
 d:Int
 h:Int
 mi:Int
 s:Int
theorem OO {n:Int}:isB n=true ↔ -11644473600≤n∧n≤253402300799:=by unfold isB;simp
end yR
section
namespace Nw
open Go.RowKit Mem Abs bP bR cZ dh iM iZ eB sj vF pO Cc IZ Lf MZ
variable {s:List UInt8} {k:Nat}
def byF (s:List UInt8) (k:Nat):List UInt8:=(s.take k).map eH++List.replicate (s.length-k) 0
theorem by0 (s:List UInt8):byF s 0=List.replicate s.length 0:=by simp [byF]
theorem abD (s:List UInt8) (k:Nat) (hk:k≤s.length):(byF s k).length=s.length:=by simp [byF];omega
theorem acd (hk:k<s.length):(byF s k)[k]? = some 0:=by
 unfold byF
 rw [List.getElem?_append_right (by simp;omega)]
 have:(List.map eH (s.take k)).length=k:=by simp;omega
 rw [this,Nat.sub_self,List.getElem?_replicate,if_pos (by omega)]
theorem acJ {c:UInt8} (h:s[k]? = some c):byF s (k+1)=(byF s k).set k (eH c):=by
 obtain ⟨hk,rfl⟩:=List.getElem?_eq_some_iff.1 h
 unfold byF
 have hl:(List.map eH (s.take k)).length=k:=by simp;omega
 rw [List.take_succ_eq_append_getElem hk,List.map_append,List.set_append_right _ _ (by omega),hl,Nat.sub_self]
 have:s.length-k=(s.length-(k+1))+1:=by omega
 rw [this,List.replicate_succ,List.set_cons_zero]
 simp
theorem abl (s:List UInt8):byF s s.length=s.map eH:=by simp [byF]
theorem UH (c:UInt8):(eH c).toNat<128:=by
 unfold eH
 split
 ·decide
 ·omega
theorem WB (hs:s.length≤400):aj Tryz.prog 226 [au s] (au (s.map eH)):=by
 have hx:((s.map bB).length:Int)=(s.length:Int):=by simp
 have h0:=by0 s
 have hon:=fun k c=>acJ (s:=s) (k:=k) (c:=c)
 have hat:=fun k=>acd (s:=s) (k:=k)
 have hlen:=abD s
 have hend:=abl s
 have hlow:∀ b∈s.map eH,b.toNat<128:=fun b hb=>by
  obtain ⟨c,_,rfl⟩:=List.mem_map.1 hb
  exact UH c
 generalize hL:byF s=L at *
 refine aW af Tryz.func226 rfl Tryz.ntmps226 Tryz.results226 rfl fun N=>?_
 repeat' (first|refine zV ?_|(refine isR ?_;refine UX uO 0 s.length af ?_)|refine zW ?_|exact ai)
 refine bM (fun k=>⟨[(3,.own 0 0 (L k).length),(10,.fro (s.map bB)),(11,.int .i64 (s.map bB).length),(12,.int .i64 (k:Int))],[(0,some (.els 21 1 ((L k).map uO)))],1,30⟩) (fun k=>k≤s.length) s.length 0 (by simp only [h0,List.length_replicate];exact (by exact ai)) (Nat.zero_le _) ?_
 intro k hk
 have hlk:=hlen k hk
 by_cases hk2:k<s.length
 ·have e1:(s.map bB)[k]? = some (bB s[k]):=by simp [hk2]
  have e2:=hon k s[k] (by simp [hk2])
  have e3:=hat k hk2
  simp only [e2,List.length_set]
  generalize s[k]=c at *
  generalize L k=p at *
  have hc:=c.toNat_lt
  have hcv:IntKind.i32.wrap (c.toNat:Int)=(c.toNat:Int):=by simp only [IntKind.wrap,IntKind.bits,IntKind.signed];simp;omega
  have e4:(p.set k c)[k]? = some c:=List.getElem?_set_self (by omega)
  by_cases h126:126<c.toNat
  ·have e5:(p.set k c).set k 122=p.set k 122:=List.set_set ..
   rw [show eH c=122 by unfold eH;rw [if_pos h126]]
   repeat' (first|refine zV ?_|(refine isR ?_;first|refine mZ .i32 af ?_|refine jY uO (a1:=122) k af ?_|refine jY uO (a1:=c) k af ?_)|refine zW ?_|exact ai)
   refine ⟨by omega,hk2,?_⟩
   rw [← e5]
   exact (by exact ai)
  ·rw [show eH c=c by unfold eH;rw [if_neg h126]]
   repeat' (first|refine zV ?_|(refine isR ?_;first|refine mZ .i32 af ?_|refine jY uO (a1:=c) k af ?_)|refine zW ?_|exact ai)
   refine ⟨by omega,hk2,?_⟩
   exact (by exact ai)
 ·obtain rfl:k=s.length:=by omega
  rw [hend]
  have hml:(s.map eH).length=s.length:=by simp
  repeat' (first|refine zV ?_|(refine isR ?_;refine X3 af ?_)|refine zW ?_|exact ai)
  rfl
end Nw
namespace VE
open Go.RowKit Mem Abs bP bR cZ dh iM iZ eB sj vF pO Cc IZ Nw Lf MZ
variable {j a k:Nat} {l:List UInt8} {st:Int} {A:List (Nat × Nat)} {c:UInt8}
def piece (l:List UInt8) (p:Nat × Nat):List UInt8:=(l.take p.2).drop p.1
abbrev qA (p:Nat × Nat):Abs.V:=.agg [.int .i64 (p.1:Int),.int .i64 (p.2:Int)]
def iO (l:List UInt8) (A:List (Nat × Nat)) (j:Nat):List (List UInt8):=(A.take j).map (piece l)++List.replicate (A.length-j) []
theorem aci (l:List UInt8) (A:List (Nat × Nat)):iO l A 0=List.replicate A.length []:=by simp [iO]
theorem O7 (hj:j≤A.length):(iO l A j).length=A.length:=by simp [iO];omega
theorem SG (hj:j<A.length):(iO l A j)[j]? = some []:=by
 unfold iO
 have hl:(List.map (piece l) (A.take j)).length=j:=by simp;omega
 rw [List.getElem?_append_right (by omega),hl,Nat.sub_self,List.getElem?_replicate,if_pos (by omega)]
theorem VA {q:Nat × Nat} (h:A[j]? = some q):iO l A (j+1)=(iO l A j).set j (piece l q):=by
 obtain ⟨hj,rfl⟩:=List.getElem?_eq_some_iff.1 h
 unfold iO
 have hl:(List.map (piece l) (A.take j)).length=j:=by simp;omega
 rw [List.take_succ_eq_append_getElem hj,List.map_append,List.set_append_right _ _ (by omega),hl,Nat.sub_self]
 have:A.length-j=(A.length-(j+1))+1:=by omega
 rw [this,List.replicate_succ,List.set_cons_zero]
 simp
theorem OU (l:List UInt8) (A:List (Nat × Nat)):iO l A A.length=A.map (piece l):=by simp [iO]
theorem Dx (h:l[k]? = some c) (ha:a≤k):piece l (a,k)++[c]=piece l (a,k+1):=by
 obtain ⟨hk,rfl⟩:=List.getElem?_eq_some_iff.1 h
 unfold piece
 dsimp only
 rw [List.take_succ_eq_append_getElem hk,List.drop_append_of_le_length (by simp;omega)]
theorem piece_nil (l:List UInt8) (k:Nat):piece l (k,k)=[]:=by
 unfold piece
 exact List.drop_eq_nil_of_le (by simp;omega)
structure Walk (l:List UInt8) (k:Nat) (A:List (Nat × Nat)) (st:Int):Prop where
 le:k≤l.length
 ok:∀ q∈A,q.1≤q.2∧q.2≤l.length
 rest:(st<0 ∧ -9223372036854775808≤st∧jg l=A.map (piece l)++gu [] (l.drop k))∨(∃ a:Nat,st=a∧a<k∧jg l=A.map (piece l)++gu (piece l (a,k)) (l.drop k))
theorem piece_ne (h:a<k) (hk:k≤l.length):piece l (a,k)≠[]:=by
 intro e
 have:=congrArg List.length e
 unfold piece at this
 simp at this;omega
theorem drop_cons (h:l[k]? = some c):l.drop k=c::l.drop (k+1):=by
 obtain ⟨hk,rfl⟩:=List.getElem?_eq_some_iff.1 h
 exact List.drop_eq_getElem_cons hk
theorem Walk.abJ (hl:l.length≤400) (h:Walk l k A (a:Int)) (hc:l[k]? = some c) (hs:zZ c=true):Walk l (k+1) (A++[(a,k)]) (-1-(a:Int)):=by
 have hk:=(List.getElem?_eq_some_iff.1 hc).1
 have hle:=h.le
 rcases h.rest with ⟨h1,_⟩|⟨b,h1,h2,h3⟩
 ·omega
 obtain rfl:a=b:=by omega
 refine ⟨by omega,fun q hq=>?_,.inl ⟨by omega,by omega,?_⟩⟩
 ·rcases List.mem_append.1 hq with hq|hq
  ·exact h.ok q hq
  ·rw [List.mem_singleton] at hq;subst hq;exact ⟨by show a≤k;omega,by show k≤l.length;omega⟩
 ·rw [h3,drop_cons hc,gu,if_pos hs,if_neg (piece_ne h2 h.le),List.map_append,List.append_assoc];rfl
theorem Walk.WJ (h:Walk l k A st) (h0:st<0) (hc:l[k]? = some c) (hs:zZ c=true):Walk l (k+1) A st:=by
 have hk:=(List.getElem?_eq_some_iff.1 hc).1
 rcases h.rest with ⟨h1,h2,h3⟩|⟨b,h1,_⟩
 ·refine ⟨by omega,h.ok,.inl ⟨h1,h2,?_⟩⟩
  rw [h3,drop_cons hc,gu,if_pos hs,if_pos rfl]
 ·omega
theorem Walk.acj (h:Walk l k A (a:Int)) (hc:l[k]? = some c) (hs:zZ c=false):Walk l (k+1) A (a:Int):=by
 have hk:=(List.getElem?_eq_some_iff.1 hc).1
 rcases h.rest with ⟨h1,_⟩|⟨b,h1,h2,h3⟩
 ·omega
 obtain rfl:a=b:=by omega
 refine ⟨by omega,h.ok,.inr ⟨a,rfl,by omega,?_⟩⟩
 rw [h3,drop_cons hc,gu,if_neg (by simp [hs]),Dx hc (by omega)]
theorem Walk.aaf (h:Walk l k A st) (h0:st<0) (hc:l[k]? = some c) (hs:zZ c=false):Walk l (k+1) A (k:Int):=by
 have hk:=(List.getElem?_eq_some_iff.1 hc).1
 rcases h.rest with ⟨h1,h2,h3⟩|⟨b,h1,_⟩
 ·refine ⟨by omega,h.ok,.inr ⟨k,rfl,by omega,?_⟩⟩
  rw [h3,drop_cons hc,gu,if_neg (by simp [hs]),← Dx hc (Nat.le_refl k),piece_nil]
 ·omega
theorem acV (l:List UInt8):Walk l 0 [] (-1):=⟨Nat.zero_le _,fun q hq=>(by cases hq),.inl ⟨by omega,by omega,rfl⟩⟩
theorem UZ (hl:l.length≤400) (hlow:∀ b∈l,b.toNat<128):aj Tryz.prog 225 [au l,.fn (.func 227) [] []] (yh (jg l)):=by
 have hsz:(str l).size=l.length:=aM l
 refine aX af Tryz.func225 rfl Tryz.ntmps225 Tryz.results225 rfl fun N=>?_
 repeat' (first|refine zV ?_|(refine isR ?_;first|refine acD qA 32 af ?_|refine GQ af ?_)|refine zW ?_|exact ai)
 refine p8 (α:=Nat × List (Nat × Nat) × Int) (fun x=>⟨[(0,au l),(1,.fn (.func 227) [] []),(5,.own 0 0 x.2.1.length),(6,.int .i64 x.2.2),(14,.loc 1 0 0)],[(0,some (.els 298 2 (x.2.1.map qA))),(1,some (.sit (str l) x.1))],2,65⟩) (fun x=>Walk l x.1 x.2.1 x.2.2∧x.2.1.length≤x.1) (fun x=>l.length-x.1) (0,[],-1) ?h0 ⟨acV l,Nat.le_refl _⟩ ?_
 case h0=>exact (by exact ai)
 rintro ⟨k,A,st⟩ ⟨hW,hAk⟩
 dsimp only at hW hAk ⊢
 have hle:=hW.le
 by_cases hk2:k<l.length
 ·have e1:l[k]? = some l[k]:=by simp [hk2]
  obtain ⟨c,wd,hdec,d1,d2,d3,hcase⟩:=GA l k hk2
  have hps:k<(str l).size:=by rw [hsz];exact hk2
  rcases hcase with ⟨b,g1,g2,g3,g4⟩|⟨_,g2⟩
  ·subst g4
   have hw:k+1≤dS:=by simp only [dS];omega
   have c1:=tO (n:=(c:Int))
   have hsep:VZ (c:Int)=zZ b:=by unfold zZ;rw [g3]
   rw [hsep] at c1
   have hfr : -9223372036854775808≤st∧st≤9223372036854775807:=by
    rcases hW.rest with ⟨h1,h2,_⟩|⟨a,h1,h2,_⟩<;>omega
   cases hs:zZ b with
   | true =>
    rw [hs] at c1
    by_cases h0:0≤st
    ·obtain ⟨a,rfl⟩:=Int.eq_ofNat_of_zero_le h0
     have hW2:=hW.abJ hl g1 hs
     repeat' (first|refine zV ?_|(refine isR ?_;first|refine nM _ _ ?_|refine ak (c1 _) ?_|refine ak (c1) ?_|refine kr qA (a1:=((a,k))) af ?_|refine ac1 ?_)|refine zW ?_|exact ai)
     refine ⟨(k+1,A++[(a,k)],-1-(a:Int)),⟨hW2,by simp;omega⟩,by show l.length-(k+1)<l.length-k;omega,?_⟩
     exact (by exact x_len [2,1])
    ·have hW2:=hW.WJ (by omega) g1 hs
     repeat' (first|refine zV ?_|(refine isR ?_;first|refine nM _ _ ?_|refine ak (c1 _) ?_|refine ak (c1) ?_)|refine zW ?_|exact ai)
     refine ⟨(k+1,A,st),⟨hW2,by show A.length≤k+1;omega⟩,by show l.length-(k+1)<l.length-k;omega,?_⟩
     exact (by exact x_len [0,1])
   | false =>
    rw [hs] at c1
    by_cases h0:st<0
    ·have hW2:=hW.aaf h0 g1 hs
     repeat' (first|refine zV ?_|(refine isR ?_;first|refine nM _ _ ?_|refine ak (c1 _) ?_|refine ak (c1) ?_)|refine zW ?_|exact ai)
     refine ⟨(k+1,A,(k:Int)),⟨hW2,by show A.length≤k+1;omega⟩,by show l.length-(k+1)<l.length-k;omega,?_⟩
     exact (by exact x_len [0,1])
    ·obtain ⟨a,rfl⟩:=Int.eq_ofNat_of_zero_le (show 0≤st by omega)
     have hW2:=hW.acj g1 hs
     repeat' (first|refine zV ?_|(refine isR ?_;first|refine nM _ _ ?_|refine ak (c1 _) ?_|refine ak (c1) ?_)|refine zW ?_|exact ai)
     refine ⟨(k+1,A,(a:Int)),⟨hW2,by show A.length≤k+1;omega⟩,by show l.length-(k+1)<l.length-k;omega,?_⟩
     exact (by exact x_len [0,1])
  ·exfalso
   obtain ⟨b,f1,f2⟩:=g2 k (Nat.le_refl _) (by omega)
   have:=hlow b (List.mem_of_getElem? f1)
   omega
 ·have hps:¬ k<(str l).size:=by rw [hsz];exact hk2
  obtain rfl:k=l.length:=by omega
  rcases hW.rest with ⟨h1,_,h3⟩|⟨a,rfl,h2,h3⟩
  ·have hw:A.map (piece l)=jg l:=by rw [h3,List.drop_length,gu,if_pos rfl,List.append_nil]
   have hok:=hW.ok
   repeat' (first|refine zV ?_|(refine isR ?_;first|refine Ar ?_|refine UX au [] A.length af ?_)|refine zW ?_|exact ai)
   refine bM (fun j=>⟨[(0,au l),(5,.own 0 0 A.length),(9,.own 2 0 (iO l A j).length),(47,.own 0 0 A.length),(48,.int .i64 A.length),(49,.int .i64 (j:Int))],[(0,some (.els 298 2 (A.map qA))),(2,some (.els 9 1 ((iO l A j).map au)))],3,65⟩) (fun j=>j≤A.length) A.length 0 (by simp only [aci,List.length_replicate];exact (by exact ai)) (Nat.zero_le _) ?_
   intro j hj
   by_cases hj2:j<A.length
   ·have f1:A[j]? = some A[j]:=by simp [hj2]
    have f2:=VA (l:=l) f1
    have f3:=SG (l:=l) hj2
    have f4:=hok A[j] (List.getElem_mem hj2)
    have f5:=O7 (l:=l) (A:=A) (j:=j) hj
    simp only [f2,List.length_set]
    generalize A[j]=q at *
    obtain ⟨qa,qb⟩:=q
    dsimp only at f4
    have f6:(A.map qA)[j]? = some (qA (qa,qb)):=by rw [List.getElem?_map,f1];rfl
    generalize iO l A j=O at *
    repeat' (first|refine zV ?_|(refine isR ?_;first|refine cO qA j af ?_|refine jY au (a1:=piece l (qa,qb)) j af ?_)|refine zW ?_|exact ai)
    refine ⟨by omega,hj2,?_⟩
    exact (by exact ai)
   ·obtain rfl:j=A.length:=by omega
    rw [OU]
    rw [hw]
    repeat' (first|refine zW ?_|exact ai)
    show V.fro (List.take (jg l).length (List.drop 0 ((jg l).map au)))=_
    rw [List.drop_zero,List.take_of_length_le (by simp)]
  ·have hw:(A++[(a,l.length)]).map (piece l)=jg l:=by
    rw [h3,List.drop_length,gu,if_neg (piece_ne h2 (Nat.le_refl _)),List.map_append];rfl
   have hok:∀ q∈A++[(a,l.length)],q.1≤q.2∧q.2≤l.length:=fun q hq=>by
    rcases List.mem_append.1 hq with hq|hq
    ·exact hW.ok q hq
    ·rw [List.mem_singleton] at hq;subst hq;exact ⟨by show a≤l.length;omega,Nat.le_refl _⟩
   have hal:(A++[(a,l.length)]).length≤401:=by simp;omega
   generalize hA:A++[(a,l.length)]=A2 at *
   repeat' (first|refine zV ?_|(refine isR ?_;first|refine Ar ?_|refine kr qA (a1:=((a,l.length))) af ?_)|refine zW ?_|exact ai)
   rw [hA]
   repeat' (first|refine zV ?_|(refine isR ?_;refine UX au [] A2.length af ?_)|refine zW ?_|exact ai)
   refine bM (fun j=>⟨[(0,au l),(5,.own 2 0 A2.length),(9,.own 3 0 (iO l A2 j).length),(47,.own 2 0 A2.length),(48,.int .i64 A2.length),(49,.int .i64 (j:Int))],[(2,some (.els 298 2 (A2.map qA))),(3,some (.els 9 1 ((iO l A2 j).map au)))],4,65⟩) (fun j=>j≤A2.length) A2.length 0 (by simp only [aci,List.length_replicate];exact (by exact ai)) (Nat.zero_le _) ?_
   intro j hj
   by_cases hj2:j<A2.length
   ·have f1:A2[j]? = some A2[j]:=by simp [hj2]
    have f2:=VA (l:=l) f1
    have f3:=SG (l:=l) hj2
    have f4:=hok A2[j] (List.getElem_mem hj2)
    have f5:=O7 (l:=l) (A:=A2) (j:=j) hj
    simp only [f2,List.length_set]
    generalize A2[j]=q at *
    obtain ⟨qa,qb⟩:=q
    dsimp only at f4
    have f6:(A2.map qA)[j]? = some (qA (qa,qb)):=by rw [List.getElem?_map,f1];rfl
    generalize iO l A2 j=O at *
    repeat' (first|refine zV ?_|(refine isR ?_;first|refine cO qA j af ?_|refine jY au (a1:=piece l (qa,qb)) j af ?_)|refine zW ?_|exact ai)
    refine ⟨by omega,hj2,?_⟩
    exact (by exact ai)
   ·obtain rfl:j=A2.length:=by omega
    rw [OU]
    rw [hw]
    repeat' (first|refine zW ?_|exact ai)
    show V.fro (List.take (jg l).length (List.drop 0 ((jg l).map au)))=_
    rw [List.drop_zero,List.take_of_length_le (by simp)]
end VE
namespace Cz
open Go.RowKit Mem Abs bP bR cZ dh iM iZ eB sj vF pO Cc IZ Nw VE Lf jW yR
variable {c:UInt8}
theorem Bb (h:c.toNat≤126):eH c=c:=by unfold eH;rw [if_neg (by omega)]
theorem Ir (h:¬ c.toNat≤126):eH c=122:=by unfold eH;rw [if_pos (by omega)]
theorem Zl (c:UInt8):zZ (eH c)=zZ c:=by
 by_cases h:c.toNat≤126
 ·rw [Bb h]
 ·rw [Ir h]
  unfold zZ VZ
  have e:((122:UInt8).toNat:Int)=122:=rfl
  rw [e]
  have h2:(126:Int)<(c.toNat:Int):=by omega
  rw [Bool.eq_iff_iff]
  simp only [Bool.or_eq_true,Bool.and_eq_true,decide_eq_true_eq]
  omega
theorem Xi (c:UInt8):gU (eH c)=gU c:=by
 by_cases h:c.toNat≤126
 ·rw [Bb h]
 ·rw [Ir h,Bool.eq_iff_iff]
  unfold gU
  simp only [Bool.and_eq_true,decide_eq_true_eq]
  have e:(122:UInt8).toNat=122:=rfl
  rw [e];omega
theorem Vn {d:UInt8} (hd:d.toNat≤121):eH c=d↔c=d:=by
 by_cases h:c.toNat≤126
 ·rw [Bb h]
 ·rw [Ir h]
  constructor
  ·intro e
   rw [← e] at hd;exact absurd hd (by decide)
  ·intro e
   rw [e] at h;omega
theorem tJ:∀ (l cur:List UInt8),gu (cur.map eH) (l.map eH)=(gu cur l).map (List.map eH)
 | [],cur=>by
  simp only [List.map_nil,gu]
  by_cases h:cur=[]
  ·subst h;rfl
  ·rw [if_neg (by simpa using h),if_neg h];rfl
 | c::r,cur=>by
  simp only [List.map_cons,gu,Zl]
  by_cases hs:zZ c=true
  ·rw [if_pos hs,if_pos hs]
   by_cases h:cur=[]
   ·subst h
    rw [List.map_nil,if_pos rfl,if_pos rfl]
    exact tJ r []
   ·rw [if_neg (by simpa using h),if_neg h,List.map_cons]
    rw [← tJ r []];rfl
  ·rw [if_neg hs,if_neg hs]
   have:=tJ r (cur++[c])
   rw [List.map_append] at this
   exact this
theorem Wj (w:List UInt8):lead (w.map eH)=lead w:=by
 unfold lead
 induction w with
 | nil=>rfl
 | cons c r ih =>
  rw [List.map_cons,List.takeWhile_cons,List.takeWhile_cons,Xi]
  split
  ·rename_i h
   have hc:c.toNat≤126:=by unfold gU at h;simp at h;omega
   rw [ih,Bb hc]
  ·rfl
theorem PD (w:List UInt8) (lo hi:Nat):bK (w.map eH) lo hi=((bK w lo hi).1,(bK w lo hi).2.1.map eH,(bK w lo hi).2.2):=by
 unfold bK
 rw [Wj]
 split
 ·rfl
 ·simp
theorem WA (w:List UInt8):dH (w.map eH) [58]=((dH w [58]).1.map eH,(dH w [58]).2):=by
 have hp:pre (w.map eH) [58]=pre w [58]:=by
  unfold pre
  cases w with
  | nil=>rfl
  | cons c r =>
   rw [Bool.eq_iff_iff,decide_eq_true_eq,decide_eq_true_eq]
   show [eH c]=[58]↔[c]=[58]
   rw [List.cons.injEq,List.cons.injEq,Vn (by decide)]
 unfold dH
 rw [hp]
 split
 ·simp
 ·rfl
theorem Yq (w:List UInt8) (h mi s:Int):dL (w.map eH) h mi s=dL w h mi s:=by
 unfold dL
 simp only [PD,WA]
theorem Qn {x:UInt8} (hx:x.toNat≤121):lX (eH c)=x↔lX c=x:=by
 by_cases h:c.toNat≤126
 ·rw [Bb h]
 ·rw [Ir h]
  have h2:=Gj c
  rw [if_neg (by omega)] at h2
  constructor
  ·intro e
   have:lX 122=122:=by decide
   rw [this] at e
   rw [← e] at hx;exact absurd hx (by decide)
  ·intro e
   rw [e] at h2;omega
theorem JY:∀ (w m:List UInt8),(∀ x∈m,x.toNat≤121)→(fold (w.map eH)=m↔fold w=m)
 | [],m,_=>Iff.rfl
 | c::r,[],_=>by simp [fold]
 | c::r,x::m,h=>by
  have ih:=JY r m fun y hy=>h y (by simp [hy])
  unfold fold at *
  rw [List.map_cons,List.map_cons,List.map_cons,List.cons.injEq,List.cons.injEq,Qn (h x (by simp)),ih]
theorem Rb (w:List UInt8):iq (w.map eH)=iq w:=by
 unfold iq
 rw [List.length_map,← List.map_take]
 have:∀ m∈months,(fold ((w.take 3).map eH)==m)=(fold (w.take 3)==m):=fun m hm=>by
  rw [Bool.eq_iff_iff,beq_iff_eq,beq_iff_eq]
  refine JY _ _ fun x hx=>?_
  have:(months.all fun m=>m.all fun x=>decide (x.toNat≤121))=true:=by decide +kernel
  exact of_decide_eq_true (List.all_eq_true.1 (List.all_eq_true.1 this m hm) x hx)
 have e:months.findIdx? (fun m=>fold ((w.take 3).map eH)==m)=months.findIdx? (fun m=>fold (w.take 3)==m):=by
  have gen:∀ L:List (List UInt8),(∀ m∈L,(fold ((w.take 3).map eH)==m)=(fold (w.take 3)==m))→L.findIdx? (fun m=>fold ((w.take 3).map eH)==m)=L.findIdx? (fun m=>fold (w.take 3)==m):=fun L=>by
   induction L with
   | nil=>intro _;rfl
   | cons m L ih =>
    intro h
    rw [List.findIdx?_cons,List.findIdx?_cons,h m (by simp),ih fun x hx=>h x (by simp [hx])]
  exact gen months this
 rw [e]
theorem Ve (r:RD) (w:List UInt8):jZ r (w.map eH)=jZ r w:=by
 unfold jZ
 simp only [Yq,PD,Rb]
def eu (s:List UInt8):RD:=(jg s).foldl jZ rd0
theorem Qe (s:List UInt8):(jg (s.map eH)).foldl jZ rd0=eu s:=by
 unfold eu jg
 have:=tJ s []
 rw [List.map_nil] at this
 rw [this,List.foldl_map]
 congr 1
 funext r w
 exact Ve r w
noncomputable def bD (s:List UInt8):Int × Int :=
 if 400<s.length then (0,2) else
 if (eu s).f0&&((eu s).f1&&((eu s).f2&&(eu s).f3)) then ofF (eu s).y (eu s).m (eu s).d (eu s).h (eu s).mi (eu s).s else (0,1)
theorem yL:∀ (l cur:List UInt8),(gu cur l).length≤l.length+1
 | [],cur=>by unfold gu;split<;>simp
 | c::r,cur=>by
  unfold gu
  have h1:=yL r []
  have h2:=yL r (cur++[c])
  split
  ·split
   ·simp;omega
   ·simp;omega
  ·simp;omega
theorem CJ {g:iJ} (hg:vM g) {s:List UInt8}:av Tryz.prog g 175 [au s] (.tup [.int .i64 (bD s).1,.int .i64 (bD s).2]):=by
 by_cases hl:400<s.length
 ·have e:bD s=(0,2):=by unfold bD;rw [if_pos hl]
  rw [e]
  refine mV af Tryz.func175 rfl Tryz.ntmps175 Tryz.results175 rfl fun N=>?_
  repeat' (first|refine zW ?_|exact ai)
  rfl
 ·have e:bD s=if (eu s).f0&&((eu s).f1&&((eu s).f2&&(eu s).f3)) then ofF (eu s).y (eu s).m (eu s).d (eu s).h (eu s).mi (eu s).s else (0,1):=by unfold bD;rw [if_neg hl]
  have c1:=WB (s:=s) (by omega)
  have c2:=UZ (l:=s.map eH) (by simp;omega) (fun b hb=>by obtain ⟨c,_,rfl⟩:=List.mem_map.1 hb;exact UH c)
  have hf:=Qe s
  have hwl:=yL (s.map eH) []
  rw [List.length_map] at hwl
  have hwl:(jg (s.map eH)).length≤s.length+1:=hwl
  generalize jg (s.map eH)=ws at *
  generalize s.map eH=t at *
  have hx:((ws.map au).length:Int)=(ws.length:Int):=by simp
  have h00:(ws.take 0).foldl jZ rd0=rd0:=rfl
  refine mV af Tryz.func175 rfl Tryz.ntmps175 Tryz.results175 rfl fun N=>?_
  repeat' (first|refine zV ?_|(refine isR ?_;first|refine zk c1 ?_|refine zk c2 ?_)|refine zW ?_|exact ai)
  refine bM (fun k=>⟨[(4,.loc 0 0 0),(12,yh ws),(13,.int .i64 (ws.map au).length),(14,.int .i64 (k:Int))],[(0,some (Aa ((ws.take k).foldl jZ rd0)))],1,30⟩) (fun k=>k≤ws.length) ws.length 0 (by exact ai) (Nat.zero_le _) ?_
  intro k hk
  by_cases hk2:k<ws.length
  ·have e1:(ws.map au)[k]? = some (au ws[k]):=by simp [hk2]
   have e2:(ws.take (k+1)).foldl jZ rd0=jZ ((ws.take k).foldl jZ rd0) ws[k]:=by rw [List.take_succ_eq_append_getElem hk2,List.foldl_append];rfl
   simp only [e2]
   generalize ws[k]=w at *
   generalize (ws.take k).foldl jZ rd0=r at *
   have c3:=Z0 hg (r:=r) (w:=w)
   generalize jZ r w=r2 at *
   repeat' (first|refine zV ?_|(refine isR ?_;first|refine x_m [0] [] (c3 _) ?_|refine x_m [0] [] (c3) ?_)|refine zW ?_|exact ai)
   refine ⟨by omega,hk2,?_⟩
   exact (by exact ai)
  ·obtain rfl:k=ws.length:=by omega
   rw [List.take_length,hf]
   rw [e]
   clear e hf
   generalize eu s=r at *
   obtain ⟨r1,r2,r3,r4,r5,r6,r7,r8,r9,r10⟩:=r
   dsimp only
   have c4:=adu (y:=r1) (m:=r2) (d:=r3) (h:=r4) (mi:=r5) (s:=r6)
   generalize ofF r1 r2 r3 r4 r5 r6=o at *
   cases r7
   ·repeat' (first|refine zV ?_|(refine isR ?_;first|refine yU af ?_|refine zk c4 ?_)|refine zW ?_|exact ai)
    rfl
   ·cases r8
    ·repeat' (first|refine zV ?_|(refine isR ?_;first|refine yU af ?_|refine zk c4 ?_)|refine zW ?_|exact ai)
     rfl
    ·cases r9
     ·repeat' (first|refine zV ?_|(refine isR ?_;first|refine yU af ?_|refine zk c4 ?_)|refine zW ?_|exact ai)
      rfl
     ·cases r10
      ·repeat' (first|refine zV ?_|(refine isR ?_;first|refine yU af ?_|refine zk c4 ?_)|refine zW ?_|exact ai)
       rfl
      ·repeat' (first|refine zV ?_|(refine isR ?_;first|refine yU af ?_|refine zk c4 ?_)|refine zW ?_|exact ai)
       rfl
end Cz
end
end Go.Proofs.YtlfdjpgghiemfaaGreatDoor
