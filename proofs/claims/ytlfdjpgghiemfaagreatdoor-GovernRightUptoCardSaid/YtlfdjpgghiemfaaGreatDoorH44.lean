/- Texts of the proof, joined: ClockO, ClockR, ClockT, ClockI, ClockM, ClockV. -/
import Derived.Test.YtlfdjpgghiemfaaGreatDoorH43
set_option maxHeartbeats 2000000
namespace Go.Proofs.YtlfdjpgghiemfaaGreatDoor
namespace nS
open Go.RowKit j3 ko
variable {d h mi:Int} {w:World} {s m y:Int}
theorem aag {B:Nat} {W w1:World} (hb:Below B W w1):(∀ b o,b<B→w1.cell? ⟨b,o,none⟩=W.cell? ⟨b,o,none⟩)∧(∀ b o,b<B→w1.frozen? ⟨b,o,none⟩=W.frozen? ⟨b,o,none⟩) :=
 ⟨fun b o h=>hb.cell (p:=⟨b,o,none⟩) h,fun b o h=>hb.frozen (p:=⟨b,o,none⟩) h⟩
def ac2 (y m d h mi s:Int) (v:Value):Prop:=(right y m d h mi s∧v = .tuple #[.int .i64 (mom y m d h mi s),.int .i64 0])∨(¬ right y m d h mi s∧v = .tuple #[.int .i64 0,.int .i64 3])
def Ny (y m d h mi s:Int) (w:World) (e:Ending) (w':World):Prop:=∃ v,e = .returned v∧ac2 y m d h mi s v∧Below w.heap.size w w'
def Good (y m d h mi s:Int) (k:Nat):Prop:=(0<k→1601≤y∧y≤9999)∧(1<k→1≤d∧d≤mH y m)∧(2<k→0≤h∧h≤23)∧(3<k→0≤mi∧mi≤59)∧(4<k→0≤s∧s≤59)
theorem Nj (g:Good y m d h mi s 5):right y m d h mi s:=by
 obtain ⟨a,b,c,e,f⟩:=g
 have:=a (by omega);have:=b (by omega);have:=c (by omega);have:=e (by omega);have:=f (by omega)
 exact ⟨⟨by omega,by omega,by omega,by omega⟩,by omega,by omega,by omega,by omega,by omega,by omega⟩
theorem Dg {w':World} (g:¬ right y m d h mi s) (hb:Below w.heap.size w w'):Ny y m d h mi s w (.returned (.tuple #[.int .i64 0,.int .i64 3])) w':=⟨_,rfl,.inr ⟨g,rfl⟩,hb⟩
theorem MI (g:Good y m d h mi s 0) (h2:1601≤y∧y≤9999):Good y m d h mi s 1:=by
 obtain ⟨a,b,c,e,f⟩:=g
 exact ⟨fun _=>h2,fun h=>by omega,fun h=>by omega,fun h=>by omega,fun h=>by omega⟩
theorem adZ (h2:¬ (1601≤y∧y≤9999)):¬ right y m d h mi s:=fun hr=>h2 ⟨hr.1.1,hr.1.2.1⟩
theorem NI (g:Good y m d h mi s 1) (h2:1≤d∧d≤mH y m):Good y m d h mi s 2:=by
 obtain ⟨a,b,c,e,f⟩:=g
 exact ⟨fun _=>a (by omega),fun _=>h2,fun h=>by omega,fun h=>by omega,fun h=>by omega⟩
theorem oU (h2:¬ (1≤d∧d≤mH y m)):¬ right y m d h mi s:=fun hr=>h2 ⟨hr.1.2.2.1,hr.1.2.2.2⟩
theorem ND (g:Good y m d h mi s 2) (h2:0≤h∧h≤23):Good y m d h mi s 3:=by
 obtain ⟨a,b,c,e,f⟩:=g
 exact ⟨fun _=>a (by omega),fun _=>b (by omega),fun _=>h2,fun h=>by omega,fun h=>by omega⟩
theorem ad3 (h2:¬ (0≤h∧h≤23)):¬ right y m d h mi s:=fun hr=>h2 ⟨hr.2.1,hr.2.2.1⟩
theorem M8 (g:Good y m d h mi s 3) (h2:0≤mi∧mi≤59):Good y m d h mi s 4:=by
 obtain ⟨a,b,c,e,f⟩:=g
 exact ⟨fun _=>a (by omega),fun _=>b (by omega),fun _=>c (by omega),fun _=>h2,fun h=>by omega⟩
theorem ad4 (h2:¬ (0≤mi∧mi≤59)):¬ right y m d h mi s:=fun hr=>h2 ⟨hr.2.2.2.1,hr.2.2.2.2.1⟩
theorem Mj (g:Good y m d h mi s 4) (h2:0≤s∧s≤59):Good y m d h mi s 5:=by
 obtain ⟨a,b,c,e,f⟩:=g
 exact ⟨fun _=>a (by omega),fun _=>b (by omega),fun _=>c (by omega),fun _=>e (by omega),fun _=>h2⟩
theorem adY (h2:¬ (0≤s∧s≤59)):¬ right y m d h mi s:=fun hr=>h2 ⟨hr.2.2.2.2.2.1,hr.2.2.2.2.2.2⟩
theorem oD {wr:World} {o:Obj} (hb:Below (w.heap.size+1) (w.alloc o) wr):Below w.heap.size w wr:=((Below.refl _ _).alloc (Nat.le_refl _) _).trans (hb.mono (by omega))
theorem ada (y d:Int):num y 1 d=dby y+d-1:=by unfold num;rw [Td y 1 (by omega)];omega
theorem WJ (y k d:Int) (h:1≤k) (h2:k≤12):num y (k+1) d=num y k d+mH y k:=by unfold num;rw [Cn y k h h2];omega
theorem acC (hr:right y m d h mi s):1≤y∧y≤20000∧1≤m∧m≤12 ∧ -134774≤dby y∧dby y≤2932897:=by
 have hm:=aav hr.1
 have a:=xH 1601 y hr.1.1
 have b:=xH y 10000 (by have:=hr.1.2.1;omega)
 rw [Fv] at a;rw [JF] at b
 have:=hr.1.1;have:=hr.1.2.1
 omega
theorem acd (y m d h mi s:Int) (w:World) :
  Calls Tryz.prog 229 #[.agg #[.int .i64 y,.int .i64 m,.int .i64 d,.int .i64 h,.int .i64 mi,.int .i64 s]] w (Ny y m d h mi s w):=by
 have ix0:∀ (x0 x1 x2 x3 x4 x5 x6 x7 x8 x9 x10 x11 x12 x13 x14:Value) (W:World),(Instr.index 303 (.agg #[x0,x1,x2,x3,x4,x5,x6,x7,x8,x9,x10,x11,x12,x13,x14]) (.int .i64 0)).run Tryz.prog W = .ok (.agg #[x0,x1,x2]) W:=fun _ _ _ _ _ _ _ _ _ _ _ _ _ _ _ _=>by kernel_rfl
 have ix1:∀ (x0 x1 x2 x3 x4 x5 x6 x7 x8 x9 x10 x11 x12 x13 x14:Value) (W:World),(Instr.index 303 (.agg #[x0,x1,x2,x3,x4,x5,x6,x7,x8,x9,x10,x11,x12,x13,x14]) (.int .i64 1)).run Tryz.prog W = .ok (.agg #[x3,x4,x5]) W:=fun _ _ _ _ _ _ _ _ _ _ _ _ _ _ _ _=>by kernel_rfl
 have ix2:∀ (x0 x1 x2 x3 x4 x5 x6 x7 x8 x9 x10 x11 x12 x13 x14:Value) (W:World),(Instr.index 303 (.agg #[x0,x1,x2,x3,x4,x5,x6,x7,x8,x9,x10,x11,x12,x13,x14]) (.int .i64 2)).run Tryz.prog W = .ok (.agg #[x6,x7,x8]) W:=fun _ _ _ _ _ _ _ _ _ _ _ _ _ _ _ _=>by kernel_rfl
 have ix3:∀ (x0 x1 x2 x3 x4 x5 x6 x7 x8 x9 x10 x11 x12 x13 x14:Value) (W:World),(Instr.index 303 (.agg #[x0,x1,x2,x3,x4,x5,x6,x7,x8,x9,x10,x11,x12,x13,x14]) (.int .i64 3)).run Tryz.prog W = .ok (.agg #[x9,x10,x11]) W:=fun _ _ _ _ _ _ _ _ _ _ _ _ _ _ _ _=>by kernel_rfl
 have ix4:∀ (x0 x1 x2 x3 x4 x5 x6 x7 x8 x9 x10 x11 x12 x13 x14:Value) (W:World),(Instr.index 303 (.agg #[x0,x1,x2,x3,x4,x5,x6,x7,x8,x9,x10,x11,x12,x13,x14]) (.int .i64 4)).run Tryz.prog W = .ok (.agg #[x12,x13,x14]) W:=fun _ _ _ _ _ _ _ _ _ _ _ _ _ _ _ _=>by kernel_rfl
 go_enter Tryz.func229,Tryz.ntmps229
 go_wp2_with fail
 go_quiet ((go_at_call 251;exact Calls.quiet_of_same ((Cm _ _ _).mono (fun _ _ ⟨a,b⟩=>⟨a,b.symm⟩))))
 go_wp2_with fail
 go_loopw [29] (fun i wr=>∃ k:Nat,k≤5∧i = .int .i64 k∧Good y m d h mi s k∧Below (w.heap.size+1) (w.alloc (.cells #[.int .i64 y,.int .i64 m,.int .i64 d,.int .i64 h,.int .i64 mi,.int .i64 s] 274)) wr) (fun i _=>5-(intOf i).toNat)
 case atStart=>exact ⟨0,by omega,rfl,⟨by omega,by omega,by omega,by omega,by omega⟩,⟨rfl,rfl,rfl,by simp,fun _ _=>rfl⟩⟩
 case round =>
  obtain ⟨k,hk,rfl,hg,hb⟩:=hrel
  obtain ⟨hc,hf⟩:=aag hb
  have hsz:w.heap.size+1≤wr.heap.size:=by have:=hb.size;simpa using this
  have G:=Lib.hid hg
  have hcase:k=0∨k=1∨k=2∨k=3∨k=4∨k=5:=by omega
  clear hg hk
  rcases hcase with rfl|rfl|rfl|rfl|rfl|rfl
  ·by_cases hgood:1601≤y∧y≤9999
   ·have hg1:Good y m d h mi s 1:=MI G.out hgood
    have G1:=Lib.hid hg1;clear hg1
    obtain ⟨hgl,hgr⟩:=hgood
    go_wp2_with fail
    go_roundw
    case rel=>exact ⟨1,by omega,rfl,G1.out,hb.alloc hsz _⟩
    case measure=>simp [intOf]
   ·have hno:¬ right y m d h mi s:=adZ hgood
    have NO:=Lib.hid hno;clear hno
    by_cases hlo:1601≤y
    all_goals
     go_wp2_with fail
     go_ret2
     exact Dg NO.out (oD (hb.alloc hsz _))
  ·by_cases hgood:1≤d∧d≤mH y m
   ·have hg1:Good y m d h mi s 2:=NI G.out hgood
    have G1:=Lib.hid hg1;clear hg1
    obtain ⟨hgl,hgr⟩:=hgood
    go_wp2_with fail
    go_roundw
    case rel=>exact ⟨2,by omega,rfl,G1.out,hb.alloc hsz _⟩
    case measure=>simp [intOf]
   ·have hno:¬ right y m d h mi s:=oU hgood
    have NO:=Lib.hid hno;clear hno
    by_cases hlo:1≤d
    all_goals
     go_wp2_with fail
     go_ret2
     exact Dg NO.out (oD (hb.alloc hsz _))
  ·by_cases hgood:0≤h∧h≤23
   ·have hg1:Good y m d h mi s 3:=ND G.out hgood
    have G1:=Lib.hid hg1;clear hg1
    obtain ⟨hgl,hgr⟩:=hgood
    go_wp2_with fail
    go_roundw
    case rel=>exact ⟨3,by omega,rfl,G1.out,hb.alloc hsz _⟩
    case measure=>simp [intOf]
   ·have hno:¬ right y m d h mi s:=ad3 hgood
    have NO:=Lib.hid hno;clear hno
    by_cases hlo:0≤h
    all_goals
     go_wp2_with fail
     go_ret2
     exact Dg NO.out (oD (hb.alloc hsz _))
  ·by_cases hgood:0≤mi∧mi≤59
   ·have hg1:Good y m d h mi s 4:=M8 G.out hgood
    have G1:=Lib.hid hg1;clear hg1
    obtain ⟨hgl,hgr⟩:=hgood
    go_wp2_with fail
    go_roundw
    case rel=>exact ⟨4,by omega,rfl,G1.out,hb.alloc hsz _⟩
    case measure=>simp [intOf]
   ·have hno:¬ right y m d h mi s:=ad4 hgood
    have NO:=Lib.hid hno;clear hno
    by_cases hlo:0≤mi
    all_goals
     go_wp2_with fail
     go_ret2
     exact Dg NO.out (oD (hb.alloc hsz _))
  ·by_cases hgood:0≤s∧s≤59
   ·have hg1:Good y m d h mi s 5:=Mj G.out hgood
    have G1:=Lib.hid hg1;clear hg1
    obtain ⟨hgl,hgr⟩:=hgood
    go_wp2_with fail
    go_roundw
    case rel=>exact ⟨5,by omega,rfl,G1.out,hb.alloc hsz _⟩
    case measure=>simp [intOf]
   ·have hno:¬ right y m d h mi s:=adY hgood
    have NO:=Lib.hid hno;clear hno
    by_cases hlo:0≤s
    all_goals
     go_wp2_with fail
     go_ret2
     exact Dg NO.out (oD (hb.alloc hsz _))
  ·have hr:=Nj G.out
   obtain ⟨e1,e2,e3,e4,e5,e6⟩:=acC hr
   have e7:1≤d∧d≤31:=by have:=IY y m;have:=hr.1.2.2;omega
   have e8:0≤h∧h≤23∧0≤mi∧mi≤59∧0≤s∧s≤59:=by obtain ⟨_,h⟩:=hr;omega
   have HR:=Lib.hid hr;clear hr
   obtain ⟨wo,rfl⟩:∃ wo:World,wo=wr:=⟨_,rfl⟩
   go_wp2_with fail
   go_quiet ((go_at_call 252;exact Calls.quiet_of_same ((Ox _ _ e1 e2).mono (fun _ _ ⟨a,b⟩=>⟨a,b.symm⟩))))
   go_wp2_with fail
   go_loopw [6,7] (fun t i wr=>∃ k:Int,1≤k∧k≤m∧i = .int .i64 k∧t = .int .i64 (num y k d)∧Below (w.heap.size+1) (w.alloc (.cells #[.int .i64 y,.int .i64 m,.int .i64 d,.int .i64 h,.int .i64 mi,.int .i64 s] 274)) wr) (fun _ i _=>(m-intOf i).toNat)
   case atStart=>exact ⟨1,by omega,by omega,rfl,by rw [ada],⟨hb.os,hb.tape,hb.output,hb.size,hb.block⟩⟩
   case round =>
    obtain ⟨k,hk1,hk2,rfl,rfl,hb2⟩:=hrel
    obtain ⟨hc2,hf2⟩:=aag hb2
    have hsz2:w.heap.size+1≤wr.heap.size:=by have:=hb2.size;simpa using this
    have n1 : -134774≤num y k d∧num y k d≤2934000:=by have:=SV y k (by omega);unfold num;omega
    have n2:=WJ y k d hk1 (by omega)
    have n3:=IY y k
    have N2:=Lib.hid n2;clear n2
    clear hc hf
    by_cases hlt:k<m
    ·go_wp2_with (go_at_call 251;refine (Cm _ _ _).mono ?_;rintro e w' ⟨rfl,rfl⟩)
     go_roundw
     case rel =>
      repeat apply Exists.intro
      exact ⟨⟨k+1,by omega,by omega,rfl,by rw [N2.out],hb2⟩,rfl⟩
     case measure=>simp [intOf];omega
    ·obtain rfl:k=m:=by omega
     go_wp2_with fail
     go_ret2
     exact ⟨_,rfl,.inl ⟨HR.out,rfl⟩,oD hb2⟩
end nS
namespace Ng
open Go.RowKit j3 ko nS
end Ng
namespace Na
open Go.RowKit j3 ko nS
end Na
namespace V3
open Go.RowKit j3 ko nS Na
end V3
namespace Vu
open Go.RowKit j3 ko nS Ng
end Vu
namespace zl
open Go.RowKit Mem Abs bH j3 ko nS Ng Vu Na V3
variable {d h mi:Int} {w:World} {X:Nat→Prop} {s m y:Int}
abbrev SB (y m d h mi s:Int):Abs.V:=.agg [.int .i64 y,.int .i64 m,.int .i64 d,.int .i64 h,.int .i64 mi,.int .i64 s]
open Classical in
noncomputable def ofF (y m d h mi s:Int):Int × Int:=if right y m d h mi s then (mom y m d h mi s,0) else (0,3)
theorem OP (hr:right y m d h mi s):ofF y m d h mi s=(mom y m d h mi s,0):=if_pos hr
theorem SS (hr:¬ right y m d h mi s):ofF y m d h mi s=(0,3):=if_neg hr
theorem ZP {x:Value} (hx:Fz X w (SB y m d h mi s) x):x = .agg #[.int .i64 y,.int .i64 m,.int .i64 d,.int .i64 h,.int .i64 mi,.int .i64 s]:=by
 obtain ⟨cs,rfl,hl,hc⟩:=abM hx
 obtain ⟨cs⟩:=cs
 match cs,hl with
 | [c0,c1,c2,c3,c4,c5],_ =>
  obtain ⟨rfl,_⟩:=kS (hc 0 _ c0 rfl rfl)
  obtain ⟨rfl,_⟩:=kS (hc 1 _ c1 rfl rfl)
  obtain ⟨rfl,_⟩:=kS (hc 2 _ c2 rfl rfl)
  obtain ⟨rfl,_⟩:=kS (hc 3 _ c3 rfl rfl)
  obtain ⟨rfl,_⟩:=kS (hc 4 _ c4 rfl rfl)
  obtain ⟨rfl,_⟩:=kS (hc 5 _ c5 rfl rfl)
  rfl
theorem Dx {a b:Int} (ha:InR .i64 a) (hb:InR .i64 b):Fz X w (.tup [.int .i64 a,.int .i64 b]) (.tuple #[.int .i64 a,.int .i64 b]):=by
 refine .tup rfl fun i x c hx hc=>?_
 rcases i with _|_|i
 ·simp at hx hc;subst hx hc;exact .int ha
 ·simp at hx hc;subst hx hc;exact .int hb
 ·simp at hx
theorem abN (y m d h mi s:Int):InR .i64 (ofF y m d h mi s).1∧InR .i64 (ofF y m d h mi s).2:=by
 by_cases hr:right y m d h mi s
 ·rw [OP hr]
  have:=abR hr
  exact ⟨⟨by simp only [rng];omega,by simp only [rng];omega⟩,oo _⟩
 ·rw [SS hr]
  exact ⟨oo _,⟨by decide,by decide⟩⟩
theorem YJ {f:FuncId} (hc:∀ w,Calls Tryz.prog f #[.agg #[.int .i64 y,.int .i64 m,.int .i64 d,.int .i64 h,.int .i64 mi,.int .i64 s]] w (Ny y m d h mi s w)):aj Tryz.prog f [SB y m d h mi s] (.tup [.int .i64 (ofF y m d h mi s).1,.int .i64 (ofF y m d h mi s).2]):=fun g N w vs hG hN hlen hv=>by
 obtain ⟨vs⟩:=vs
 match vs,hlen with
 | [x0],_ =>
  have:=ZP (hv 0 _ x0 rfl rfl)
  subst this
  obtain ⟨r1,r2⟩:=abN y m d h mi s
  refine (hc w).mono fun e w' ⟨v,he,ha,hb⟩=>⟨v,he,hb,?_⟩
  rcases ha with ⟨hr,rfl⟩|⟨hr,rfl⟩
  ·rw [OP hr] at r1 r2 ⊢;exact Dx r1 r2
  ·rw [SS hr] at r1 r2 ⊢;exact Dx r1 r2
theorem adX:aj Tryz.prog 229 [SB y m d h mi s] (.tup [.int .i64 (ofF y m d h mi s).1,.int .i64 (ofF y m d h mi s).2]):=YJ fun w=>acd y m d h mi s w
structure TM where
 y:Int
 m:Int
 d:Int
 h:Int
 mi:Int
 s:Int
theorem Qe {n:Int}:isB n=true ↔ -11644473600≤n∧n≤253402300799:=by unfold isB;simp
end zl
end Go.Proofs.YtlfdjpgghiemfaaGreatDoor
