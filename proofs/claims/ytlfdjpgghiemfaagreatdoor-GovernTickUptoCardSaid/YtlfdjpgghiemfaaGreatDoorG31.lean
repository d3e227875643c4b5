/- Texts of the proof, joined: JarU, RjP, PurA, HostE, HostF, HostG, SufW. -/
import Derived.Test.YtlfdjpgghiemfaaGreatDoorG30
import Derived.Test.YtlfdjpgghiemfaaGreatDoorG27
set_option maxHeartbeats 4000000
set_option maxRecDepth 100000
namespace Go.Proofs.YtlfdjpgghiemfaaGreatDoor
namespace Vy
open Go.RowKit Mem Abs Scan gy gY iW iY iV mX pG Xq Na NZ RO QK Rdy fw uN
variable {L:List ah} {now nx:Int} {c:ah}
abbrev cI:ah:=⟨([105,100]:List UInt8),([55]:List UInt8),([115,104,111,112,46,99,111,109]:List UInt8),([47,99,97,114,116]:List UInt8),false,true,false,true,0,1060,1000,1000,0⟩
abbrev c8:ah:=⟨([105,100]:List UInt8),([56]:List UInt8),([115,104,111,112,46,99,111,109]:List UInt8),([47,99,97,114,116]:List UInt8),false,true,false,true,0,1060,1005,1005,0⟩
abbrev c9:ah:=⟨([105,100]:List UInt8),([56]:List UInt8),([115,104,111,112,46,99,111,109]:List UInt8),([47,99,97,114,116]:List UInt8),false,true,false,true,0,1060,1000,1005,0⟩
theorem abR {M:List ah} {nx2:Int} (h:gW L nx c now=0) (hp:rZ L nx c now=(M,nx2)):aj Tryz.prog 109 [dI L nx,c.v,.int .i64 now] (.tup [dI M nx2,.int .i64 0]):=by
 have:=Nr h
 rw [hp] at this
 exact this
theorem p2:aj Tryz.prog 109 [dI [cI] 1,c8.v,.int .i64 1005] (.tup [dI [c9] 1,.int .i64 0]):=abR (by decide +kernel) (by rfl)
theorem Q0 (h:gW L nx c now≠0):aj Tryz.prog 109 [dI L nx,c.v,.int .i64 now] (.tup [noJ,.int .i64 ((gW L nx c now:Nat):Int)]):=by
 have c1:=oF (L:=L) (nx:=nx)
 by_cases h0:dz L nx=0
 ·rw [h0] at c1
  exact NC c1 h h0
 ·have e:gW L nx c now=dz L nx:=by unfold gW;rw [if_pos h0]
  rw [e]
  exact NK c1 (by omega)
theorem Nj:aj Tryz.prog 21 [dI L nx,dI L nx] (.bool true):=by
 have:=Qt (nx:=nx) (nx2:=nx) (oC.Ep (L:=L) (K:=L))
 simpa using this
end Vy
namespace RjP
open Go.RowKit Mem Abs Scan gy gY iW iY iV mX J3 Qx Xq Na QK pG su YZ NZ RO Vy fw uN Rdy nU oL zP
theorem M9 {f:From} {now:Int} (h:fH f now=0):f.host.length≤4398046511104:=by
 unfold fH at h
 split at h
 ·rename_i q
  have e:=q.1
  unfold cu at e
  have e:=of_decide_eq_true e
  unfold dh.fM at e
  split at e
  ·exact absurd (congrArg Prod.snd e) (by simp)
  ·omega
 ·cases h
abbrev acs (k n:Nat) (nx:Int):Abs.V:=.agg [.own k 0 n,.int .i64 nx]
end RjP
namespace Eu
open Go.RowKit Mem Abs fw dh iw eB Rdy Scan gy gY iW iY iV mX pG su xB z8 En RjP
open mY (gK gL)
variable {U:List Int} {p:Pol} {K:List ah} {now:Int} {P:Nat→Bool} {nx:Int} {c:ah} {g:Int}
abbrev TJR:Nat:=25
abbrev rJ (k n:Nat) (nx:Int):Blk:=.els TJR 2 [acs k n nx]
theorem Rx (hK:K.length≤100) (h:now<c.expiry):aK Tryz.prog 99 [c.v,.fp [.int .i64 now] 0,.loc 0 0 0] [rJ 1 K.length nx,rC K] (.tup []) [some (rJ 2 (K++[c]).length nx),none,some (rC (K++[c]))]:=by
 have c1:=vV (c:=c) (now:=now)
 rw [decide_eq_true h] at c1
 have hml:(K.map ah.v).length=K.length:=List.length_map _
 refine bL af Tryz.func99 rfl Tryz.ntmps99 Tryz.results99 rfl rfl rfl rfl fun N pl=>?_
 repeat' (first|refine zV ?_|(refine isR ?_;first|refine zk c1 ?_|refine kr ah.v (a1:=(c)) af ?_)|refine zW ?_|refine aA [0,1,2] ?_ ?_|exact ai)
 all_goals first|rfl|exact .on (.ren rfl) (.no (.on (.same (aT fun _=>rfl)) .nil))
theorem Tx (h:¬ now<c.expiry):aK Tryz.prog 99 [c.v,.fp [.int .i64 now] 0,.loc 0 0 0] [rJ 1 K.length nx,rC K] (.tup []) [some (rJ 1 K.length nx),some (rC K)]:=by
 have c1:=vV (c:=c) (now:=now)
 rw [decide_eq_false h] at c1
 refine bL af Tryz.func99 rfl Tryz.ntmps99 Tryz.results99 rfl rfl rfl rfl fun N pl=>?_
 repeat' (first|refine zV ?_|(refine isR ?_;refine zk c1 ?_)|refine zW ?_|refine aA [0,1] ?_ ?_|exact ai)
 all_goals first|rfl|exact .on (.ren rfl) (.on (.same (aT fun _=>rfl)) .nil)
abbrev stR (p:Pol) (g:Int) (P:Nat→Bool) (U:List Int) (now nx:Int) (L K:List ah) (k:Nat):S:=⟨[(5,.fp (V.cells (kC p)) 0),(6,.fp (V.cells (gK g P U)) 0),(8,.loc 0 0 0),(9,.loc 1 0 0),(10,.fn (.func 99) [] [.fp [.int .i64 now] 0,.loc 1 0 0]),(18,.fro (L.map ah.v)),(19,nV L.length),(20,nV k)],[(0,some (.els TJR 2 [noJ])),(1,some (rJ 2 K.length nx)),(2,some (rC K))],3,35⟩
theorem acu {L:List ah} (h:OkP p) (hL:L.length≤12) (hd:∀ c∈L,c.domain.length≤4398046511104) (hc:∀ c∈L,isJ c.created=true):aR Tryz.prog bG 68 [dI L nx,kC p,gK g P U,.int .i64 now] [] (acs 0 (dF p P U now L).length nx) [some (rC (dF p P U now L))]:=by
 have hml:(L.map ah.v).length=L.length:=List.length_map _
 refine bJ af Tryz.func68 rfl Tryz.ntmps68 Tryz.results68 rfl rfl rfl rfl fun N pl=>?_
 repeat' (first|refine zW ?_|exact ai)
 refine jT 1 0 TC 13 rfl rfl (by decide) rfl ?_
 refine fI (fun k=>stR p g P U now nx L (dF p P U now (L.take k)) k) (fun k=>k≤L.length) L.length 0 (by exact ai) (Nat.zero_le _) ?_
 intro k hk
 by_cases hk2:k<L.length
 ·have hx:L[k]? = some L[k]:=by simp [hk2]
  have hon:=Y8 (p:=p) (P:=P) (U:=U) (now:=now) L hx
  have hK:(dF p P U now (L.take k)).length≤100:=Nat.le_trans (wZ _) (by simp;omega)
  have hdc:=hd _ (List.getElem_mem hk2)
  have c3:=Oa (g:=g) (P:=P) (U:=U) h hdc
  have c4:=FL h hdc (hc _ (List.getElem_mem hk2))
  generalize L[k]=c at *
  have hm:=di (f:=ah.v) hx
  generalize dF p P U now (L.take (k+1))=K1 at *
  generalize dF p P U now (L.take k)=K at *
  generalize gV p c=c2 at *
  generalize qE p P U c=b at *
  cases b with
  | false =>
   rw [if_neg (by simp),List.append_nil] at hon
   subst hon
   repeat' (first|refine zV ?_|(refine isR ?_;refine zk c3 ?_)|refine zW ?_|exact ai)
   refine ⟨by omega,hk2,?_⟩
   exact (by exact x_len [0,1,2])
  | true =>
   by_cases hv:now<c2.expiry
   ·rw [if_pos ⟨rfl,hv⟩] at hon
    subst hon
    have c5:=Rx (c:=c2) (nx:=nx) (now:=now) hK hv
    repeat' (first|refine zV ?_|(refine isR ?_;first|refine zk c3 ?_|refine zk c4 ?_|refine eG [1,2] [4] (c5 _) ?_|refine eG [1,2] [4] (c5) ?_)|refine zW ?_|exact ai)
    refine ⟨by omega,hk2,?_⟩
    exact (by exact x_len [0,1,4])
   ·rw [if_neg (fun q=>hv q.2),List.append_nil] at hon
    subst hon
    have c5:=Tx (K:=K1) (c:=c2) (nx:=nx) (now:=now) hv
    repeat' (first|refine zV ?_|(refine isR ?_;first|refine zk c3 ?_|refine zk c4 ?_|refine eG [1,2] [] (c5 _) ?_|refine eG [1,2] [] (c5) ?_)|refine zW ?_|exact ai)
    refine ⟨by omega,hk2,?_⟩
    exact (by exact x_len [0,1,2])
 ·obtain rfl:k=L.length:=by omega
  rw [List.take_length]
  repeat' (first|refine zW ?_|refine aA [2] ?_ ?_|exact ai)
  ·rfl
  ·exact .on (.same (aT fun _=>rfl)) .nil
theorem Px:aj Tryz.prog 137 [kC p,gK g P U] (.int .i64 ((jP p g U:Nat):Int)):=by
 have c1:=Cb (p:=p)
 have c2:=mY.lq (g:=g) (P:=P) (L:=U)
 unfold jP
 by_cases h:gB p=0
 ·rw [if_neg (by rw [h];simp)]
  rw [h] at c1
  refine aX af Tryz.func137 rfl Tryz.ntmps137 Tryz.results137 rfl fun N=>?_
  repeat' (first|refine zV ?_|(refine isR ?_;first|refine zk c1 ?_|refine zk c2 ?_)|refine zW ?_|exact ai)
  all_goals first|rfl|(exfalso;omega)
 ·rw [if_pos h]
  generalize gB p=q at *
  refine aX af Tryz.func137 rfl Tryz.ntmps137 Tryz.results137 rfl fun N=>?_
  repeat' (first|refine zV ?_|(refine isR ?_;first|refine zk c1 ?_|refine zk c2 ?_)|refine zW ?_|exact ai)
  all_goals first|rfl|(exfalso;omega)
def c0:ah:=⟨[],[],[],[],false,false,false,false,0,0,0,0,0⟩
theorem Ra (h:OkP p) (h1:jP p g U=0) (h2:isJ c.created=true) (hd:c.domain.length≤4398046511104) (h3:qE p P U c=false):av Tryz.prog bG 108 [kC p,gK g P U,c.v] (.tup [c0.v,.int .i64 8]):=by
 have c2:=Px (p:=p) (g:=g) (P:=P) (U:=U)
 rw [h1] at c2
 have c3:=qI (n:=c.created)
 rw [h2] at c3
 have c4:=Oa (g:=g) (P:=P) (U:=U) h hd
 rw [h3] at c4
 refine wF af Tryz.func108 rfl Tryz.ntmps108 Tryz.results108 rfl fun N=>?_
 repeat' (first|refine zV ?_|(refine isR ?_;first|refine zk c2 ?_|refine zk c3 ?_|refine zk c4 ?_)|refine zW ?_|exact ai)
 all_goals first|rfl|(exfalso;omega)
theorem Ky (h:OkP p) (h1:jP p g U=0) (h2:isJ c.created=true) (hd:c.domain.length≤4398046511104) (h3:qE p P U c=true):av Tryz.prog bG 108 [kC p,gK g P U,c.v] (.tup [(gV p c).v,.int .i64 0]):=by
 have c2:=Px (p:=p) (g:=g) (P:=P) (U:=U)
 rw [h1] at c2
 have c3:=qI (n:=c.created)
 rw [h2] at c3
 have c4:=Oa (g:=g) (P:=P) (U:=U) h hd
 rw [h3] at c4
 have c5:=FL h hd h2
 generalize gV p c=d at *
 refine wF af Tryz.func108 rfl Tryz.ntmps108 Tryz.results108 rfl fun N=>?_
 repeat' (first|refine zV ?_|(refine isR ?_;first|refine zk c2 ?_|refine zk c3 ?_|refine zk c4 ?_|refine zk c5 ?_)|refine zW ?_|exact ai)
 all_goals first|rfl|(exfalso;omega)
end Eu
namespace Lp
open Go.RowKit Go.Shelf Mem bR yD cZ Range dh fw
open Jv (fP jl BZ oO)
open uP (cut sP pW Ai)
open oq (str aM mkB)
attribute [local go_sem] Oper.semAt_some
def Same (W w:World):Prop:=∀ k,k<gN→W.heap[k]? = w.heap[k]?
theorem FW {W w:World} (h:Abs.ko bG (fun _=>False) w) (hs:Same W w) (hz:w.heap.size≤W.heap.size):Abs.ko bG (fun _=>False) W:=by
 refine ⟨Nat.le_trans h.1 hz,fun b hb=>hb.elim,?_⟩
 have e:(fun i=>if i<bG.n then W.heap[i]? else none)=fun i=>if i<bG.n then w.heap[i]? else none:=by
  funext i
  by_cases hi:i<bG.n
  ·rw [if_pos hi,if_pos hi];exact hs i hi
  ·rw [if_neg hi,if_neg hi]
 rw [e];exact h.2.2
theorem La (s:ByteArray) (hs:s.size≤4398046511104) (w:World) (hG:Abs.ko bG (fun _=>False) w):Calls Tryz.prog 60 #[.string s] w (Gives (.bool (address s.data.toList)) w):=by
 have h:=iw.uj (l:=s.data.toList) (by simpa using hs)
 refine (h (fun _=>False) w #[.string s] hG (fun _ h=>h.elim) rfl fun i v x hv hx=>?_).mono fun e w' ⟨x,h1,h2,h3⟩=>⟨by rw [h1,Abs.Pn h3],h2⟩
 rcases i with _|i
 ·cases hv;cases hx
  rw [Abs.au,Abs.Dp]
  exact .str (by simp only [Abs.dS];omega)
 ·simp at hv
def rest (alone:Bool) (cur:List UInt8) (more:Bool):List (List UInt8):=bif more then (bif alone then [cur] else cur::after cur) else []
theorem PK {cur:List UInt8} (h:cur.contains 46=false):rest false cur true=cur::rest false [] false:=by
 unfold rest
 simp [NV cur h]
theorem XD {a r:List UInt8} (h:a.contains 46=false):rest false (a++46::r) true=(a++46::r)::rest false r true:=by
 unfold rest
 simp [after_at a r h]
theorem Wv (l:List UInt8):rest (address l) l (decide (l≠[]))=vY l:=by
 unfold rest vY
 by_cases h:l=[]
 ·simp [h]
 ·cases address l<;>simp [h]
def mu (b:Nat) (v:Value) (W:World):Nat:=match v with
 | .bool true=>BZ b W+1
 | _=>0
theorem uW (b:Nat) (_hb8:gN≤b) (s:ByteArray) (w:World) (hs:s.size≤4398046511104) (hG:Abs.ko bG (fun _=>False) w) (n:Nat) (hn:1≤n) (hb:Boxed w b 9 (.string s)) :
  Hands Fence.wide n Tryz.prog 266 #[.pointer (some ⟨b,0,none⟩)] (fun x:ByteArray => #[Value.string x]) b (fun k=>k=b∨k<gN) (fun xs=>xs=(vY s.data.toList).map str) (s.size+1) w:=by
 intro l J W hW hz hJ hY h0
 have hbW:Boxed W b 9 (.string s):=jl hb (hW b (.inl rfl))
 have hGW:Abs.ko bG (fun _=>False) W:=FW hG (fun k hk=>hW k (.inr hk)) hz
 have cb:=hbW.cell
 have AD:=La s hs
 have hR:=Wv s.data.toList
 have hdn:(decide (s.data.toList≠[])) = !s.toList.isEmpty:=by
  rw [ByteArray.toList_eq]
  cases s.data.toList<;>simp
 rw [hdn] at hR
 have hR:=Lib.hid hR
 clear hdn
 generalize address s.data.toList=al at AD hR
 generalize vY s.data.toList=U at hR ⊢
 refine callsIn_of_wp Tryz.func266 rfl trivial ?_ rfl
 simp only [Tryz.ntmps266,List.size_toArray,List.length_cons,List.length_nil,Nat.reduceAdd,Nat.reduceSub,Array.replicate_succ,Array.replicate_zero,List.push_toArray,List.append_toArray,List.nil_append,List.cons_append]
 gi_wp2
 refine ⟨trivial,?_⟩
 refine (callsIn_wide.2 (AD _ hGW)).mono ?_
 rintro e w2 ⟨rfl,hb2⟩
 have g2:=fP hb2 none
 have hb':=hbW.kept g2 (by simp)
 have hj':=hJ _ _ _ none h0 g2 (.inl rfl)
 have cb:=hb'.cell
 clear AD hGW hbW
 gi_wp2
 have hfirst:(U.map str)=([]:List ByteArray)++(rest al s.data.toList (!s.toList.isEmpty)).map str:=by rw [hR.out];rfl
 have HF:=Lib.hid hfirst
 clear hfirst hR cb
 generalize (!s.toList.isEmpty)=em at HF
 gi_loopw [4] (fun v wr=>∃ (pre:List ByteArray) (cur:ByteArray) (more:Bool),v = .bool more∧Boxed wr b 9 (.string cur)∧RowKit.Hid (U.map str=pre++(rest al cur.data.toList more).map str)∧(more=true→pre.length+cur.size≤s.size)∧J pre wr) (fun v wr=>mu b v wr)
 case atStart=>exact ⟨[],s,em,rfl,hb',HF,fun _=>by simp,hj'⟩
 case round =>
  clear hb' hj' HF hb2 g2 hb hG h0
  obtain ⟨pre,cur,more,rfl,hb,hsp,hlen,hj⟩:=hrel
  have cb:=hb.cell
  cases more with
  | false =>
   have hfin:pre=U.map str:=by rw [hsp.out];simp [rest]
   clear hsp
   gi_wp2
   refine bodyPost_end (results_none rfl _ _ _) rfl ?_
   exact ⟨⟨_,rfl⟩,pre,hfin,hj⟩
  | true =>
   have hlen:=hlen rfl
   have hbl:=oO hb
   obtain ⟨fn,tmps,assign,body,hy,hRn⟩:=hY pre cur wr hj (by omega)
   cases al with
   | true =>
    have hfin:pre++[cur]=U.map str:=by rw [hsp.out];simp only [rest,cond_true,List.map_cons,List.map_nil];rw [show str cur.data.toList=cur from mkB cur]
    clear hsp
    gi_wp2
    refine hRn.mono ?_
    rintro e W3 ⟨rfl,hj3,hk3,hz3⟩
    gi_wp2
    refine bodyPost_ret (results_none rfl _ _ _) rfl ?_
    exact ⟨⟨_,rfl⟩,pre++[cur],hfin,hj3⟩
   | false =>
    have CUT:=fun w'=>Ai cur 46 w' (by omega)
    rcases mh 46 cur.data.toList with h|⟨a,r,hl,h⟩
    ·rw [sP h] at CUT
     have hnext:U.map str=(pre++[cur])++(rest false (str []).data.toList false).map str:=by
      rw [hsp.out,PK h];simp only [List.map_cons,rest,cond_false,List.map_nil,List.append_assoc,List.cons_append,List.nil_append]
      rw [show str cur.data.toList=cur from mkB cur]
     have HF:=Lib.hid hnext
     have CUT:=Lib.hid CUT
     clear h hnext hsp
     gi_wp2
     refine hRn.mono ?_
     rintro e W3 ⟨rfl,hj3,hk3,hz3⟩
     have hb3:=jl hb (hk3 b (.inl rfl))
     have cb:=hb3.cell
     gi_wp2
     refine ⟨trivial,?_⟩
     refine (callsIn_wide.2 (CUT.out _)).mono ?_
     rintro e w4 ⟨rfl,hb4⟩
     have g4:=fP hb4 none
     have hb5:=hb3.kept g4 (by simp)
     have hj5:=hJ _ _ _ none hj3 g4 (.inl rfl)
     have cb:=hb5.cell
     have fb:=hb5.frozen
     gi_wp2
     go_roundw
     case rel=>exact ⟨pre++[cur],str [],false,rfl,hb5.set _,HF,fun h=>(by cases h),hJ _ _ _ (some b) hj5 (grownBy_setCell' _ _ _) (.inr rfl)⟩
     case measure=>simp [mu]
    ·have hcut:cut 46 cur.data.toList=(a,r,true):=by rw [hl];exact pW h
     have hz:a.length+1+r.length=cur.size:=by
      have:cur.data.toList.length=cur.size:=by simp
      rw [hl] at this;simp at this;omega
     rw [hcut] at CUT
     have hnext:U.map str=(pre++[cur])++(rest false (str r).data.toList true).map str:=by
      rw [hsp.out,hl,XD h,← hl]
      simp only [List.map_cons,List.append_assoc,List.cons_append,List.nil_append]
      rw [show str cur.data.toList=cur from mkB cur,show (str r).data.toList=r from by simp [str]]
     have HF:=Lib.hid hnext
     have CUT:=Lib.hid CUT
     clear h hnext hsp hl hcut
     gi_wp2
     refine hRn.mono ?_
     rintro e W3 ⟨rfl,hj3,hk3,hz3⟩
     have hb3:=jl hb (hk3 b (.inl rfl))
     have cb:=hb3.cell
     gi_wp2
     refine ⟨trivial,?_⟩
     refine (callsIn_wide.2 (CUT.out _)).mono ?_
     rintro e w4 ⟨rfl,hb4⟩
     have g4:=fP hb4 none
     have hb5:=hb3.kept g4 (by simp)
     have hj5:=hJ _ _ _ none hj3 g4 (.inl rfl)
     have cb:=hb5.cell
     have fb:=hb5.frozen
     gi_wp2
     go_roundw
     case rel=>exact ⟨pre++[cur],str r,true,rfl,hb5.set _,HF,fun _=>by rw [aM];simp;omega,hJ _ _ _ (some b) hj5 (grownBy_setCell' _ _ _) (.inr rfl)⟩
     case measure=>simp only [mu];rw [oO (hb5.set _),hbl,aM];simp;omega
theorem Da (s:ByteArray) (w:World) :
  Calls Tryz.prog 254 #[.string s] w (fun e w'=>e = .returned (.func (.func 266) #[] #[.pointer (some ⟨w.heap.size,0,none⟩)])∧w'=w.alloc (.cells #[.string s] 9)):=by
 go_enter Tryz.func254,Tryz.ntmps254
 go_wp2_with fail
 go_ret
 exact ⟨rfl,rfl⟩
open Jv (jb Ag Bo) in
theorem Ev (gf:Nat) (lb:Array Value) (b:Nat) (K:Nat→Prop) (L:List ByteArray) (m:Nat) (w:World) (hb:K b) (hK:∀ k,K k→k<w.heap.size) (hm:m≤4398046511105) (eg:∀ args w,(callFunc gf args).run Tryz.prog w = .ok (.enter gf args) w)
  (hseq:∀ n,1≤n→∀ W:World,(∀ k,K k→W.heap[k]? = w.heap[k]?)→w.heap.size≤W.heap.size→Hands Fence.wide n Tryz.prog gf lb (fun x:ByteArray => #[Value.string x]) b K (fun xs=>xs=L) m W) :
  Calls Tryz.prog 265 #[.slice none 0 0,.func (.func gf) #[] lb] w (fun e w'=>∃ v,e = .returned v∧w'.ownsRow w.heap.size 9 1 v L.length (L.map Value.string)∧(∀ k,k<w.heap.size→k≠b→w'.heap[k]? = w.heap[k]?)∧w'.os=w.os∧w'.tape=w.tape∧w'.output=w.output∧w.heap.size≤w'.heap.size):=by
 refine (callsIn_wide (n:=3)).1 ?_
 obtain ⟨i0,hi,hz0,hz1,hz2⟩:=info_parts Bo
 refine callsIn_of_wp_marks Tryz.func265 rfl trivial ?_ rfl
 simp only [Tryz.ntmps265,List.size_toArray,List.length_cons,List.length_nil,Nat.reduceAdd,Nat.reduceSub,Array.replicate_succ,Array.replicate_zero,List.push_toArray,List.append_toArray,List.nil_append,List.cons_append]
 have bO:=Boxed.new w 83 (.slice none 0 0)
 have hB0:w.grownBy (w.alloc (.cells #[.slice none 0 0] 83)) (some b):=World.grownBy_alloc w _ _
 have hz:(w.alloc (.cells #[.slice none 0 0] 83)).heap.size=w.heap.size+1:=by simp
 gi_wp2
 have hKW:∀ k,K k→(w.alloc (.cells #[.slice none 0 0] 83)).heap[k]? = w.heap[k]? := fun k hk=>Below.heap_alloc _ _ _ (hK k hk)
 generalize (w.alloc (.cells #[.slice none 0 0] 83))=W0 at bO hB0 hz hKW ⊢
 have hbz:=hK b hb
 refine zl rfl (by omega) (gf:=gf) (lb:=lb) rfl trivial eg (K:=K) hb (fun k hk=>by have:=hK k hk;omega)
  (hseq _ (by omega) W0 hKW hB0.size) (fun _=>rfl)
  (fun pre W=>(∃ v,Boxed W w.heap.size 83 v∧W.ownsRow (w.heap.size+1) 9 1 v pre.length (pre.map Value.string))∧w.grownBy W (some b)) ?hI ?h0
  (fun x=>{ tmps := #[.slice none 0 0,.func (.func gf) #[] lb,.pointer (some ⟨w.heap.size,0,none⟩),undef,.slice none 0 0,.string x,.func (.func gf) #[] lb,.string x,undef,undef,undef,undef,undef],defers:=[] }) ?assign ?body ?done
 case hI =>
  rintro xs W W' row ⟨⟨v,hv,hr⟩,hB⟩ hg hrow
  refine ⟨⟨v,hv.kept hg (fun e=>?_),hr.kept hg ?_⟩,?_⟩
  ·rcases hrow _ e.symm with h|⟨h,_⟩<;>omega
  ·cases row with
   | none =>
    by_cases h:v.ownBlock=none
    ·exact .inl h
    ·exact .inr h
   | some r =>
    refine .inr (fun e=>?_)
    rcases hrow r rfl with h|⟨h,o,ho,hc⟩
    ·exact Ag hr (by omega) e
    ·rcases hr.2 with ⟨rfl,_⟩|⟨g,cap,cur,rfl,e2,e3,_⟩
     ·simp [Value.ownBlock] at e
     ·obtain rfl:g=r:=by simpa [Value.ownBlock] using e
      rw [e3] at ho;cases ho;cases hc
  ·refine ⟨hg.os.trans hB.os,hg.tape.trans hB.tape,hg.output.trans hB.output,Nat.le_trans hB.size hg.size,fun k hk hne=>(hg.block k (Nat.lt_of_lt_of_le hk hB.size) fun e=>?_).trans (hB.block k hk hne)⟩
   rcases hrow k e.symm with h|⟨h,_⟩
   ·exact hne (by rw [h])
   ·omega
 case h0=>exact ⟨⟨_,bO,World.ownsRow_nil _ _ _ _⟩,hB0⟩
 case assign =>
  intro l x W K hK
  gi_wp2
  exact hK
 case body =>
  rintro l pre x W ⟨⟨v,hv,hrow⟩,hB⟩ hlt hsz
  have hc:=hv.cell
  have hw:=hB.size
  have hml:pre.length+1≤maxLen:=by unfold maxLen;omega
  have hbd:(pre.length+1)*16≤140737488355328:=by omega
  gi_wp2_with (gi_at_builtin;refine wpListIn_append_own _ rfl _ _ 83 rfl (w.heap.size+1) 9 i0 (.string ⟨#[]⟩) 1 16 Tryz.underlying83 hi hz0 hz1 hz2 rfl (by decide) _ _ _ rfl (hrow.alloc _) ⟨W.heap.size,0,none⟩ 1 1 [.string x] rfl rfl (cell_one_new _ _ _) (by simp [Value.oneCell']) hml hbd (by simp;omega) ?_;intro v' w1 hown' hgrow _;obtain ⟨g',cap',rfl⟩:=ownsRow_succ hown';obtain ⟨hv1,hv2,hr2,hk2,hb2⟩:=hv.appended (by decide) (jb (a:=w.heap.size) hrow (by omega)) hB.size (Nat.le_refl _) (jb hown' (by omega)) hgrow;have hc1:=hv1.cell;have hf1:=hv1.frozen)
  exact ⟨hk2,fun k hk=>hb2.block k (hK k hk),⟨_,hv2,by simpa using hown'.kept (grownBy_setCell' w1 _ _) (.inr (hv1.not_row (by decide) hown').symm)⟩,⟨hb2.os.trans hB.os,hb2.tape.trans hB.tape,hb2.output.trans hB.output,Nat.le_trans hw hb2.size,fun k hk hne=>(hb2.block k hk).trans (hB.block k hk hne)⟩⟩
 case done =>
  rintro D ys W hD hys ⟨⟨v,hv,hrow⟩,hB⟩ hK
  have hc:=hv.cell
  gi_wp2
  refine ⟨by simp,.inl ⟨_,_,rfl,run_takeDeferred hK,?_⟩⟩
  refine ⟨_,results_tmp rfl _ _ _,v,rfl,?_,?_⟩
  ·have hr:=ownsRow_putObj (jb (a:=w.heap.size) hrow (by omega)) (.deferred none) hK rfl
   rw [hys] at hr
   simpa using hr
  ·exact ⟨fun k hk hne=>(World.putObj_heap_other (by omega)).trans (hB.block k hk (fun e=>hne (by simpa using e))),hB.os,hB.tape,hB.output,by simpa using hB.size⟩
theorem J6 (gf:Nat) (lb:Array Value) (b:Nat) (K:Nat→Prop) (L:List ByteArray) (m:Nat) (w:World) (hb:K b) (hK:∀ k,K k→k<w.heap.size) (hm:m≤4398046511105) (eg:∀ args w,(callFunc gf args).run Tryz.prog w = .ok (.enter gf args) w)
  (hseq:∀ n,1≤n→∀ W:World,(∀ k,K k→W.heap[k]? = w.heap[k]?)→w.heap.size≤W.heap.size→Hands Fence.wide n Tryz.prog gf lb (fun x:ByteArray => #[Value.string x]) b K (fun xs=>xs=L) m W) :
  Calls Tryz.prog 253 #[.func (.func gf) #[] lb] w (fun e w'=>∃ v,e = .returned v∧w'.ownsRow w.heap.size 9 1 v L.length (L.map Value.string)∧(∀ k,k<w.heap.size→k≠b→w'.heap[k]? = w.heap[k]?)∧w'.os=w.os∧w'.tape=w.tape∧w'.output=w.output∧w.heap.size≤w'.heap.size):=by
 have AS:=Ev gf lb b K L m w hb hK hm eg hseq
 clear hseq
 go_enter Tryz.func253,Tryz.ntmps253
 go_wp2_with fail
 with_reducible refine AS.mono ?_
 rintro e w' ⟨v,rfl,h2⟩
 go_wp2_with fail
 go_ret
 exact ⟨_,rfl,h2⟩
theorem YA (s:ByteArray) (hs:s.size≤4398046511104) (w:World) (hG:Abs.ko bG (fun _=>False) w):Calls Tryz.prog 231 #[.string s] w (Bl w.heap.size 9 (vY s.data.toList).length (((vY s.data.toList).map str).map Value.string) w):=by
 have hgn:gN≤w.heap.size:=hG.1
 have hi:∀ n,1≤n→∀ W:World,(∀ k,(k=w.heap.size∨k<gN)→W.heap[k]? = (w.alloc (.cells #[.string s] 9)).heap[k]?)→(w.alloc (.cells #[.string s] 9)).heap.size≤W.heap.size→Hands Fence.wide n Tryz.prog 266 #[.pointer (some ⟨w.heap.size,0,none⟩)] (fun x:ByteArray => #[Value.string x]) w.heap.size (fun k=>k=w.heap.size∨k<gN) (fun xs=>xs=(vY s.data.toList).map str) (s.size+1) W:=fun n hn W hW hz=>by
  refine uW w.heap.size hgn s W hs ?_ n hn ?_
  ·refine FW hG (fun k hk=>(hW k (.inr hk)).trans (Below.heap_alloc _ _ _ (by omega))) (by simp at hz;omega)
  ·exact jl (Boxed.new w 9 (.string s)) (hW _ (.inl rfl))
 have CO:=J6 266 #[.pointer (some ⟨w.heap.size,0,none⟩)] w.heap.size (fun k=>k=w.heap.size∨k<gN) ((vY s.data.toList).map str) (s.size+1) (w.alloc (.cells #[.string s] 9)) (.inl rfl) (fun k hk=>by simp;omega) (by omega) (enters_of Tryz.func266 (by kernel_rfl) rfl) hi
 clear hi
 go_enter Tryz.func231,Tryz.ntmps231
 go_wp2_with fail
 with_reducible refine (Da s _).mono ?_
 rintro e w1 ⟨rfl,rfl⟩
 go_wp2_with fail
 with_reducible refine CO.mono ?_
 rintro e w' ⟨v,rfl,h2,h3,h4,h5,h6,h7⟩
 go_wp2_with fail
 go_ret
 have hz:(w.alloc (.cells #[.string s] 9)).heap.size=w.heap.size+1:=by simp
 rw [hz] at h2 h3 h7
 refine ⟨_,rfl,Jv.jb (a:=w.heap.size) (by simpa using h2) (by omega),⟨h4,h5,h6,by omega,fun k hk=>(h3 k (by omega) (by omega)).trans (Below.heap_alloc _ _ _ hk)⟩⟩
open Abs bP in
theorem adb {l:List UInt8} (hl:l.length≤4398046511104):av Tryz.prog bG 231 [au l] (yh (vY l)):=fun N w vs hG hN hlen hv=>by
 obtain ⟨vs⟩:=vs
 match vs,hlen with
 | [x0],_ =>
  obtain ⟨rfl,h0⟩:=iG (hv 0 _ x0 rfl rfl)
  refine (YA _ (by rw [Abs.aM];exact hl) w (hG.sub fun _ h=>h.elim)).mono fun e w' ⟨v,h1,h2,h3⟩=>⟨_,h1,h3,?_⟩
  rw [bf,List.map_map] at h2
  have hle:=EX l
  have hml:∀ x∈vY l,x.length≤l.length:=fun x hx=>by
   unfold vY at hx
   split at hx
   ·cases hx
   ·split at hx
    ·rw [List.mem_singleton] at hx;rw [hx];exact Nat.le_refl _
    ·rcases List.mem_cons.1 hx with rfl|hx
     ·exact Nat.le_refl _
     ·obtain ⟨y,rfl⟩:=(om x l).1 hx
      simp;omega
  refine Om hN ?_ (fun x hx=>?_) h2
  ·unfold vY
   split
   ·simp [LIM]
   ·split
    ·simp [LIM]
    ·simp only [List.length_cons,LIM];omega
  ·have:=hml x hx;simp only [dS];omega
end Lp
namespace OQ
open Go.RowKit Mem Abs dh iM iZ qV iw wH Lp bP bR cZ fw
theorem b1:fM ([87,87,87,46,69,120,97,109,112,108,101,46,67,79,77]:List UInt8)=(([119,119,119,46,101,120,97,109,112,108,101,46,99,111,109]:List UInt8),0):=by decide +kernel
theorem b2:fM ([97,46,46,98]:List UInt8)=([],1):=by decide +kernel
end OQ
namespace U0
open Go.RowKit Mem Abs dh iM iZ qV iw wH Lp OQ bP bR cZ fw
end U0
namespace Ab
open Go.RowKit Mem Abs dh iM iZ qV iw wH Lp OQ U0 bP bR cZ fw fT
variable {a:aG} {k:Nat} {l:List UInt8} {r:aG} {L:List aG}
theorem abv (l:List UInt8):(gX 46 l).2.1=up l:=by
 rcases mh 46 l with h|⟨a,r,rfl,h⟩
 ·rw [Fu h,Yt h]
 ·rw [OI h,acS h]
theorem Pz:aj Tryz.prog 61 [au l] (au (up l)):=by
 have c1:=Ki (c:=46) (l:=l)
 rw [abv] at c1
 refine aW af Tryz.func61 rfl Tryz.ntmps61 Tryz.results61 rfl fun N=>?_
 repeat' (first|refine zV ?_|(refine isR ?_;refine zk c1 ?_)|refine zW ?_|exact ai)
 rfl
theorem yN (l:List UInt8):cu l=(decide ((fM l).2=0)&&decide ((fM l).1=l)):=by
 unfold cu
 obtain ⟨a,b⟩:=fM l
 simp [Bool.and_comm,Prod.mk.injEq,Bool.decide_and]
theorem vJ:aj Tryz.prog 59 [au l] (.bool (cu l)):=by
 have c1:=Ou (l:=l)
 rw [yN]
 generalize fM l=p at *
 obtain ⟨h,n⟩:=p
 dsimp only [pairT] at c1
 refine aW af Tryz.func59 rfl Tryz.ntmps59 Tryz.results59 rfl fun N=>?_
 by_cases h0:n=0
 ·subst h0
  by_cases h1:h=l
  ·subst h1
   repeat' (first|refine zV ?_|(refine isR ?_;refine zk c1 ?_)|refine zW ?_|exact ai)
   simp;rfl
  ·repeat' (first|refine zV ?_|(refine isR ?_;refine zk c1 ?_)|refine zW ?_|exact ai)
   simp [h1];rfl
 ·repeat' (first|refine zV ?_|(refine isR ?_;refine zk c1 ?_)|refine zW ?_|exact ai)
  simp [h0];rfl
abbrev uZ (L:List aG):Abs.V:=.fro (L.map aG.v)
def ekS:Ty:=(nth tb 108).get rfl
theorem BS (a b:aG):eqK ekS a.v b.v=decide (a=b):=by
 have h:eqK ekS a.v b.v=(decide (a.kind=b.kind)&&(eqS (au a.name) (au b.name)&&true)):=rfl
 rw [h,ji,Bool.and_true]
 obtain ⟨a1,a2⟩:=a
 obtain ⟨b1,b2⟩:=b
 by_cases h1:a1=b1<;>by_cases h2:a2=b2<;>simp [h1,h2]
def mk (p:aG × Nat):Abs.V × Abs.V:=(p.1.v,.int .i64 (p.2:Int))
theorem Km (a:aG) (M:List (aG × Nat)):(a ∉ M.map (·.1)∧dG ekS a.v (M.map mk) 0=none)∨(a∈M.map (·.1)∧∃ i n,dG ekS a.v (M.map mk) 0=some i∧(M.map mk)[i]? = some (a.v,.int .i64 (n:Nat))):=by
 rcases J4 (e:=ekS) (k:=a.v) (es:=M.map mk) (i:=0) with h|⟨j,p,h1,h2,h3,h4⟩
 ·by_cases hm:a∈M.map (·.1)
  ·obtain ⟨q,hq,rfl⟩:=List.mem_map.1 hm
   obtain ⟨i,hi⟩:=List.mem_iff_getElem?.1 hq
   exfalso
   have:∀ (M:List (aG × Nat)) (i k:Nat),M[i]? = some q→dG ekS q.1.v (M.map mk) k≠none:=by
    intro M
    induction M with
    | nil=>intro i k h;simp at h
    | cons x M ih =>
     intro i k h
     rw [List.map_cons,dG]
     cases hb:eqK ekS q.1.v (mk x).1 with
     | true=>simp
     | false =>
      rw [cond_false]
      rcases i with _|i
      ·simp at h;subst h
       have:=BS x.1 x.1
       rw [show (mk x).1=x.1.v from rfl,this] at hb
       simp at hb
      ·exact ih i (k+1) (by simpa using h)
   exact this M i 0 hi h
  ·exact .inl ⟨hm,h⟩
 ·rw [List.getElem?_map,Option.map_eq_some_iff] at h2
  obtain ⟨q,hq,rfl⟩:=h2
  have e:a=q.1:=by
   rw [show (mk q).1=q.1.v from rfl,BS] at h3
   simpa using h3
  subst e
  refine .inr ⟨List.mem_map.2 ⟨q,List.mem_of_getElem? hq,rfl⟩,j,q.2,by simpa using h1,?_⟩
  rw [List.getElem?_map,hq];rfl
theorem acv {M:List (aG × Nat)}:aK Tryz.prog 232 [.mp 0,.int .i64 a.kind,au a.name] [.map (M.map mk)] (.bool (decide (a∈M.map (·.1)))) [some (.map (M.map mk))]:=by
 refine bL af Tryz.func232 rfl Tryz.ntmps232 Tryz.results232 rfl rfl rfl rfl fun N pl=>?_
 rcases Km a M with ⟨h1,h2⟩|⟨h1,i,n,h2,h3⟩
 ·rw [decide_eq_false h1]
  repeat' (first|refine zV ?_|(refine isR ?_;refine zM ?_)|refine zW ?_|refine aA [0] ?_ ?_|exact ai)
  ·rfl
  ·exact .on (.map (jK fun _=>rfl)) .nil
 ·rw [decide_eq_true h1]
  repeat' (first|refine zV ?_|(refine isR ?_;refine zM ?_)|refine zW ?_|refine aA [0] ?_ ?_|exact ai)
  ·rfl
  ·exact .on (.map (jK fun _=>rfl)) .nil
theorem OA {xs r:List Abs.V} (h:V.qH (.fro xs::r)):xs.length≤140737488355328∧V.qH r:=⟨h.1.1,h.2⟩
theorem kW:aj Tryz.prog 97 [uZ L,a.v] (.int .i64 (eY (fun r=>decide (a=r)) L)):=aj.lim fun hl=>by
 have hlim:=(OA hl).1
 have hx:((L.map aG.v).length:Int)=(L.length:Int):=by simp
 refine aX af Tryz.func97 rfl Tryz.ntmps97 Tryz.results97 rfl fun N=>?_
 repeat' (first|refine zW ?_|exact ai)
 refine bM (fun k=>⟨[(0,uZ L),(3,.fp a.v.cells 0),(7,.int .i64 (L.map aG.v).length),(8,.int .i64 (k:Int))],[],0,19⟩) (fun k=>k≤L.length∧rf (fun r => !decide (a=r)) L k) L.length 0 (by exact ai) ⟨Nat.zero_le _,F7⟩ ?_
 intro k ⟨hk,hq⟩
 by_cases hk2:k<L.length
 ·have e1:(L.map aG.v)[k]? = some (L[k]).v:=by simp [hk2]
  have e2:L[k]? = some L[k]:=by simp [hk2]
  generalize L[k]=b at e1 e2
  have he:=BS a b
  by_cases hab:a=b
  ·rw [decide_eq_true hab] at he
   repeat' (first|refine zW ?_|exact ai)
   rw [oD (fun j y hj hy=>by have:=hq j y hj hy;simpa using this) e2 (by simpa using hab)]
   rfl
  ·rw [decide_eq_false hab] at he
   repeat' (first|refine zW ?_|exact ai)
   exact ⟨⟨by omega,hq.on e2 (by simpa using hab)⟩,hk2,(by exact ai)⟩
 ·repeat' (first|refine zW ?_|exact ai)
  rw [j4 (fun x hx=>by have:=List.all_eq_true.1 (hq.all hk2) x hx;simpa using this)]
  rfl
theorem eU:aj Tryz.prog 62 [uZ L,a.v] (.bool (decide (a∈L))):=by
 have c1:=kW (L:=L) (a:=a)
 have hg:=lD (p:=fun r=>decide (a=r)) (l:=L)
 have hm:L.any (fun r=>decide (a=r))=decide (a∈L):=by
  rw [Bool.eq_iff_iff,List.any_eq_true,decide_eq_true_eq]
  exact ⟨fun ⟨x,h1,h2⟩=>by have:=of_decide_eq_true h2;subst this;exact h1,fun h=>⟨a,h,by simp⟩⟩
 rw [hm] at hg
 generalize eY (fun r=>decide (a=r)) L=n at *
 generalize decide (a∈L)=x at *
 refine aX af Tryz.func62 rfl Tryz.ntmps62 Tryz.results62 rfl fun N=>?_
 by_cases h0:0≤n
 ·repeat' (first|refine zV ?_|(refine isR ?_;refine zk c1 ?_)|refine zW ?_|exact ai)
  rw [hg.1 h0];rfl
 ·have:x=false:=by
   cases x with
   | true=>exact absurd (hg.2 rfl) h0
   | false=>rfl
  repeat' (first|refine zV ?_|(refine isR ?_;refine zk c1 ?_)|refine zW ?_|exact ai)
  rw [this];rfl
theorem sV (h:L[k]? = some r):jq (L.take k) (L.drop k)=if oI r≠0 then oI r else if r∈L.take k then 6 else jq (L.take (k+1)) (L.drop (k+1)):=by
 obtain ⟨hk,rfl⟩:=List.getElem?_eq_some_iff.1 h
 rw [List.drop_eq_getElem_cons hk,jq,List.take_succ_eq_append_getElem hk]
theorem Kz (h:r.kind<1∨3<r.kind):oI r=7:=by unfold oI;rw [if_pos h]
theorem DR (h:¬ (r.kind<1∨3<r.kind)) (h2:cu r.name=false∨address r.name=true∨(r.kind=3∧up r.name=[])):oI r=1:=by unfold oI;rw [if_neg h,if_pos h2]
theorem aaO (h:¬ (r.kind<1∨3<r.kind)) (h2:¬ (cu r.name=false∨address r.name=true∨(r.kind=3∧up r.name=[]))):oI r=0:=by unfold oI;rw [if_neg h,if_neg h2]
theorem sN {n:Nat} (h:L[k]? = some r) (hc:jq (L.take k) (L.drop k)=bA L) (hb:oI r=n) (hn:n≠0):bA L=n:=by
 rw [← hc,sV h,hb,if_pos hn]
theorem MU (h:L[k]? = some r) (hc:jq (L.take k) (L.drop k)=bA L) (hb:oI r=0) (hm:r∈L.take k):bA L=6:=by
 rw [← hc,sV h,hb,if_neg (by simp),if_pos hm]
theorem WX (h:L[k]? = some r) (hc:jq (L.take k) (L.drop k)=bA L) (hb:oI r=0) (hm:r ∉ L.take k):jq (L.take (k+1)) (L.drop (k+1))=bA L:=by
 rw [← hc,sV h,hb,if_neg (by simp),if_neg hm]
theorem Vx (hk:¬ k<L.length) (hc:jq (L.take k) (L.drop k)=bA L):bA L=0:=by
 rw [← hc,List.drop_eq_nil_of_le (by omega)];rfl
theorem lq:av Tryz.prog bG 30 [uZ L] (.int .i64 (bA L:Nat)):=by
 have hx:((L.map aG.v).length:Int)=(L.length:Int):=by simp
 refine mV af Tryz.func30 rfl Tryz.ntmps30 Tryz.results30 rfl fun N=>?_
 by_cases h16:16<L.length
 ·repeat' (first|refine zW ?_|(refine zs ?_ ?_<;>intro hc)|exact ai)
  have:bA L=2:=by unfold bA;rw [if_pos h16]
  rw [this];rfl
 ·have h0:jq (L.take 0) (L.drop 0)=bA L:=by unfold bA;rw [if_neg h16];rfl
  repeat' (first|refine zW ?_|(refine zs ?_ ?_<;>intro hc)|exact ai)
  refine bM (fun k=>⟨[(0,uZ L),(8,uZ L),(9,.int .i64 (L.map aG.v).length),(10,.int .i64 (k:Int))],[],0,48⟩) (fun k=>k≤L.length∧jq (L.take k) (L.drop k)=bA L) L.length 0 (by exact ai) ⟨Nat.zero_le _,h0⟩ ?_
  intro k ⟨hk,hcc⟩
  by_cases hk2:k<L.length
  ·have e1:(L.map aG.v)[k]? = some (L[k]).v:=by simp [hk2]
   have e2:L[k]? = some L[k]:=by simp [hk2]
   generalize L[k]=r at e1 e2
   by_cases h7:r.kind<1∨3<r.kind
   ·rcases h7 with h7|h7
    ·repeat' (first|refine zW ?_|(refine zs ?_ ?_<;>intro hc)|exact ai)
     rw [sN e2 hcc (Kz (.inl h7)) (by decide)];rfl
    ·repeat' (first|refine zW ?_|(refine zs ?_ ?_<;>intro hc)|exact ai)
     rw [sN e2 hcc (Kz (.inr h7)) (by decide)];rfl
   ·have c1:=vJ (l:=r.name)
    have c2:=uj (l:=r.name)
    have c3:=Pz (l:=r.name)
    have c4:=eU (L:=L.take k) (a:=r)
    by_cases hh:cu r.name=true
    ·rw [hh] at c1
     have c2:=c2 (by have:=((qL _).1 hh).len;omega)
     by_cases ha:address r.name=true
     ·rw [ha] at c2
      repeat' (first|refine zV ?_|(refine isR ?_;first|refine zk c1 ?_|refine zk c2 ?_)|refine zW ?_|(refine zs ?_ ?_<;>intro hc)|exact ai)
      rw [sN e2 hcc (DR h7 (.inr (.inl ha))) (by decide)];rfl
     ·simp only [Bool.not_eq_true] at ha
      rw [ha] at c2
      by_cases h3:r.kind=3∧up r.name=[]
      ·rw [h3.2] at c3
       have h3':=h3.1
       repeat' (first|refine zV ?_|(refine isR ?_;first|refine zk c1 ?_|refine zk c2 ?_|refine zk c3 ?_)|refine zW ?_|(refine zs ?_ ?_<;>intro hc)|exact ai)
       rw [sN e2 hcc (DR h7 (.inr (.inr h3))) (by decide)];rfl
      ·have hb:oI r=0:=aaO h7 (by rw [hh,ha];simpa using h3)
       by_cases hm:r∈L.take k
       ·rw [decide_eq_true hm] at c4
        repeat' (first|refine zV ?_|(refine isR ?_;first|refine zk c1 ?_|refine zk c2 ?_|refine zk c3 ?_|refine zk c4 ?_)|refine zW ?_|(refine zs ?_ ?_<;>intro hc)|exact ai)
        all_goals first
         | (exact absurd ⟨by assumption,by assumption⟩ h3)
         | (rw [MU e2 hcc hb hm];rfl)
       ·rw [decide_eq_false hm] at c4
        repeat' (first|refine zV ?_|(refine isR ?_;first|refine zk c1 ?_|refine zk c2 ?_|refine zk c3 ?_|refine zk c4 ?_)|refine zW ?_|(refine zs ?_ ?_<;>intro hc)|exact ai)
        all_goals first
         | (exact absurd ⟨by assumption,by assumption⟩ h3)
         | exact ⟨⟨by omega,WX e2 hcc hb hm⟩,hk2,(by exact ai)⟩
    ·simp only [Bool.not_eq_true] at hh
     rw [hh] at c1
     repeat' (first|refine zV ?_|(refine isR ?_;refine zk c1 ?_)|refine zW ?_|(refine zs ?_ ?_<;>intro hc)|exact ai)
     rw [sN e2 hcc (DR h7 (.inl hh)) (by decide)];rfl
  ·repeat' (first|refine zW ?_|(refine zs ?_ ?_<;>intro hc)|exact ai)
   rw [Vx hk2 hcc];rfl
end Ab
end Go.Proofs.YtlfdjpgghiemfaaGreatDoor
