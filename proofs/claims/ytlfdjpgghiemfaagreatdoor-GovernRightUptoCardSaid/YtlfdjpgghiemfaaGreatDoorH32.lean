/- Texts of the proof, joined: JarT, JarJ, JarU, RjP, PurA, HostE, HostF, HostG. -/
import Derived.Test.YtlfdjpgghiemfaaGreatDoorH31
import Derived.Test.YtlfdjpgghiemfaaGreatDoorH28
set_option maxHeartbeats 4000000
set_option maxRecDepth 100000
namespace Go.Proofs.YtlfdjpgghiemfaaGreatDoor
namespace M9
open Go.RowKit Mem Abs Scan fI gF iG iP iQ kY IL JU nu oZ XG Kc
abbrev stT (L:List ai) (nx now:Int) (f:From) (A B:List ai) (i:Nat):S:=⟨[(2,.int .i64 now),(4,.fp f.v.cells 0),(6,.loc 0 0 0),(10,.loc 2 0 0),(11,.own 3 0 B.length),(33,nV L.length),(34,nV i)],[(0,some (.els TJ 2 [noJ])),(1,some (rC A)),(2,some (rOn 1 L.length nx now)),(3,some (rC B))],4,67⟩
theorem aaN {Γ:iI} {L:List ai} {nx:Int} {now:Int} {f:From} {g:ai→Bool} {G:List ai} (c1:aj Tryz.prog 32 [dL L nx] (.int .i64 0)) (c2:aj Tryz.prog 132 [f.v,.int .i64 now] (.int .i64 0)) (c3:∀ c∈L,av Tryz.prog Γ 144 [c.v,f.v,.int .i64 now] (.bool (g c))) (hL:L.length≤12)
  (c4:aj Tryz.prog 145 [.fro (((L.filter g).map fun c=>{ c with used:=now }).map ai.v)] (.fro (G.map ai.v))) :
  av Tryz.prog Γ 110 [dL L nx,f.v,.int .i64 now] (.tup [dL (L.map (jk g now)) nx,.fro (G.map ai.v),.int .i64 0]):=by
 have hml:(L.map ai.v).length=L.length:=List.length_map _
 have c5:=Ju (L:=L) (nx:=nx) (now:=now) (by omega)
 refine K8 af Tryz.func110 rfl Tryz.ntmps110 Tryz.results110 rfl fun N=>?_
 repeat' (first|refine zt ?_|(refine isR ?_;first|refine zo ?_|refine zk c1 ?_|refine zk c2 ?_|refine x_m [] [1,2] (c5 _) ?_|refine x_m [] [1,2] (c5) ?_|refine zX ?_)|refine zr ?_|exact ah)
 refine kP (t:=11) TC 13 (by decide) rfl rfl ?_
 refine fq (fun i=>stT L nx now f ((L.take i).map (jk g now)++L.drop i) (((L.take i).filter g).map fun c=>{ c with used:=now }) i) (fun i=>i≤L.length) L.length 0 (by exact ah) (Nat.zero_le _) ?_
 intro i hi
 by_cases hi2:i<L.length
 ·have hx:L[i]? = some L[i]:=by simp [hi2]
  have hlt:((L.take i).map (jk g now)).length=i:=by rw [List.length_map,List.length_take];omega
  have hA:((L.take i).map (jk g now)++L.drop i).length=L.length:=by rw [List.length_append,hlt,List.length_drop];omega
  have hAx:((L.take i).map (jk g now)++L.drop i)[i]? = some L[i]:=by
   rw [List.getElem?_append_right (by omega),hlt,Nat.sub_self,List.getElem?_drop]
   exact hx
  have hdc:L.drop i=L[i]::L.drop (i+1):=List.drop_eq_getElem_cons hi2
  have e1:∀ d,((L.take i).map (jk g now)++L.drop i).set i d=(L.take i).map (jk g now)++d::L.drop (i+1):=fun d=>by
   rw [List.set_append_right _ _ (by omega),hlt,Nat.sub_self,hdc];rfl
  have e3:(L.take (i+1)).map (jk g now)++L.drop (i+1)=(L.take i).map (jk g now)++jk g now L[i]::L.drop (i+1):=by rw [List.take_add_one,hx,List.map_append,List.append_assoc];rfl
  have e2:((L.take (i+1)).filter g).map (fun c=>{ c with used:=now })=((L.take i).filter g).map (fun c=>{ c with used:=now })++if g L[i]=true then [{ L[i] with used:=now }] else []:=by
   rw [List.take_add_one,hx,List.filter_append,List.map_append]
   congr 1
   by_cases h:g L[i]=true<;>simp [h]
  have hB:(((L.take i).filter g).map fun c=>{ c with used:=now }).length≤100:=by rw [List.length_map];exact Nat.le_trans (List.length_filter_le _ _) (by simp;omega)
  have cg:=c3 L[i] (List.getElem_mem hi2)
  have e4:=e1 { L[i] with used:=now }
  have e5:(L.take i).map (jk g now)++L[i]::L.drop (i+1)=(L.take i).map (jk g now)++L.drop i:=by rw [hdc]
  generalize L[i]=c at *
  generalize (L.take (i+1)).map (jk g now)++L.drop (i+1)=A1 at *
  generalize ((L.take (i+1)).filter g).map (fun c=>{ c with used:=now })=B1 at *
  generalize hAA:(L.take i).map (jk g now)++L.drop i=A at *
  generalize ((L.take i).filter g).map (fun c=>{ c with used:=now })=B at *
  subst e2
  have hAm:(A.map ai.v).length=A.length:=List.length_map _
  by_cases h:g c=true
  ·rw [h] at cg
   rw [show jk g now c = { c with used:=now } from if_pos h] at e3
   rw [if_pos h]
   have hAx2:(A.set i { c with used:=now })[i]? = some { c with used:=now }:=by rw [List.getElem?_set,if_pos rfl,if_pos (by omega)]
   rw [← e4] at e3
   subst e3
   repeat' (first|(refine isR ?_;first|refine aJ rfl rfl rfl (Cr rfl) (hT rfl Abs.h0) ?_|refine aJ rfl rfl rfl (qw rfl rfl) (hT rfl Abs.h0) ?_|refine aJ rfl rfl rfl (gX af rfl rfl rfl rfl rfl) (hT rfl Abs.h0) ?_|refine cZ ai.v i af ?_)|refine zt ?_|(refine isR ?_;first|refine zo ?_|refine zk cg ?_|refine aak ai.v (a1:={ c with used:=now }) i af ?_|refine kL ai.v (a1:=({ c with used:=now })) af ?_|refine MN af ?_|refine zA ?_|refine zL ?_|refine zc1 ?_|refine zc5 ?_|refine zc6 ?_|refine zI ?_)|refine zr ?_|exact ah)
   refine ⟨by omega,hi2,?_⟩
   exact (by exact x_len [0,1,2,4])
  ·have h:g c=false:=by simpa using h
   rw [h] at cg
   rw [show jk g now c=c from if_neg (by rw [h];simp),e5] at e3
   rw [if_neg (by rw [h];simp),List.append_nil]
   subst e3
   repeat' (first|(refine isR ?_;first|refine aJ rfl rfl rfl (Cr rfl) (hT rfl Abs.h0) ?_|refine aJ rfl rfl rfl (qw rfl rfl) (hT rfl Abs.h0) ?_|refine aJ rfl rfl rfl (gX af rfl rfl rfl rfl rfl) (hT rfl Abs.h0) ?_|refine cZ ai.v i af ?_)|refine zt ?_|(refine isR ?_;first|refine zo ?_|refine zk cg ?_|refine MN af ?_|refine zA ?_|refine zL ?_|refine zc1 ?_|refine zc5 ?_|refine zc6 ?_|refine zI ?_)|refine zr ?_|exact ah)
   refine ⟨by omega,hi2,?_⟩
   exact (by exact x_len [0,1,2,3])
 ·obtain rfl:i=L.length:=by omega
  rw [List.take_length,List.drop_length,List.append_nil]
  have hlm:L.length=(L.map (jk g now)).length:=by simp
  repeat' (first|refine sM 2 0 1 hlm (fun _=>rfl) ?_|refine MK 3 11 rfl (fun _=>rfl) ?_|refine zt ?_|(refine isR ?_;first|refine zo ?_|refine zk c4 ?_|refine zX ?_)|refine zr ?_|exact ah)
  all_goals rfl
end M9
namespace Uw
open Go.RowKit Mem Abs Scan fI gF iG iP iQ ET kY qW IL JU
theorem Rl {L K:List ai} {nx nx2:Int} {b:Bool} (c1:aj Tryz.prog 52 [.fro (L.map ai.v),.fro (K.map ai.v)] (.bool (b))):aj Tryz.prog 21 [dL L nx,dL K nx2] (.bool (decide (nx=nx2)&&b)):=by
 by_cases h:nx=nx2
 ·rw [decide_eq_true h]
  cases b
  all_goals
   refine aW af Tryz.func21 rfl Tryz.ntmps21 Tryz.results21 rfl fun N=>?_
   repeat' (first|refine zt ?_|(refine isR ?_;first|refine zo ?_|refine zk c1 ?_|refine zc5 ?_)|refine zr ?_|exact ah)
   all_goals first|rfl|(exfalso;omega)
 ·rw [decide_eq_false h]
  cases b
  all_goals
   refine aW af Tryz.func21 rfl Tryz.ntmps21 Tryz.results21 rfl fun N=>?_
   repeat' (first|refine zt ?_|(refine isR ?_;first|refine zo ?_|refine zk c1 ?_|refine zc5 ?_)|refine zr ?_|exact ah)
   all_goals first|rfl|(exfalso;omega)
end Uw
namespace Sz
open Go.RowKit Mem Abs Scan fI gF iG iP iQ kY nu Uw EO Kc M9 Oq Rdy eO nP
variable {now:Int} {L:List ai} {nx:Int} {c:ai}
abbrev cI:ai:=⟨([105,100]:List UInt8),([55]:List UInt8),([115,104,111,112,46,99,111,109]:List UInt8),([47,99,97,114,116]:List UInt8),false,true,false,true,0,1060,1000,1000,0⟩
abbrev c8:ai:=⟨([105,100]:List UInt8),([56]:List UInt8),([115,104,111,112,46,99,111,109]:List UInt8),([47,99,97,114,116]:List UInt8),false,true,false,true,0,1060,1005,1005,0⟩
abbrev c9:ai:=⟨([105,100]:List UInt8),([56]:List UInt8),([115,104,111,112,46,99,111,109]:List UInt8),([47,99,97,114,116]:List UInt8),false,true,false,true,0,1060,1000,1005,0⟩
theorem acp {M:List ai} {nx2:Int} (h:iw L nx c now=0) (hp:sV L nx c now=(M,nx2)):aj Tryz.prog 109 [dL L nx,c.v,.int .i64 now] (.tup [dL M nx2,.int .i64 0]):=by
 have:=MF h
 rw [hp] at this
 exact this
theorem p2:aj Tryz.prog 109 [dL [cI] 1,c8.v,.int .i64 1005] (.tup [dL [c9] 1,.int .i64 0]):=acp (by decide +kernel) (by rfl)
theorem Rm (h:iw L nx c now≠0):aj Tryz.prog 109 [dL L nx,c.v,.int .i64 now] (.tup [noJ,.int .i64 ((iw L nx c now:Nat):Int)]):=by
 have c1:=og (L:=L) (nx:=nx)
 by_cases h0:dD L nx=0
 ·rw [h0] at c1
  exact Mf c1 h h0
 ·have e:iw L nx c now=dD L nx:=by unfold iw;rw [if_pos h0]
  rw [e]
  exact NV c1 (by omega)
theorem N8:aj Tryz.prog 21 [dL L nx,dL L nx] (.bool true):=by
 have:=Rl (nx:=nx) (nx2:=nx) (mZ.ER (L:=L) (K:=L))
 simpa using this
end Sz
namespace RjP
open Go.RowKit Mem Abs Scan fI gF iG iP iQ kY IL JU Uw EO Oq nu oZ XG Kc M9 Sz eO nP Rdy nH nR zP
theorem ME {f:From} {now:Int} (h:gq f now=0):f.host.length≤4398046511104:=by
 unfold gq at h
 split at h
 ·rename_i q
  have e:=q.1
  unfold bR at e
  have e:=of_decide_eq_true e
  unfold cu.dS at e
  split at e
  ·exact absurd (congrArg Prod.snd e) (by simp)
  ·omega
 ·cases h
abbrev adD (k n:Nat) (nx:Int):Abs.V:=.agg [.own k 0 n,.int .i64 nx]
end RjP
namespace Aq
open Go.RowKit Mem Abs eO cu gV dV Rdy Scan fI gF iG iP iQ kY nu oZ uR yh yO RjP
open lG (gD gu)
variable {g:Int} {P:Nat→Bool} {now nx:Int} {p:Pol} {U:List Int} {K:List ai} {c:ai}
abbrev TJR:Nat:=25
abbrev rJ (k n:Nat) (nx:Int):Blk:=.els TJR 2 [adD k n nx]
theorem Sv (hK:K.length≤100) (h:now<c.expiry):aK Tryz.prog 99 [c.v,.fp [.int .i64 now] 0,.loc 0 0 0] [rJ 1 K.length nx,rC K] (.tup []) [some (rJ 2 (K++[c]).length nx),none,some (rC (K++[c]))]:=by
 have c1:=vC (c:=c) (now:=now)
 rw [decide_eq_true h] at c1
 have hml:(K.map ai.v).length=K.length:=List.length_map _
 refine bP af Tryz.func99 rfl Tryz.ntmps99 Tryz.results99 rfl rfl rfl rfl fun N pl=>?_
 repeat' (first|refine zt ?_|(refine isR ?_;first|refine zo ?_|refine zk c1 ?_|refine kL ai.v (a1:=(c)) af ?_|refine MN af ?_)|refine aA [0,1,2] ?_ ?_|exact ah)
 all_goals first|rfl|exact .on (.ren rfl) (.no (.on (.same (aT fun _=>rfl)) .nil))
theorem VT (h:¬ now<c.expiry):aK Tryz.prog 99 [c.v,.fp [.int .i64 now] 0,.loc 0 0 0] [rJ 1 K.length nx,rC K] (.tup []) [some (rJ 1 K.length nx),some (rC K)]:=by
 have c1:=vC (c:=c) (now:=now)
 rw [decide_eq_false h] at c1
 refine bP af Tryz.func99 rfl Tryz.ntmps99 Tryz.results99 rfl rfl rfl rfl fun N pl=>?_
 repeat' (first|refine zt ?_|(refine isR ?_;first|refine zo ?_|refine zk c1 ?_)|refine aA [0,1] ?_ ?_|exact ah)
 all_goals first|rfl|exact .on (.ren rfl) (.on (.same (aT fun _=>rfl)) .nil)
abbrev stR (p:Pol) (g:Int) (P:Nat→Bool) (U:List Int) (now nx:Int) (L K:List ai) (k:Nat):S:=⟨[(5,.fp (V.cells (iZ p)) 0),(6,.fp (V.cells (gD g P U)) 0),(8,.loc 0 0 0),(9,.loc 1 0 0),(10,.fn (.func 99) [] [.fp [.int .i64 now] 0,.loc 1 0 0]),(18,.fro (L.map ai.v)),(19,nV L.length),(20,nV k)],[(0,some (.els TJR 2 [noJ])),(1,some (rJ 2 K.length nx)),(2,some (rC K))],3,35⟩
theorem ac4 {L:List ai} (h:OkP p) (hL:L.length≤12) (hd:∀ c∈L,c.domain.length≤4398046511104) (hc:∀ c∈L,isJ c.created=true):aR Tryz.prog bI 68 [dL L nx,iZ p,gD g P U,.int .i64 now] [] (adD 0 (dm p P U now L).length nx) [some (rC (dm p P U now L))]:=by
 have hml:(L.map ai.v).length=L.length:=List.length_map _
 refine bL af Tryz.func68 rfl Tryz.ntmps68 Tryz.results68 rfl rfl rfl rfl fun N pl=>?_
 repeat' (first|refine zt ?_|(refine isR ?_;first|refine zo ?_|refine zX ?_)|exact ah)
 refine jS 1 0 TC 13 rfl rfl (by decide) rfl ?_
 refine fq (fun k=>stR p g P U now nx L (dm p P U now (L.take k)) k) (fun k=>k≤L.length) L.length 0 (by exact ah) (Nat.zero_le _) ?_
 intro k hk
 by_cases hk2:k<L.length
 ·have hx:L[k]? = some L[k]:=by simp [hk2]
  have hon:=Yy (p:=p) (P:=P) (U:=U) (now:=now) L hx
  have hK:(dm p P U now (L.take k)).length≤100:=Nat.le_trans (wQ _) (by simp;omega)
  have hdc:=hd _ (List.getElem_mem hk2)
  have c3:=Jk (g:=g) (P:=P) (U:=U) h hdc
  have c4:=FI h hdc (hc _ (List.getElem_mem hk2))
  generalize L[k]=c at *
  have hm:=bT (f:=ai.v) hx
  generalize dm p P U now (L.take (k+1))=K1 at *
  generalize dm p P U now (L.take k)=K at *
  generalize bM p c=c2 at *
  generalize jd p P U c=b at *
  cases b with
  | false =>
   rw [if_neg (by simp),List.append_nil] at hon
   subst hon
   repeat' (first|refine zt ?_|(refine isR ?_;first|refine zo ?_|refine zk c3 ?_|refine zX ?_)|exact ah)
   refine ⟨by omega,hk2,?_⟩
   exact (by exact x_len [0,1,2])
  | true =>
   by_cases hv:now<c2.expiry
   ·rw [if_pos ⟨rfl,hv⟩] at hon
    subst hon
    have c5:=Sv (c:=c2) (nx:=nx) (now:=now) hK hv
    repeat' (first|refine zt ?_|(refine isR ?_;first|refine zo ?_|refine zk c3 ?_|refine zk c4 ?_|refine eZ [1,2] [4] (c5 _) ?_|refine eZ [1,2] [4] (c5) ?_|refine zX ?_)|exact ah)
    refine ⟨by omega,hk2,?_⟩
    exact (by exact x_len [0,1,4])
   ·rw [if_neg (fun q=>hv q.2),List.append_nil] at hon
    subst hon
    have c5:=VT (K:=K1) (c:=c2) (nx:=nx) (now:=now) hv
    repeat' (first|refine zt ?_|(refine isR ?_;first|refine zo ?_|refine zk c3 ?_|refine zk c4 ?_|refine eZ [1,2] [] (c5 _) ?_|refine eZ [1,2] [] (c5) ?_|refine zX ?_)|exact ah)
    refine ⟨by omega,hk2,?_⟩
    exact (by exact x_len [0,1,2])
 ·obtain rfl:k=L.length:=by omega
  rw [List.take_length]
  repeat' (first|refine zt ?_|(refine isR ?_;first|refine zo ?_|refine zX ?_)|refine aA [2] ?_ ?_|exact ah)
  ·rfl
  ·exact .on (.same (aT fun _=>rfl)) .nil
theorem PS:aj Tryz.prog 137 [iZ p,gD g P U] (.int .i64 ((jQ p g U:Nat):Int)):=by
 have c1:=BK (p:=p)
 have c2:=lG.lC (g:=g) (P:=P) (L:=U)
 unfold jQ
 by_cases h:eH p=0
 ·rw [if_neg (by rw [h];simp)]
  rw [h] at c1
  refine aW af Tryz.func137 rfl Tryz.ntmps137 Tryz.results137 rfl fun N=>?_
  repeat' (first|refine zt ?_|(refine isR ?_;first|refine zo ?_|refine zk c1 ?_|refine zk c2 ?_|refine zc6 ?_)|refine zr ?_|exact ah)
  all_goals first|rfl|(exfalso;omega)
 ·rw [if_pos h]
  generalize eH p=q at *
  refine aW af Tryz.func137 rfl Tryz.ntmps137 Tryz.results137 rfl fun N=>?_
  repeat' (first|refine zt ?_|(refine isR ?_;first|refine zo ?_|refine zk c1 ?_|refine zk c2 ?_|refine zc6 ?_)|refine zr ?_|exact ah)
  all_goals first|rfl|(exfalso;omega)
def c0:ai:=⟨[],[],[],[],false,false,false,false,0,0,0,0,0⟩
theorem QU (h:OkP p) (h1:jQ p g U=0) (h2:isJ c.created=true) (hd:c.domain.length≤4398046511104) (h3:jd p P U c=false):av Tryz.prog bI 108 [iZ p,gD g P U,c.v] (.tup [c0.v,.int .i64 8]):=by
 have c2:=PS (p:=p) (g:=g) (P:=P) (U:=U)
 rw [h1] at c2
 have c3:=qP (n:=c.created)
 rw [h2] at c3
 have c4:=Jk (g:=g) (P:=P) (U:=U) h hd
 rw [h3] at c4
 refine K8 af Tryz.func108 rfl Tryz.ntmps108 Tryz.results108 rfl fun N=>?_
 repeat' (first|refine zt ?_|(refine isR ?_;first|refine zo ?_|refine zk c2 ?_|refine zk c3 ?_|refine zk c4 ?_|refine zc6 ?_)|refine zr ?_|exact ah)
 all_goals first|rfl|(exfalso;omega)
theorem LJ (h:OkP p) (h1:jQ p g U=0) (h2:isJ c.created=true) (hd:c.domain.length≤4398046511104) (h3:jd p P U c=true):av Tryz.prog bI 108 [iZ p,gD g P U,c.v] (.tup [(bM p c).v,.int .i64 0]):=by
 have c2:=PS (p:=p) (g:=g) (P:=P) (U:=U)
 rw [h1] at c2
 have c3:=qP (n:=c.created)
 rw [h2] at c3
 have c4:=Jk (g:=g) (P:=P) (U:=U) h hd
 rw [h3] at c4
 have c5:=FI h hd h2
 generalize bM p c=d at *
 refine K8 af Tryz.func108 rfl Tryz.ntmps108 Tryz.results108 rfl fun N=>?_
 repeat' (first|refine zt ?_|(refine isR ?_;first|refine zo ?_|refine zk c2 ?_|refine zk c3 ?_|refine zk c4 ?_|refine zk c5 ?_|refine zc6 ?_)|refine zr ?_|exact ah)
 all_goals first|rfl|(exfalso;omega)
end Aq
namespace Lm
open Go.RowKit Go.Shelf Mem bX yP dn Range cu eO
open FK (fO jF CU oP)
open vk (cut su pQ Bj)
open om (str aM mkB)
attribute [local go_sem] Oper.semAt_some
def Same (W w:World):Prop:=∀ k,k<gN→W.heap[k]? = w.heap[k]?
theorem FW {W w:World} (h:Abs.kC bI (fun _=>False) w) (hs:Same W w) (hz:w.heap.size≤W.heap.size):Abs.kC bI (fun _=>False) W:=by
 refine ⟨Nat.le_trans h.1 hz,fun b hb=>hb.elim,?_⟩
 have e:(fun i=>if i<bI.n then W.heap[i]? else none)=fun i=>if i<bI.n then w.heap[i]? else none:=by
  funext i
  by_cases hi:i<bI.n
  ·rw [if_pos hi,if_pos hi];exact hs i hi
  ·rw [if_neg hi,if_neg hi]
 rw [e];exact h.2.2
theorem LK (s:ByteArray) (hs:s.size≤4398046511104) (w:World) (hG:Abs.kC bI (fun _=>False) w):Calls Tryz.prog 60 #[.string s] w (Gives (.bool (address s.data.toList)) w):=by
 have h:=gV.tZ (l:=s.data.toList) (by simpa using hs)
 refine (h (fun _=>False) w #[.string s] hG (fun _ h=>h.elim) rfl fun i v x hv hx=>?_).mono fun e w' ⟨x,h1,h2,h3⟩=>⟨by rw [h1,Abs.Pn h3],h2⟩
 rcases i with _|i
 ·cases hv;cases hx
  rw [Abs.au,Abs.Bv]
  exact .str (by simp only [Abs.dY];omega)
 ·simp at hv
def rest (alone:Bool) (cur:List UInt8) (more:Bool):List (List UInt8):=bif more then (bif alone then [cur] else cur::after cur) else []
theorem Qq {cur:List UInt8} (h:cur.contains 46=false):rest false cur true=cur::rest false [] false:=by
 unfold rest
 simp [Nv cur h]
theorem XL {a r:List UInt8} (h:a.contains 46=false):rest false (a++46::r) true=(a++46::r)::rest false r true:=by
 unfold rest
 simp [after_at a r h]
theorem UD (l:List UInt8):rest (address l) l (decide (l≠[]))=xw l:=by
 unfold rest xw
 by_cases h:l=[]
 ·simp [h]
 ·cases address l<;>simp [h]
def mu (b:Nat) (v:Value) (W:World):Nat:=match v with
 | .bool true=>CU b W+1
 | _=>0
theorem vM (b:Nat) (_hb8:gN≤b) (s:ByteArray) (w:World) (hs:s.size≤4398046511104) (hG:Abs.kC bI (fun _=>False) w) (n:Nat) (hn:1≤n) (hb:Boxed w b 9 (.string s)) :
  Hands Fence.wide n Tryz.prog 266 #[.pointer (some ⟨b,0,none⟩)] (fun x:ByteArray => #[Value.string x]) b (fun k=>k=b∨k<gN) (fun xs=>xs=(xw s.data.toList).map str) (s.size+1) w:=by
 intro l J W hW hz hJ hY h0
 have hbW:Boxed W b 9 (.string s):=jF hb (hW b (.inl rfl))
 have hGW:Abs.kC bI (fun _=>False) W:=FW hG (fun k hk=>hW k (.inr hk)) hz
 have cb:=hbW.cell
 have AD:=LK s hs
 have hR:=UD s.data.toList
 have hdn:(decide (s.data.toList≠[])) = !s.toList.isEmpty:=by
  rw [ByteArray.toList_eq]
  cases s.data.toList<;>simp
 rw [hdn] at hR
 have hR:=Lib.hid hR
 clear hdn
 generalize address s.data.toList=al at AD hR
 generalize xw s.data.toList=U at hR ⊢
 refine callsIn_of_wp Tryz.func266 rfl trivial ?_ rfl
 simp only [Tryz.ntmps266,List.size_toArray,List.length_cons,List.length_nil,Nat.reduceAdd,Nat.reduceSub,Array.replicate_succ,Array.replicate_zero,List.push_toArray,List.append_toArray,List.nil_append,List.cons_append]
 gi_wp2
 refine ⟨trivial,?_⟩
 refine (callsIn_wide.2 (AD _ hGW)).mono ?_
 rintro e w2 ⟨rfl,hb2⟩
 have g2:=fO hb2 none
 have hb':=hbW.kept g2 (by simp)
 have hj':=hJ _ _ _ none h0 g2 (.inl rfl)
 have cb:=hb'.cell
 clear AD hGW hbW
 gi_wp2
 have hfirst:(U.map str)=([]:List ByteArray)++(rest al s.data.toList (!s.toList.isEmpty)).map str:=by rw [hR.out];rfl
 have HF:=Lib.hid hfirst
 clear hfirst hR cb
 generalize (!s.toList.isEmpty)=em at HF
 gi_loopw [4] (fun v wr=>∃ (pre:List ByteArray) (cur:ByteArray) (more:Bool),v = .bool more∧Boxed wr b 9 (.string cur)∧RowKit.Hid (U.map str=pre++(rest al cur.data.toList more).map str)∧(more=true→pre.length+cur.size≤s.size)∧J pre wr) (fun v wr=>mu b v wr)
 case atStart=>exact ⟨[],s,em,rfl,hb',HF,fun _=>by simp,hj'⟩
 case round =>
  clear hb' hj' HF hb2 g2 hb hG h0
  obtain ⟨pre,cur,more,rfl,hb,hsp,hlen,hj⟩:=hrel
  have cb:=hb.cell
  cases more with
  | false =>
   have hfin:pre=U.map str:=by rw [hsp.out];simp [rest]
   clear hsp
   gi_wp2
   refine bodyPost_end (results_none rfl _ _ _) rfl ?_
   exact ⟨⟨_,rfl⟩,pre,hfin,hj⟩
  | true =>
   have hlen:=hlen rfl
   have hbl:=oP hb
   obtain ⟨fn,tmps,assign,body,hy,hRn⟩:=hY pre cur wr hj (by omega)
   cases al with
   | true =>
    have hfin:pre++[cur]=U.map str:=by rw [hsp.out];simp only [rest,cond_true,List.map_cons,List.map_nil];rw [show str cur.data.toList=cur from mkB cur]
    clear hsp
    gi_wp2
    refine hRn.mono ?_
    rintro e W3 ⟨rfl,hj3,hk3,hz3⟩
    gi_wp2
    refine bodyPost_ret (results_none rfl _ _ _) rfl ?_
    exact ⟨⟨_,rfl⟩,pre++[cur],hfin,hj3⟩
   | false =>
    have CUT:=fun w'=>Bj cur 46 w' (by omega)
    rcases mW 46 cur.data.toList with h|⟨a,r,hl,h⟩
    ·rw [su h] at CUT
     have hnext:U.map str=(pre++[cur])++(rest false (str []).data.toList false).map str:=by
      rw [hsp.out,Qq h];simp only [List.map_cons,rest,cond_false,List.map_nil,List.append_assoc,List.cons_append,List.nil_append]
      rw [show str cur.data.toList=cur from mkB cur]
     have HF:=Lib.hid hnext
     have CUT:=Lib.hid CUT
     clear h hnext hsp
     gi_wp2
     refine hRn.mono ?_
     rintro e W3 ⟨rfl,hj3,hk3,hz3⟩
     have hb3:=jF hb (hk3 b (.inl rfl))
     have cb:=hb3.cell
     gi_wp2
     refine ⟨trivial,?_⟩
     refine (callsIn_wide.2 (CUT.out _)).mono ?_
     rintro e w4 ⟨rfl,hb4⟩
     have g4:=fO hb4 none
     have hb5:=hb3.kept g4 (by simp)
     have hj5:=hJ _ _ _ none hj3 g4 (.inl rfl)
     have cb:=hb5.cell
     have fb:=hb5.frozen
     gi_wp2
     go_roundw
     case rel=>exact ⟨pre++[cur],str [],false,rfl,hb5.set _,HF,fun h=>(by cases h),hJ _ _ _ (some b) hj5 (grownBy_setCell' _ _ _) (.inr rfl)⟩
     case measure=>simp [mu]
    ·have hcut:cut 46 cur.data.toList=(a,r,true):=by rw [hl];exact pQ h
     have hz:a.length+1+r.length=cur.size:=by
      have:cur.data.toList.length=cur.size:=by simp
      rw [hl] at this;simp at this;omega
     rw [hcut] at CUT
     have hnext:U.map str=(pre++[cur])++(rest false (str r).data.toList true).map str:=by
      rw [hsp.out,hl,XL h,← hl]
      simp only [List.map_cons,List.append_assoc,List.cons_append,List.nil_append]
      rw [show str cur.data.toList=cur from mkB cur,show (str r).data.toList=r from by simp [str]]
     have HF:=Lib.hid hnext
     have CUT:=Lib.hid CUT
     clear h hnext hsp hl hcut
     gi_wp2
     refine hRn.mono ?_
     rintro e W3 ⟨rfl,hj3,hk3,hz3⟩
     have hb3:=jF hb (hk3 b (.inl rfl))
     have cb:=hb3.cell
     gi_wp2
     refine ⟨trivial,?_⟩
     refine (callsIn_wide.2 (CUT.out _)).mono ?_
     rintro e w4 ⟨rfl,hb4⟩
     have g4:=fO hb4 none
     have hb5:=hb3.kept g4 (by simp)
     have hj5:=hJ _ _ _ none hj3 g4 (.inl rfl)
     have cb:=hb5.cell
     have fb:=hb5.frozen
     gi_wp2
     go_roundw
     case rel=>exact ⟨pre++[cur],str r,true,rfl,hb5.set _,HF,fun _=>by rw [aM];simp;omega,hJ _ _ _ (some b) hj5 (grownBy_setCell' _ _ _) (.inr rfl)⟩
     case measure=>simp only [mu];rw [oP (hb5.set _),hbl,aM];simp;omega
theorem BS (s:ByteArray) (w:World) :
  Calls Tryz.prog 254 #[.string s] w (fun e w'=>e = .returned (.func (.func 266) #[] #[.pointer (some ⟨w.heap.size,0,none⟩)])∧w'=w.alloc (.cells #[.string s] 9)):=by
 go_enter Tryz.func254,Tryz.ntmps254
 go_wp2_with fail
 go_ret
 exact ⟨rfl,rfl⟩
open FK (fe AJ Ck) in
theorem EN (gf:Nat) (lb:Array Value) (b:Nat) (K:Nat→Prop) (L:List ByteArray) (m:Nat) (w:World) (hb:K b) (hK:∀ k,K k→k<w.heap.size) (hm:m≤4398046511105) (eg:∀ args w,(callFunc gf args).run Tryz.prog w = .ok (.enter gf args) w)
  (hseq:∀ n,1≤n→∀ W:World,(∀ k,K k→W.heap[k]? = w.heap[k]?)→w.heap.size≤W.heap.size→Hands Fence.wide n Tryz.prog gf lb (fun x:ByteArray => #[Value.string x]) b K (fun xs=>xs=L) m W) :
  Calls Tryz.prog 265 #[.slice none 0 0,.func (.func gf) #[] lb] w (fun e w'=>∃ v,e = .returned v∧w'.ownsRow w.heap.size 9 1 v L.length (L.map Value.string)∧(∀ k,k<w.heap.size→k≠b→w'.heap[k]? = w.heap[k]?)∧w'.os=w.os∧w'.tape=w.tape∧w'.output=w.output∧w.heap.size≤w'.heap.size):=by
 refine (callsIn_wide (n:=3)).1 ?_
 obtain ⟨i0,hi,hz0,hz1,hz2⟩:=info_parts Ck
 refine callsIn_of_wp_marks Tryz.func265 rfl trivial ?_ rfl
 simp only [Tryz.ntmps265,List.size_toArray,List.length_cons,List.length_nil,Nat.reduceAdd,Nat.reduceSub,Array.replicate_succ,Array.replicate_zero,List.push_toArray,List.append_toArray,List.nil_append,List.cons_append]
 have bO:=Boxed.new w 83 (.slice none 0 0)
 have hB0:w.grownBy (w.alloc (.cells #[.slice none 0 0] 83)) (some b):=World.grownBy_alloc w _ _
 have hz:(w.alloc (.cells #[.slice none 0 0] 83)).heap.size=w.heap.size+1:=by simp
 gi_wp2
 have hKW:∀ k,K k→(w.alloc (.cells #[.slice none 0 0] 83)).heap[k]? = w.heap[k]? := fun k hk=>Below.heap_alloc _ _ _ (hK k hk)
 generalize (w.alloc (.cells #[.slice none 0 0] 83))=W0 at bO hB0 hz hKW ⊢
 have hbz:=hK b hb
 refine Aj rfl (by omega) (gf:=gf) (lb:=lb) rfl trivial eg (K:=K) hb (fun k hk=>by have:=hK k hk;omega)
  (hseq _ (by omega) W0 hKW hB0.size) (fun _=>rfl)
  (fun pre W=>(∃ v,Boxed W w.heap.size 83 v∧W.ownsRow (w.heap.size+1) 9 1 v pre.length (pre.map Value.string))∧w.grownBy W (some b)) ?hI ?h0
  (fun x=>{ tmps := #[.slice none 0 0,.func (.func gf) #[] lb,.pointer (some ⟨w.heap.size,0,none⟩),undef,.slice none 0 0,.string x,.func (.func gf) #[] lb,.string x,undef,undef,undef,undef,undef],defers:=[] }) ?assign ?body ?done
 case hI =>
  rintro xs W W' row ⟨⟨v,hv,hr⟩,hB⟩ hg hrow
  refine ⟨⟨v,hv.kept hg (fun e=>?_),hr.kept hg ?_⟩,?_⟩
  ·rcases hrow _ e.symm with h|⟨h,_⟩<;>omega
  ·cases row with
   | none =>
    by_cases h:v.ownBlock=none
    ·exact .inl h
    ·exact .inr h
   | some r =>
    refine .inr (fun e=>?_)
    rcases hrow r rfl with h|⟨h,o,ho,hc⟩
    ·exact AJ hr (by omega) e
    ·rcases hr.2 with ⟨rfl,_⟩|⟨g,cap,cur,rfl,e2,e3,_⟩
     ·simp [Value.ownBlock] at e
     ·obtain rfl:g=r:=by simpa [Value.ownBlock] using e
      rw [e3] at ho;cases ho;cases hc
  ·refine ⟨hg.os.trans hB.os,hg.tape.trans hB.tape,hg.output.trans hB.output,Nat.le_trans hB.size hg.size,fun k hk hne=>(hg.block k (Nat.lt_of_lt_of_le hk hB.size) fun e=>?_).trans (hB.block k hk hne)⟩
   rcases hrow k e.symm with h|⟨h,_⟩
   ·exact hne (by rw [h])
   ·omega
 case h0=>exact ⟨⟨_,bO,World.ownsRow_nil _ _ _ _⟩,hB0⟩
 case assign =>
  intro l x W K hK
  gi_wp2
  exact hK
 case body =>
  rintro l pre x W ⟨⟨v,hv,hrow⟩,hB⟩ hlt hsz
  have hc:=hv.cell
  have hw:=hB.size
  have hml:pre.length+1≤maxLen:=by unfold maxLen;omega
  have hbd:(pre.length+1)*16≤140737488355328:=by omega
  gi_wp2_with (gi_at_builtin;refine wpListIn_append_own _ rfl _ _ 83 rfl (w.heap.size+1) 9 i0 (.string ⟨#[]⟩) 1 16 Tryz.underlying83 hi hz0 hz1 hz2 rfl (by decide) _ _ _ rfl (hrow.alloc _) ⟨W.heap.size,0,none⟩ 1 1 [.string x] rfl rfl (cell_one_new _ _ _) (by simp [Value.oneCell']) hml hbd (by simp;omega) ?_;intro v' w1 hown' hgrow _;obtain ⟨g',cap',rfl⟩:=ownsRow_succ hown';obtain ⟨hv1,hv2,hr2,hk2,hb2⟩:=hv.appended (by decide) (fe (a:=w.heap.size) hrow (by omega)) hB.size (Nat.le_refl _) (fe hown' (by omega)) hgrow;have hc1:=hv1.cell;have hf1:=hv1.frozen)
  exact ⟨hk2,fun k hk=>hb2.block k (hK k hk),⟨_,hv2,by simpa using hown'.kept (grownBy_setCell' w1 _ _) (.inr (hv1.not_row (by decide) hown').symm)⟩,⟨hb2.os.trans hB.os,hb2.tape.trans hB.tape,hb2.output.trans hB.output,Nat.le_trans hw hb2.size,fun k hk hne=>(hb2.block k hk).trans (hB.block k hk hne)⟩⟩
 case done =>
  rintro D ys W hD hys ⟨⟨v,hv,hrow⟩,hB⟩ hK
  have hc:=hv.cell
  gi_wp2
  refine ⟨by simp,.inl ⟨_,_,rfl,run_takeDeferred hK,?_⟩⟩
  refine ⟨_,results_tmp rfl _ _ _,v,rfl,?_,?_⟩
  ·have hr:=ownsRow_putObj (fe (a:=w.heap.size) hrow (by omega)) (.deferred none) hK rfl
   rw [hys] at hr
   simpa using hr
  ·exact ⟨fun k hk hne=>(World.putObj_heap_other (by omega)).trans (hB.block k hk (fun e=>hne (by simpa using e))),hB.os,hB.tape,hB.output,by simpa using hB.size⟩
theorem J8 (gf:Nat) (lb:Array Value) (b:Nat) (K:Nat→Prop) (L:List ByteArray) (m:Nat) (w:World) (hb:K b) (hK:∀ k,K k→k<w.heap.size) (hm:m≤4398046511105) (eg:∀ args w,(callFunc gf args).run Tryz.prog w = .ok (.enter gf args) w)
  (hseq:∀ n,1≤n→∀ W:World,(∀ k,K k→W.heap[k]? = w.heap[k]?)→w.heap.size≤W.heap.size→Hands Fence.wide n Tryz.prog gf lb (fun x:ByteArray => #[Value.string x]) b K (fun xs=>xs=L) m W) :
  Calls Tryz.prog 253 #[.func (.func gf) #[] lb] w (fun e w'=>∃ v,e = .returned v∧w'.ownsRow w.heap.size 9 1 v L.length (L.map Value.string)∧(∀ k,k<w.heap.size→k≠b→w'.heap[k]? = w.heap[k]?)∧w'.os=w.os∧w'.tape=w.tape∧w'.output=w.output∧w.heap.size≤w'.heap.size):=by
 have AS:=EN gf lb b K L m w hb hK hm eg hseq
 clear hseq
 go_enter Tryz.func253,Tryz.ntmps253
 go_wp2_with fail
 with_reducible refine AS.mono ?_
 rintro e w' ⟨v,rfl,h2⟩
 go_wp2_with fail
 go_ret
 exact ⟨_,rfl,h2⟩
theorem YC (s:ByteArray) (hs:s.size≤4398046511104) (w:World) (hG:Abs.kC bI (fun _=>False) w):Calls Tryz.prog 231 #[.string s] w (yt w.heap.size 9 (xw s.data.toList).length (((xw s.data.toList).map str).map Value.string) w):=by
 have hgn:gN≤w.heap.size:=hG.1
 have hi:∀ n,1≤n→∀ W:World,(∀ k,(k=w.heap.size∨k<gN)→W.heap[k]? = (w.alloc (.cells #[.string s] 9)).heap[k]?)→(w.alloc (.cells #[.string s] 9)).heap.size≤W.heap.size→Hands Fence.wide n Tryz.prog 266 #[.pointer (some ⟨w.heap.size,0,none⟩)] (fun x:ByteArray => #[Value.string x]) w.heap.size (fun k=>k=w.heap.size∨k<gN) (fun xs=>xs=(xw s.data.toList).map str) (s.size+1) W:=fun n hn W hW hz=>by
  refine vM w.heap.size hgn s W hs ?_ n hn ?_
  ·refine FW hG (fun k hk=>(hW k (.inr hk)).trans (Below.heap_alloc _ _ _ (by omega))) (by simp at hz;omega)
  ·exact jF (Boxed.new w 9 (.string s)) (hW _ (.inl rfl))
 have CO:=J8 266 #[.pointer (some ⟨w.heap.size,0,none⟩)] w.heap.size (fun k=>k=w.heap.size∨k<gN) ((xw s.data.toList).map str) (s.size+1) (w.alloc (.cells #[.string s] 9)) (.inl rfl) (fun k hk=>by simp;omega) (by omega) (enters_of Tryz.func266 (by kernel_rfl) rfl) hi
 clear hi
 go_enter Tryz.func231,Tryz.ntmps231
 go_wp2_with fail
 with_reducible refine (BS s _).mono ?_
 rintro e w1 ⟨rfl,rfl⟩
 go_wp2_with fail
 with_reducible refine CO.mono ?_
 rintro e w' ⟨v,rfl,h2,h3,h4,h5,h6,h7⟩
 go_wp2_with fail
 go_ret
 have hz:(w.alloc (.cells #[.string s] 9)).heap.size=w.heap.size+1:=by simp
 rw [hz] at h2 h3 h7
 refine ⟨_,rfl,FK.fe (a:=w.heap.size) (by simpa using h2) (by omega),⟨h4,h5,h6,by omega,fun k hk=>(h3 k (by omega) (by omega)).trans (Below.heap_alloc _ _ _ hk)⟩⟩
open Abs bH in
theorem adn {l:List UInt8} (hl:l.length≤4398046511104):av Tryz.prog bI 231 [au l] (qM (xw l)):=fun N w vs hG hN hlen hv=>by
 obtain ⟨vs⟩:=vs
 match vs,hlen with
 | [x0],_ =>
  obtain ⟨rfl,h0⟩:=iJ (hv 0 _ x0 rfl rfl)
  refine (YC _ (by rw [Abs.aM];exact hl) w (hG.sub fun _ h=>h.elim)).mono fun e w' ⟨v,h1,h2,h3⟩=>⟨_,h1,h3,?_⟩
  rw [aY,List.map_map] at h2
  have hle:=FO l
  have hml:∀ x∈xw l,x.length≤l.length:=fun x hx=>by
   unfold xw at hx
   split at hx
   ·cases hx
   ·split at hx
    ·rw [List.mem_singleton] at hx;rw [hx];exact Nat.le_refl _
    ·rcases List.mem_cons.1 hx with rfl|hx
     ·exact Nat.le_refl _
     ·obtain ⟨y,rfl⟩:=(pz x l).1 hx
      simp;omega
  refine PO hN ?_ (fun x hx=>?_) h2
  ·unfold xw
   split
   ·simp [LIM]
   ·split
    ·simp [LIM]
    ·simp only [List.length_cons,LIM];omega
  ·have:=hml x hx;simp only [dY];omega
end Lm
namespace PI
open Go.RowKit Mem Abs cu iR jh rA gV xh Lm bH bX dn eO
theorem b1:dS ([87,87,87,46,69,120,97,109,112,108,101,46,67,79,77]:List UInt8)=(([119,119,119,46,101,120,97,109,112,108,101,46,99,111,109]:List UInt8),0):=by decide +kernel
theorem b2:dS ([97,46,46,98]:List UInt8)=([],1):=by decide +kernel
end PI
namespace VL
open Go.RowKit Mem Abs cu iR jh rA gV xh Lm PI bH bX dn eO
end VL
end Go.Proofs.YtlfdjpgghiemfaaGreatDoor
