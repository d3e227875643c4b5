/- Texts of the proof, joined: BothS, CookW, HeadL, CookQ. -/
import Derived.Test.YtlfdjpgghiemfaaGreatDoorH45
set_option maxHeartbeats 4000000
set_option maxRecDepth 100000
namespace Go.Proofs.YtlfdjpgghiemfaaGreatDoor
namespace Both
open Go.RowKit Mem Abs bH eO ql
variable {us:List Abs.V} {w:World} {r:Abs.V} {f:FuncId}
def JZ:iI:=⟨0+1,fun h=>∃ m T fr,h 0=some (.cells #[.int .i64 m] T fr)⟩
def kJ:iI:=⟨max bI.n JZ.n,fun f=>bI.P (fun i=>if i<bI.n then f i else none)∧JZ.P (fun i=>if i<JZ.n then f i else none)⟩
theorem Er {n m:Nat} (h:n≤m):(fun i=>if i<n then (if i<m then w.heap[i]? else none) else none)=fun i=>if i<n then w.heap[i]? else none:=by
 funext i
 by_cases hi:i<n
 ·rw [if_pos hi,if_pos hi,if_pos (Nat.lt_of_lt_of_le hi h)]
 ·rw [if_neg hi,if_neg hi]
theorem K5 {X:Nat→Prop} (h:kC kJ X w):kC bI X w:=by
 obtain ⟨h1,h2,h3,h4⟩:=h
 have e:=Er (w:=w) (Nat.le_max_left bI.n JZ.n)
 refine ⟨Nat.le_trans (Nat.le_max_left _ _) h1,fun b hb=>Nat.le_trans (Nat.le_max_left _ _) (h2 b hb),?_⟩
 rw [← e]
 exact h3
theorem nE (h:av Tryz.prog bI f us r):av Tryz.prog kJ f us r:=fun N w vs hG=>h N w vs (K5 hG)
theorem aaC {st:List Blk} {st2:List (Option Blk)} (h:aR Tryz.prog bI f us st r st2):aR Tryz.prog kJ f us st r st2:=fun N M φ w vs hR=>fun hl hv=>by
 have hg:=K5 hR.gl
 refine Calls.mono (h N M φ w vs ⟨hR.st,hR.inj,hR.lim,hR.dis,hg⟩ hl hv) ?_
 rintro e w2 ⟨x,M2,p2,g1,g2,g3,g4,g5,g6⟩
 exact ⟨x,M2,p2,g1,g2,g3,g4,⟨g5.st,g5.inj,g5.lim,g5.dis,hR.gl.stays (⟨g2.os,g2.tape,g2.output,g2.size,fun b hb hm=>g2.block b hb fun h=>hm (.inl h)⟩) (fun b hb h=>h.imp (g3 b hb) id)⟩,g6⟩
theorem YG:vV kJ:=⟨Nat.lt_of_lt_of_le (Nat.lt_succ_self _) (Nat.le_max_right _ _),fun _h ⟨_,m,T,fr,e⟩=>⟨m,T,fr,(if_pos (Nat.lt_succ_self _)).symm.trans e⟩⟩
theorem QC (h1:kC bI (fun _=>False) w) (h2:kC JZ (fun _=>False) w):kC kJ (fun _=>False) w:=by
 refine ⟨Nat.max_le.2 ⟨h1.1,h2.1⟩,fun b hb=>hb.elim,?_,?_⟩
 ·have:=h1.2.2
  rw [← Er (w:=w) (Nat.le_max_left bI.n JZ.n)] at this
  exact this
 ·have:=h2.2.2
  rw [← Er (w:=w) (Nat.le_max_right bI.n JZ.n)] at this
  exact this
theorem Vp {W:World} (hs:W.ShapedOpen Tryz.prog):kC JZ (fun _=>False) W:=by
 obtain ⟨m,hm⟩:=Tryz.Tj.s1_3 W hs
 have hm:W.cell? ⟨0,0,none⟩=some (.int .i64 m):=hm
 obtain ⟨cs,he,hz,_⟩:=hs.1 0 #[.int .i64 0] _ (of_decide_eq_true (by kernel_rfl)) (show ((begin Tryz.prog (fun _ _=>0) default).world.heap[0]?).bind Obj.row? = some (#[Value.int .i64 0],3) by kernel_rfl)
 have h1:=(Array.getElem?_eq_some_iff.1 he).1
 obtain ⟨l⟩:=cs
 match l,hz with
 | [x],_ =>
  have hx:x = .int .i64 m:=by
   have:=hm
   unfold World.cell? at this
   simp only [he] at this
   simpa using this
  subst hx
  exact ⟨h1,fun b h=>h.elim,m,_,_,(if_pos (Nat.lt_succ_self _)).trans he⟩
end Both
namespace aar
open Go.RowKit Mem Abs bH bX dn cu iR jh rA gV xh dV eO ql Dj j3 ko nS zl iE Both
variable {n:Int} {f:From} {now:Int} {l:List UInt8} {s:Int} {m:List UInt8}
theorem qP:aj Tryz.prog 37 [.int .i64 n] (.bool (isB n)):=fun g N w vs hG hN hlen hv=>by
 obtain ⟨vs⟩:=vs
 match vs,hlen with
 | [x0],_ =>
  obtain ⟨rfl,_⟩:=kS (hv 0 _ x0 rfl rfl)
  exact (ko.acF n w).mono fun e w' ⟨he,hbel⟩=>⟨_,he,hbel ▸ Below.refl _ _,.bool⟩
theorem Ux (h:isB n=true): -11644473600≤fV n s∧fV n s≤253402300799:=by
 have:=Qe.1 h
 unfold fV
 split<;>split<;>omega
theorem IV (h:isB n=true):aj Tryz.prog 165 [.int .i64 n,.int .i64 s] (.int .i64 (fV n s)):=fun g N w vs hG hN hlen hv=>by
 obtain ⟨vs⟩:=vs
 match vs,hlen with
 | [x0,x1],_ =>
  obtain ⟨rfl,_⟩:=kS (hv 0 _ x0 rfl rfl)
  obtain ⟨rfl,k1⟩:=kS (hv 1 _ x1 rfl rfl)
  have hb:=Qe.1 h
  have ha:=Ux (s:=s) h
  simp only [InR,rng] at k1
  exact (ko.Qg n s w hb.1 hb.2 k1.1 k1.2).mono fun e w' ⟨he,hbel⟩=>⟨_,he,hbel ▸ Below.refl _ _,.int ⟨by simp only [rng];omega,by simp only [rng];omega⟩⟩
theorem Gm (h:l.length≤400):aj Tryz.prog 133 [au l] (au (tC.dflt l)):=fun g N w vs hG hN hlen hv=>by
 obtain ⟨vs⟩:=vs
 match vs,hlen with
 | [x0],_ =>
  obtain ⟨rfl,h0⟩:=iJ (hv 0 _ x0 rfl rfl)
  have hd:=Z9.Y6 l
  refine (tC.zN (str l) w (by rw [aM];omega)).mono fun e w' ⟨he,hbel⟩=>⟨_,he,hbel ▸ Below.refl _ _,?_⟩
  rw [aY]
  exact .str (by rw [aM];simp only [dY];omega)
theorem EG:aj Tryz.prog 230 [au l,au m] (au (dJ l m).1):=aj.lim fun hl=>by
 obtain ⟨h1,hl⟩:=bH.gK hl
 obtain ⟨h2,_⟩:=bH.gK hl
 have c1:=lF (l:=l) (m:=m)
 unfold dJ
 cases hp:pre l m with
 | true =>
  have hle:=Ip hp
  rw [hp] at c1
  have e:l.drop ((m.length:Int)).toNat=l.drop m.length:=rfl
  rw [if_pos rfl]
  refine aW af Tryz.func230 rfl Tryz.ntmps230 Tryz.results230 rfl fun N=>?_
  repeat' (first|refine zt ?_|(refine isR ?_;first|refine zo ?_|refine zk c1 ?_|refine zX ?_)|refine zr ?_|exact ah)
  rfl
 | false =>
  rw [hp] at c1
  refine aW af Tryz.func230 rfl Tryz.ntmps230 Tryz.results230 rfl fun N=>?_
  repeat' (first|refine zt ?_|(refine isR ?_;first|refine zo ?_|refine zk c1 ?_|refine zX ?_)|refine zr ?_|exact ah)
  rfl
theorem IK:aj Tryz.prog 177 [au l,au m] (au (dJ l m).1):=by
 have c1:=EG (l:=l) (m:=m)
 refine aW af Tryz.func177 rfl Tryz.ntmps177 Tryz.results177 rfl fun N=>?_
 repeat' (first|refine zt ?_|(refine isR ?_;first|refine zo ?_|refine zk c1 ?_)|refine zr ?_|exact ah)
 rfl
theorem wH:aj Tryz.prog 132 [f.v,.int .i64 now] (.int .i64 (gq f now)):=by
 have c1:=Ay.vZ (l:=f.host)
 have c2:=gH (l:=f.path) (m:=[47])
 have c3:=Ki.Fy (s:=f.path)
 have c4:=Ki.fD (s:=f.path) (c:=59)
 have c5:=qP (n:=now)
 unfold gq
 obtain ⟨f1,f2,f3,f4,f5⟩:=f
 dsimp only at *
 generalize fQ.bR f1=x1 at *
 generalize pre f2 [47]=x2 at *
 generalize kZ.mQ f2=x3 at *
 generalize f2.contains 59=x4 at *
 generalize isB now=x5 at *
 show aj _ _ [.agg [au f1,au f2,.bool f3,.bool f4,.bool f5],.int .i64 now] _
 have z:∀ {p:Prop} [Decidable p] {a b:Int},¬ p→(if p then a else b)=b:=fun h=>if_neg h
 cases x1
 ·rw [z (by simp)]
  refine aW af Tryz.func132 rfl Tryz.ntmps132 Tryz.results132 rfl fun N=>?_
  repeat' (first|refine zt ?_|(refine isR ?_;first|refine zo ?_|refine zk c1 ?_|refine zX ?_)|refine zr ?_|exact ah)
  rfl
 cases x2
 ·rw [z (by simp)]
  refine aW af Tryz.func132 rfl Tryz.ntmps132 Tryz.results132 rfl fun N=>?_
  repeat' (first|refine zt ?_|(refine isR ?_;first|refine zo ?_|refine zk c1 ?_|refine zk c2 ?_|refine zX ?_)|refine zr ?_|exact ah)
  rfl
 cases x3
 ·rw [z (by simp)]
  refine aW af Tryz.func132 rfl Tryz.ntmps132 Tryz.results132 rfl fun N=>?_
  repeat' (first|refine zt ?_|(refine isR ?_;first|refine zo ?_|refine zk c1 ?_|refine zk c2 ?_|refine zk c3 ?_|refine zX ?_)|refine zr ?_|exact ah)
  rfl
 cases x4
 ·by_cases h:f2.length≤400
  ·rw [if_pos ⟨rfl,rfl,rfl,rfl,h⟩]
   cases x5
   ·refine aW af Tryz.func132 rfl Tryz.ntmps132 Tryz.results132 rfl fun N=>?_
    repeat' (first|refine zt ?_|(refine isR ?_;first|refine zo ?_|refine zk c1 ?_|refine zk c2 ?_|refine zk c3 ?_|refine zk c4 ?_|refine zk c5 ?_|refine zX ?_)|refine zr ?_|exact ah)
    rfl
   ·refine aW af Tryz.func132 rfl Tryz.ntmps132 Tryz.results132 rfl fun N=>?_
    repeat' (first|refine zt ?_|(refine isR ?_;first|refine zo ?_|refine zk c1 ?_|refine zk c2 ?_|refine zk c3 ?_|refine zk c4 ?_|refine zk c5 ?_|refine zX ?_)|refine zr ?_|exact ah)
    rfl
  ·rw [z (by simp [h])]
   refine aW af Tryz.func132 rfl Tryz.ntmps132 Tryz.results132 rfl fun N=>?_
   repeat' (first|refine zt ?_|(refine isR ?_;first|refine zo ?_|refine zk c1 ?_|refine zk c2 ?_|refine zk c3 ?_|refine zk c4 ?_|refine zX ?_)|refine zr ?_|exact ah)
   rfl
 ·rw [z (by simp)]
  refine aW af Tryz.func132 rfl Tryz.ntmps132 Tryz.results132 rfl fun N=>?_
  repeat' (first|refine zt ?_|(refine isR ?_;first|refine zo ?_|refine zk c1 ?_|refine zk c2 ?_|refine zk c3 ?_|refine zk c4 ?_|refine zX ?_)|refine zr ?_|exact ah)
  rfl
structure Hid (p:Prop):Prop where
 out:p
theorem Yv (m d:Nat):(if (10*(m:Int)+((d:Nat):Int))<1000000000000 then (10*(m:Int)+((d:Nat):Int)) else 1000000000000)=((min LG (10*m+d):Nat):Int):=by
 have:LG=1000000000000:=rfl
 split<;>omega
theorem acK {s:List UInt8} (hs0:s.length≤140737488355328):aj Tryz.prog 176 [au s] (.tup [.int .i64 (yV s).1,.bool (yV s).2]):=aj.lim fun hl=>by
 obtain ⟨hl,_⟩:=bH.gK hl
 have c1:=nQ (l:=s) (m:=[45])
 have hle:(dJ s [45]).1.length≤s.length:=by unfold dJ;split<;>simp
 unfold yV
 generalize dJ s [45]=p at *
 obtain ⟨t,minus⟩:=p
 dsimp only at *
 have hx:((t.map bB).length:Int)=(t.length:Int):=by simp
 refine aU af Tryz.func176 rfl Tryz.ntmps176 Tryz.results176 rfl fun N=>?_
 repeat' (first|refine zt ?_|(refine isR ?_;first|refine zo ?_|refine zk c1 ?_|refine zX ?_|(refine zs1 ?_ ?_<;>intro hc))|refine zr ?_|exact ah)
 refine bE (fun k=>⟨[(0,au t),(2,.int .i64 ((xu (t.take k):Nat):Int)),(3,.bool false),(4,.bool minus),(13,.fro (t.map bB)),(14,.int .i64 (t.map bB).length),(15,.int .i64 (k:Int))],[],0,39⟩) (fun k=>k≤t.length∧lK dB t k) t.length 0 ?_ ⟨Nat.zero_le _,vo⟩ ?_
 ·have e:xu (t.take 0)=0:=Qf
  rw [e]
  exact (by exact ah)
 intro k ⟨hk,hq⟩
 have hs:=ab4 (t.take k)
 by_cases hk2:k<t.length
 ·have e1:(t.map bB)[k]? = some (bB t[k]):=by simp [hk2]
  have e2:t[k]? = some t[k]:=by simp [hk2]
  have e3:xu (t.take (k+1))=min LG (10*xu (t.take k)+(t[k].toNat-48)):=by rw [List.take_succ_eq_append_getElem hk2,Vq]
  generalize t[k]=c at e1 e2 e3
  have hc:=c.toNat_lt
  generalize xu (t.take k)=m at *
  cases hd:dB c with
  | true =>
   have hn:48≤c.toNat∧c.toNat≤57:=by unfold dB at hd;simpa using hd
   have hw:IntKind.u8.wrap ((c.toNat:Int)-48)=((c.toNat-48:Nat):Int):=by
    simp only [IntKind.wrap,IntKind.bits,IntKind.signed];simp;omega
   have hb:min LG (10*m+(c.toNat-48))≤1000000000000:=Nat.min_le_left _ _
   have hm:=Yv m (c.toNat-48)
   generalize min LG (10*m+(c.toNat-48))=q at *
   replace hm:=Hid.mk hm
   repeat' (first|refine zt ?_|(refine isR ?_;first|refine zo ?_|refine S9 ?_|refine Vo (q:Int) (h:=hm.1) ?_|refine zX ?_|(refine zs1 ?_ ?_<;>intro hc))|refine zr ?_|exact ah)
   refine ⟨⟨by omega,hq.on e2 hd⟩,hk2,?_⟩
   rw [e3]
   exact (by exact ah)
  | false =>
   have hn:¬ (t.all dB=true∧t≠[]):=fun hh=>by
    have:=List.all_eq_true.1 hh.1 c (List.mem_of_getElem? e2)
    rw [hd] at this;cases this
   rw [if_neg hn]
   unfold dB at hd
   simp only [Bool.and_eq_false_iff,decide_eq_false_iff_not] at hd
   repeat' (first|refine zt ?_|(refine isR ?_;first|refine zo ?_|refine zX ?_|(refine zs1 ?_ ?_<;>intro hc))|refine zr ?_|exact ah)
   all_goals first|rfl|(exfalso;omega)
 ·have hall:t.all dB=true:=hq.all hk2
  have e0:t.take k=t:=List.take_of_length_le (by omega)
  rw [e0]
  rw [e0] at hs
  by_cases h0:t=[]
  ·rw [if_neg (fun hh=>hh.2 h0)]
   have e4:xu t=0:=by rw [h0];exact Qf
   rw [e4]
   cases minus
   ·repeat' (first|refine zt ?_|(refine isR ?_;first|refine zo ?_|refine PW ?_|refine zX ?_|(refine zs1 ?_ ?_<;>intro hc))|refine zr ?_|exact ah)
    rfl
   ·repeat' (first|refine zt ?_|(refine isR ?_;first|refine zo ?_|refine PW ?_|refine zX ?_|(refine zs1 ?_ ?_<;>intro hc))|refine zr ?_|exact ah)
    rfl
  ·rw [if_pos ⟨hall,h0⟩]
   generalize xu t=m at *
   cases minus
   ·repeat' (first|refine zt ?_|(refine isR ?_;first|refine zo ?_|refine PW ?_|refine zX ?_|(refine zs1 ?_ ?_<;>intro hc))|refine zr ?_|exact ah)
    rfl
   ·repeat' (first|refine zt ?_|(refine isR ?_;first|refine zo ?_|refine PW ?_|refine zX ?_|(refine zs1 ?_ ?_<;>intro hc))|refine zr ?_|exact ah)
    rfl
abbrev mkV (f:From) (now:Int) (m:Mk):Abs.V:=.agg [au m.c.name,au m.c.value,au m.c.domain,au m.c.path,.bool m.c.hostOnly,.bool m.c.secure,.bool m.c.httpOnly,.bool m.c.lasting,.int .i64 m.c.site,.int .i64 m.c.expiry,.int .i64 m.c.created,.int .i64 m.c.used,.int .i64 m.c.no,au f.host,au f.path,.bool f.secure,.bool f.script,.bool f.abroad,.int .i64 now,.bool m.aged,.bool m.told,.bool m.deep]
abbrev NE (f:From) (now:Int) (m:Mk):Blk:=.els 181 22 [mkV f now m]
theorem Kh {g:iI} (hg:vV g) {m:Mk} {a:Attr} (ha:a.value.length≤140737488355328) (hf:f.path.length≤400) (hnow:isB now=true):aR Tryz.prog g 134 [.loc 0 0 0,a.v] [NE f now m] (.tup []) [some (NE f now (bQ f now m a))]:=by
 have c1:=DY hg (s:=a.value)
 have c2:=acK (s:=a.value) ha
 have c3:=IK (l:=a.value) (m:=[46])
 have c4:=qh (l:=(dJ a.value [46]).1)
 have c5:=Gm hf
 have c6:=gH (l:=a.value) (m:=[47])
 have c7:=qh (l:=a.value)
 have c8:=IV (s:=(yV a.value).1) hnow
 have ed:M5 a.value=(dJ a.value [46]).1:=rfl
 have es:SE a.value=if fold a.value=([110,111,110,101]:List UInt8) then 1 else if fold a.value=([108,97,120]:List UInt8) then 2 else if fold a.value=([115,116,114,105,99,116]:List UInt8) then 3 else 0:=rfl
 unfold bQ
 rw [ed,es]
 obtain ⟨n,v⟩:=a
 obtain ⟨f1,f2,f3,f4,f5⟩:=f
 obtain ⟨⟨d1,d2,d3,d4,d5,d6,d7,d8,d9,d10,d11,d12,d13⟩,m1,m2,m3⟩:=m
 dsimp only at *
 generalize bC v=q1 at *
 generalize yV v=q2 at *
 generalize dJ v [46]=q3 at *
 generalize tC.dflt f2=q4 at *
 generalize pre v [47]=q5 at *
 generalize fold v=q6 at *
 generalize fold q3.1=q7 at *
 generalize fV now q2.1=q8 at *
 obtain ⟨q11,q12⟩:=q1
 obtain ⟨q21,q22⟩:=q2
 obtain ⟨q31,q32⟩:=q3
 dsimp only at *
 by_cases h1:n=([101,120,112,105,114,101,115]:List UInt8)
 ·rw [if_pos (show n=sI from h1)]
  by_cases h:q12=0
  ·rw [if_pos h]
   cases m1
   ·refine bL af Tryz.func134 rfl Tryz.ntmps134 Tryz.results134 rfl rfl rfl rfl fun N pl=>?_
    repeat' (first|refine zt ?_|(refine isR ?_;first|refine zo ?_|refine zk c1 ?_|refine zX ?_)|refine aA [0] ?_ ?_|exact ah)
    ·rfl
    ·exact .on (.ren rfl) .nil
   ·refine bL af Tryz.func134 rfl Tryz.ntmps134 Tryz.results134 rfl rfl rfl rfl fun N pl=>?_
    repeat' (first|refine zt ?_|(refine isR ?_;first|refine zo ?_|refine zk c1 ?_|refine zX ?_)|refine aA [0] ?_ ?_|exact ah)
    ·rfl
    ·exact .on (.ren rfl) .nil
  ·rw [if_neg h]
   refine bL af Tryz.func134 rfl Tryz.ntmps134 Tryz.results134 rfl rfl rfl rfl fun N pl=>?_
   repeat' (first|refine zt ?_|(refine isR ?_;first|refine zo ?_|refine zk c1 ?_|refine zX ?_)|refine aA [0] ?_ ?_|exact ah)
   ·rfl
   ·exact .on (.ren rfl) .nil
 rw [if_neg (show ¬ n=sI from h1)]
 by_cases h2:n=([109,97,120,45,97,103,101]:List UInt8)
 ·rw [if_pos (show n=pV from h2)]
  cases q22
  ·rw [if_neg (by decide)]
   refine bL af Tryz.func134 rfl Tryz.ntmps134 Tryz.results134 rfl rfl rfl rfl fun N pl=>?_
   repeat' (first|refine zt ?_|(refine isR ?_;first|refine zo ?_|refine zk c2 ?_|refine zX ?_)|refine aA [0] ?_ ?_|exact ah)
   ·rfl
   ·exact .on (.ren rfl) .nil
  ·rw [if_pos rfl]
   by_cases h:0<q21
   ·rw [if_pos h]
    refine bL af Tryz.func134 rfl Tryz.ntmps134 Tryz.results134 rfl rfl rfl rfl fun N pl=>?_
    repeat' (first|refine zt ?_|(refine isR ?_;first|refine zo ?_|refine zk c2 ?_|refine zk c8 ?_|refine zX ?_)|refine aA [0] ?_ ?_|exact ah)
    ·rfl
    ·exact .on (.ren rfl) .nil
   ·rw [if_neg h]
    refine bL af Tryz.func134 rfl Tryz.ntmps134 Tryz.results134 rfl rfl rfl rfl fun N pl=>?_
    repeat' (first|refine zt ?_|(refine isR ?_;first|refine zo ?_|refine zk c2 ?_|refine zk c8 ?_|refine zX ?_)|refine aA [0] ?_ ?_|exact ah)
    ·rfl
    ·exact .on (.ren rfl) .nil
 rw [if_neg (show ¬ n=pV from h2)]
 by_cases h3:n=([100,111,109,97,105,110]:List UInt8)
 ·rw [if_pos (show n=rE from h3)]
  by_cases h:q31=[]
  ·rw [if_pos h]
   refine bL af Tryz.func134 rfl Tryz.ntmps134 Tryz.results134 rfl rfl rfl rfl fun N pl=>?_
   repeat' (first|refine zt ?_|(refine isR ?_;first|refine zo ?_|refine zk c3 ?_|refine zX ?_)|refine aA [0] ?_ ?_|exact ah)
   ·rfl
   ·exact .on (.ren rfl) .nil
  ·rw [if_neg h]
   refine bL af Tryz.func134 rfl Tryz.ntmps134 Tryz.results134 rfl rfl rfl rfl fun N pl=>?_
   repeat' (first|refine zt ?_|(refine isR ?_;first|refine zo ?_|refine zk c3 ?_|refine zk c4 ?_|refine zX ?_)|refine aA [0] ?_ ?_|exact ah)
   ·rfl
   ·exact .on (.ren rfl) .nil
 rw [if_neg (show ¬ n=rE from h3)]
 by_cases h4:n=([112,97,116,104]:List UInt8)
 ·rw [if_pos (show n=lq from h4)]
  cases q5
  ·rw [if_neg (by decide)]
   refine bL af Tryz.func134 rfl Tryz.ntmps134 Tryz.results134 rfl rfl rfl rfl fun N pl=>?_
   repeat' (first|refine zt ?_|(refine isR ?_;first|refine zo ?_|refine zk c5 ?_|refine zk c6 ?_|refine zX ?_)|refine aA [0] ?_ ?_|exact ah)
   ·rfl
   ·exact .on (.ren rfl) .nil
  ·rw [if_pos rfl]
   refine bL af Tryz.func134 rfl Tryz.ntmps134 Tryz.results134 rfl rfl rfl rfl fun N pl=>?_
   repeat' (first|refine zt ?_|(refine isR ?_;first|refine zo ?_|refine zk c5 ?_|refine zk c6 ?_|refine zX ?_)|refine aA [0] ?_ ?_|exact ah)
   ·rfl
   ·exact .on (.ren rfl) .nil
 rw [if_neg (show ¬ n=lq from h4)]
 by_cases h5:n=([115,101,99,117,114,101]:List UInt8)
 ·rw [if_pos (show n=vH from h5)]
  refine bL af Tryz.func134 rfl Tryz.ntmps134 Tryz.results134 rfl rfl rfl rfl fun N pl=>?_
  repeat' (first|refine zt ?_|(refine isR ?_;first|refine zo ?_|refine zX ?_)|refine aA [0] ?_ ?_|exact ah)
  ·rfl
  ·exact .on (.ren rfl) .nil
 rw [if_neg (show ¬ n=vH from h5)]
 by_cases h6:n=([104,116,116,112,111,110,108,121]:List UInt8)
 ·rw [if_pos (show n=mR from h6)]
  refine bL af Tryz.func134 rfl Tryz.ntmps134 Tryz.results134 rfl rfl rfl rfl fun N pl=>?_
  repeat' (first|refine zt ?_|(refine isR ?_;first|refine zo ?_|refine zX ?_)|refine aA [0] ?_ ?_|exact ah)
  ·rfl
  ·exact .on (.ren rfl) .nil
 rw [if_neg (show ¬ n=mR from h6)]
 by_cases h7:n=([115,97,109,101,115,105,116,101]:List UInt8)
 ·rw [if_pos (show n=mO from h7)]
  by_cases s1:q6=([110,111,110,101]:List UInt8)
  ·have s2:¬ q6=([108,97,120]:List UInt8):=by rw [s1];decide
   have s3:¬ q6=([115,116,114,105,99,116]:List UInt8):=by rw [s1];decide
   rw [if_pos s1]
   have s1:=s1.symm
   have s2:=fun e=>s2 (Eq.symm e)
   have s3:=fun e=>s3 (Eq.symm e)
   refine bL af Tryz.func134 rfl Tryz.ntmps134 Tryz.results134 rfl rfl rfl rfl fun N pl=>?_
   repeat' (first|with_reducible refine aP ?_|with_reducible refine aO 5 ?_|refine zt ?_|(refine isR ?_;first|refine zo ?_|refine zk c7 ?_|refine zX ?_)|refine aA [0] ?_ ?_|exact ah)
   ·rfl
   ·exact .on (.ren rfl) .nil
  rw [if_neg s1]
  by_cases s2:q6=([108,97,120]:List UInt8)
  ·have s3:¬ q6=([115,116,114,105,99,116]:List UInt8):=by rw [s2];decide
   rw [if_pos s2]
   have s1:=fun e=>s1 (Eq.symm e)
   have s2:=s2.symm
   have s3:=fun e=>s3 (Eq.symm e)
   refine bL af Tryz.func134 rfl Tryz.ntmps134 Tryz.results134 rfl rfl rfl rfl fun N pl=>?_
   repeat' (first|with_reducible refine aP ?_|with_reducible refine aO 5 ?_|refine zt ?_|(refine isR ?_;first|refine zo ?_|refine zk c7 ?_|refine zX ?_)|refine aA [0] ?_ ?_|exact ah)
   ·rfl
   ·exact .on (.ren rfl) .nil
  rw [if_neg s2]
  by_cases s3:q6=([115,116,114,105,99,116]:List UInt8)
  ·rw [if_pos s3]
   have s1:=fun e=>s1 (Eq.symm e)
   have s2:=fun e=>s2 (Eq.symm e)
   have s3:=s3.symm
   refine bL af Tryz.func134 rfl Tryz.ntmps134 Tryz.results134 rfl rfl rfl rfl fun N pl=>?_
   repeat' (first|with_reducible refine aP ?_|with_reducible refine aO 5 ?_|refine zt ?_|(refine isR ?_;first|refine zo ?_|refine zk c7 ?_|refine zX ?_)|refine aA [0] ?_ ?_|exact ah)
   ·rfl
   ·exact .on (.ren rfl) .nil
  rw [if_neg s3]
  have s1:=fun e=>s1 (Eq.symm e)
  have s2:=fun e=>s2 (Eq.symm e)
  have s3:=fun e=>s3 (Eq.symm e)
  refine bL af Tryz.func134 rfl Tryz.ntmps134 Tryz.results134 rfl rfl rfl rfl fun N pl=>?_
  repeat' (first|with_reducible refine aP ?_|with_reducible refine aO 5 ?_|refine zt ?_|(refine isR ?_;first|refine zo ?_|refine zk c7 ?_|refine zX ?_)|refine aA [0] ?_ ?_|exact ah)
  ·rfl
  ·exact .on (.ren rfl) .nil
 rw [if_neg (show ¬ n=mO from h7)]
 refine bL af Tryz.func134 rfl Tryz.ntmps134 Tryz.results134 rfl rfl rfl rfl fun N pl=>?_
 repeat' (first|refine zt ?_|(refine isR ?_;first|refine zo ?_|refine zX ?_)|refine aA [0] ?_ ?_|exact ah)
 ·rfl
 ·exact .on (.ren rfl) .nil
end aar
namespace Vr
open Abs bH bX dn kZ
variable {r:Raw} {s:List UInt8}
theorem um:bA r=0↔sH r.name=true∧nX r.value=true∧(∀ a∈r.attrs,okA a=true)∧r.attrs.length≤12:=by
 unfold bA
 constructor
 ·intro h
  split at h
  ·rename_i h1
   rw [Bool.and_eq_true,Bool.and_eq_true,List.all_eq_true] at h1
   split at h
   ·cases h
   ·exact ⟨h1.1,h1.2.1,h1.2.2,by omega⟩
  ·cases h
 ·rintro ⟨h1,h2,h3,h4⟩
  have:(sH r.name&&(nX r.value&&r.attrs.all okA))=true:=by
   rw [Bool.and_eq_true,Bool.and_eq_true,List.all_eq_true];exact ⟨h1,h2,h3⟩
  rw [if_pos this,if_neg (by omega)]
theorem XR {p:List UInt8} {r:List (List UInt8)} (h1:s.length≤400) (h2:mQ s=true) (h3:split 59 s=p::r):vJ s=if (fH p).2.2=false∨(fH p).1=[] then (DI,1) else if 12<(r.filterMap bQ).length then (DI,2) else (⟨(fH p).1,(fH p).2.1,r.filterMap bQ⟩,0):=by
 unfold vJ;rw [if_neg (by omega),if_neg (by rw [h2];simp),h3]
theorem Zh (h:vJ s=(r,0)):s.length≤400∧mQ s=true∧∃ p q,split 59 s=p::q∧(fH p).2.2=true∧(fH p).1≠[]∧(q.filterMap bQ).length≤12∧r=⟨(fH p).1,(fH p).2.1,q.filterMap bQ⟩:=by
 by_cases h0:400<s.length
 ·unfold vJ at h;rw [if_pos h0] at h;cases h
 cases hle:mQ s with
 | false=>unfold vJ at h;rw [if_neg h0,if_pos hle] at h;cases h
 | true =>
  cases hs:split 59 s with
  | nil=>exact absurd hs (Ec 59 s)
  | cons p q =>
   rw [XR (by omega) hle hs] at h
   refine ⟨by omega,rfl,p,q,rfl,?_⟩
   split at h
   ·cases h
   rename_i h1
   split at h
   ·cases h
   rename_i h2
   injection h with h3 _
   exact ⟨by simpa using fun e=>h1 (.inl e),fun e=>h1 (.inr e),by omega,h3.symm⟩
theorem NQ (h:vJ s=(r,0)):r.name.length≤400∧r.value.length≤400∧∀ a∈r.attrs,a.name.length≤400∧a.value.length≤400:=by
 obtain ⟨h1,h2,p,q,h3,h4,h5,h6,rfl⟩:=Zh h
 have hl:∀ x∈split 59 s,x.length≤s.length:=bH.xR fun _ _=>trivial
 have hp:=Jr p
 have hpl:=hl p (by rw [h3];simp)
 refine ⟨by show (fH p).1.length≤400;omega,by show (fH p).2.1.length≤400;omega,fun a ha=>?_⟩
 obtain ⟨x,hx,e⟩:=List.mem_filterMap.1 ha
 have hx2:=Jr x
 have hxl:=hl x (by rw [h3];simp [hx])
 unfold bQ at e
 split at e<;>cases e
 have hf:(fold (fH x).1).length=(fH x).1.length:=oM _
 exact ⟨by show (fold (fH x).1).length≤400;omega,by show (fH x).2.1.length≤400;omega⟩
end Vr
namespace Vb
open Abs bH bX dn cu dV Dj j3 ko nS zl iE
variable {now:Int} {L:List aG} {r:Raw} {f:From}
theorem GL (h:(jG L r f now).2=0):fQ.bA L=0∧kZ.bA r=0∧gq f now=0∧(nU L f (jc r f now)).1=0∧Qu f (nU L f (jc r f now)).2=false∧(jG L r f now).1=(nU L f (jc r f now)).2.c:=by
 unfold jG at h ⊢
 by_cases h1:fQ.bA L=0
 ·rw [if_neg (fun hn=>hn h1)] at h ⊢
  by_cases h2:kZ.bA r=0
  ·rw [if_neg (fun hn=>hn h2)] at h ⊢
   by_cases h3:gq f now=0
   ·rw [if_neg (fun hn=>hn h3)] at h ⊢
    unfold abr at h ⊢
    by_cases h4:(nU L f (jc r f now)).1=0
    ·rw [if_neg (fun hn=>hn h4)] at h ⊢
     cases h5:Qu f (nU L f (jc r f now)).2 with
     | false=>exact ⟨h1,h2,h3,h4,rfl,rfl⟩
     | true=>rw [h5,if_pos rfl] at h;exact absurd h (by decide)
    ·rw [if_pos h4] at h;exact absurd h h4
   ·rw [if_pos h3] at h;exact absurd h h3
  ·rw [if_pos h2] at h;exact absurd h h2
 ·rw [if_pos h1] at h;exact absurd (by simpa using h) h1
structure aay (L:List aG) (f:From) (m n:Mk):Prop where
 name:n.c.name=m.c.name
 path:n.c.path=m.c.path
 sec:n.c.secure=m.c.secure
 http:n.c.httpOnly=m.c.httpOnly
 told:n.told=m.told
 deep:n.deep=m.deep
 expiry:n.c.expiry=m.c.expiry
 lasting:n.c.lasting=m.c.lasting
 owner:(n.c.hostOnly=true∧n.c.domain=f.host)∨(n.c.hostOnly=false∧fQ.bR n.c.domain=true∧fQ.xG L n.c.domain≠n.c.domain∧iq f.host n.c.domain=true∧m.told=true)
theorem abE {m:Mk} (h:(nU L f m).1=0) (h0:m.c.hostOnly=false):aay L f m (nU L f m).2:=by
 unfold nU at h ⊢
 by_cases h1:m.told=false
 ·rw [if_pos h1]
  exact ⟨rfl,rfl,rfl,rfl,rfl,rfl,rfl,rfl,.inl ⟨rfl,rfl⟩⟩
 ·rw [if_neg h1] at h ⊢
  by_cases h2:fQ.bR m.c.domain=false
  ·rw [if_pos h2] at h;exact absurd h (show ¬ (1:Int)=0 by decide)
  ·rw [if_neg h2] at h ⊢
   by_cases h3:fQ.xG L m.c.domain=m.c.domain
   ·rw [if_pos h3] at h ⊢
    by_cases h4:m.c.domain=f.host
    ·exact ⟨rfl,rfl,rfl,rfl,rfl,rfl,rfl,rfl,.inl ⟨rfl,h4⟩⟩
    ·dsimp only at h
     rw [if_neg h4] at h;exact absurd h (by decide)
   ·rw [if_neg h3] at h ⊢
    by_cases h4:iq f.host m.c.domain=true
    ·exact ⟨rfl,rfl,rfl,rfl,rfl,rfl,rfl,rfl,.inr ⟨h0,by simpa using h2,h3,h4,by simpa using h1⟩⟩
    ·dsimp only at h
     rw [if_neg h4] at h;exact absurd h (by decide)
theorem Me (r:Raw) (f:From) (now:Int):(jc r f now).c.hostOnly=false∧(jc r f now).c.name=r.name:=by
 unfold jc
 rw [Ow]
 exact ⟨rfl,rfl⟩
theorem MU (h:(jG L r f now).2=0):aay L f (jc r f now) (nU L f (jc r f now)).2:=abE (GL h).2.2.2.1 (Me r f now).1
theorem Ib (h:(jG L r f now).2=0):((jG L r f now).1.hostOnly=true∧(jG L r f now).1.domain=f.host)∨((jG L r f now).1.hostOnly=false∧iq f.host (jG L r f now).1.domain=true∧fQ.bR (jG L r f now).1.domain=true∧fQ.xG L (jG L r f now).1.domain≠(jG L r f now).1.domain):=by
 have ho:=(MU h).owner
 rw [(GL h).2.2.2.2.2]
 rcases ho with ho|⟨h1,h2,h3,h4,_⟩
 ·exact .inl ho
 ·exact .inr ⟨h1,h4,h2,h3⟩
structure Alike (m n:Mk):Prop where
 name:n.c.name=m.c.name
 domain:n.c.domain=m.c.domain
 path:n.c.path=m.c.path
 host:n.c.hostOnly=m.c.hostOnly
 sec:n.c.secure=m.c.secure
 http:n.c.httpOnly=m.c.httpOnly
 told:n.told=m.told
 deep:n.deep=m.deep
end Vb
end Go.Proofs.YtlfdjpgghiemfaaGreatDoor
