/- Texts of the proof, joined: CookV, JarV, JarW. -/
import Derived.Test.YtlfdjpgghiemfaaGreatDoorH46
set_option maxHeartbeats 4000000
set_option maxRecDepth 100000
namespace Go.Proofs.YtlfdjpgghiemfaaGreatDoor
namespace PV
open Go.RowKit Mem Abs bH bX dn cu iR jh rA gV xh dV eO ql Dj j3 ko nS zl iE Both aar
variable {r:Raw} {s1:S} {P:Program} {f:From} {now:Int} {N:Env} {L:List aG} {m:Mk} {Q:Exit→S→Prop}
abbrev mkA (d1 d2 d3 d4:List UInt8) (d5 d6 d7 d8:Bool) (d9 d10 d11 d12 d13:Int) (f1 f2:List UInt8) (f3 f4 f5:Bool) (now:Int) (m1 m2 m3:Bool):Abs.V:=.agg [au d1,au d2,au d3,au d4,.bool d5,.bool d6,.bool d7,.bool d8,.int .i64 d9,.int .i64 d10,.int .i64 d11,.int .i64 d12,.int .i64 d13,au f1,au f2,.bool f3,.bool f4,.bool f5,.int .i64 now,.bool m1,.bool m2,.bool m3]
theorem R5 {c:Code} {G:Prop} (p:Prop) (main:(p→AWp P N c Q s1)→G) (k:p→AWp P N c Q s1):G:=main k
theorem Rq {id:Nat} {l:Array Oper} {d:Bool} {x:Code} {s:S} (k:AWp P N (.seq (.region id l d) x) Q s1) (h:LeI N.K s1 s):AWp P N (.seq (.region id l d) x) Q s:=Iy h k
theorem WH (hL:fQ.bA L=0) (hf:f.host.length≤253):aR Tryz.prog bI 135 [.loc 0 0 0,Ay.vR L] [NE f now m] (.int .i64 (nU L f m).1) [some (NE f now (nU L f m).2)]:=by
 obtain ⟨hR,h16⟩:=fQ.sK hL
 have c1:=Ay.vZ (l:=m.c.domain)
 unfold nU
 obtain ⟨f1,f2,f3,f4,f5⟩:=f
 obtain ⟨⟨d1,d2,d3,d4,d5,d6,d7,d8,d9,d10,d11,d12,d13⟩,m1,m2,m3⟩:=m
 dsimp only at *
 cases m2
 ·rw [if_pos rfl]
  refine bL af Tryz.func135 rfl Tryz.ntmps135 Tryz.results135 rfl rfl rfl rfl fun N pl=>?_
  repeat' (first|refine zt ?_|(refine isR ?_;first|refine zo ?_|refine zX ?_)|refine aA [0] ?_ ?_|exact ah)
  ·rfl
  ·exact .on (.ren rfl) .nil
 rw [if_neg (by decide)]
 cases hh:fQ.bR d3 with
 | false =>
  rw [hh] at c1
  rw [if_pos rfl]
  refine bL af Tryz.func135 rfl Tryz.ntmps135 Tryz.results135 rfl rfl rfl rfl fun N pl=>?_
  repeat' (first|refine zt ?_|(refine isR ?_;first|refine zo ?_|refine zk c1 ?_|refine zX ?_)|refine aA [0] ?_ ?_|exact ah)
  ·rfl
  ·exact .on (.ren rfl) .nil
 | true =>
  have hst:=(fQ.sU _).1 hh
  have hlen:=hst.len
  have c2:=aaU.Gr hR hst
  have c3:=A9 (l:=f1) (m:=d3) (by omega) (by omega)
  rw [hh] at c1
  rw [if_neg (by decide)]
  generalize fQ.xG L d3=p at *
  by_cases hp:p=d3
  ·rw [if_pos hp]
   by_cases hd:d3=f1
   ·rw [if_pos hd]
    refine bL af Tryz.func135 rfl Tryz.ntmps135 Tryz.results135 rfl rfl rfl rfl fun N pl=>?_
    repeat' (first|refine zt ?_|(refine isR ?_;first|refine zo ?_|refine zk c1 ?_|refine zk c2 ?_|refine zX ?_)|refine aA [0] ?_ ?_|exact ah)
    ·rfl
    ·exact .on (.ren rfl) .nil
   ·rw [if_neg hd]
    refine bL af Tryz.func135 rfl Tryz.ntmps135 Tryz.results135 rfl rfl rfl rfl fun N pl=>?_
    repeat' (first|refine zt ?_|(refine isR ?_;first|refine zo ?_|refine zk c1 ?_|refine zk c2 ?_|refine zX ?_)|refine aA [0] ?_ ?_|exact ah)
    ·rfl
    ·exact .on (.ren rfl) .nil
  ·rw [if_neg hp]
   cases hm:iq f1 d3 with
   | true =>
    rw [hm] at c3
    rw [if_pos rfl]
    refine bL af Tryz.func135 rfl Tryz.ntmps135 Tryz.results135 rfl rfl rfl rfl fun N pl=>?_
    repeat' (first|refine zt ?_|(refine isR ?_;first|refine zo ?_|refine zk c1 ?_|refine zk c2 ?_|refine zk c3 ?_|refine zX ?_)|refine aA [0] ?_ ?_|exact ah)
    ·rfl
    ·exact .on (.ren rfl) .nil
   | false =>
    rw [hm] at c3
    rw [if_neg (by decide)]
    refine bL af Tryz.func135 rfl Tryz.ntmps135 Tryz.results135 rfl rfl rfl rfl fun N pl=>?_
    repeat' (first|refine zt ?_|(refine isR ?_;first|refine zo ?_|refine zk c1 ?_|refine zk c2 ?_|refine zk c3 ?_|refine zX ?_)|refine aA [0] ?_ ?_|exact ah)
    ·rfl
    ·exact .on (.ren rfl) .nil
theorem WT:aK Tryz.prog 136 [.loc 0 0 0] [NE f now m] (.bool (Qu f m)) [some (NE f now m)]:=by
 have c1:=qh (l:=m.c.name)
 have c2:=gH (l:=fold m.c.name) (m:=aaV)
 have c3:=gH (l:=fold m.c.name) (m:=Ut)
 unfold Qu
 obtain ⟨f1,f2,f3,f4,f5⟩:=f
 obtain ⟨⟨d1,d2,d3,d4,d5,d6,d7,d8,d9,d10,d11,d12,d13⟩,m1,m2,m3⟩:=m
 dsimp only at *
 generalize fold d1=n at *
 generalize pre n aaV=x1 at *
 generalize pre n Ut=x2 at *
 show aK _ _ [.loc 0 0 0] [.els 181 22 [mkA d1 d2 d3 d4 d5 d6 d7 d8 d9 d10 d11 d12 d13 f1 f2 f3 f4 f5 now m1 m2 m3]] _ [some (.els 181 22 [mkA d1 d2 d3 d4 d5 d6 d7 d8 d9 d10 d11 d12 d13 f1 f2 f3 f4 f5 now m1 m2 m3])]
 by_cases hz:(d7&&f4||d6 && !f3)=true
 ·rw [if_pos hz]
  cases d7<;>cases f4<;>cases d6<;>cases f3
  all_goals first
   | exact absurd hz (by decide)
   | skip
  all_goals
   refine bP af Tryz.func136 rfl Tryz.ntmps136 Tryz.results136 rfl rfl rfl rfl fun N pl=>?_
   repeat' (first|refine zt ?_|(refine isR ?_;first|refine zo ?_|refine zc6 ?_)|refine aA [0] ?_ ?_|exact ah)
   ·rfl
   ·exact .on (.ren rfl) .nil
 ·rw [if_neg hz]
  cases d7<;>cases f4<;>cases d6<;>cases f3
  all_goals first
   | exact absurd rfl hz
   | skip
  all_goals
   clear hz
   cases x1
   ·rw [if_neg (by decide)]
    cases x2
    ·rw [if_neg (by decide)]
     refine bP af Tryz.func136 rfl Tryz.ntmps136 Tryz.results136 rfl rfl rfl rfl fun N pl=>?_
     repeat' (first|refine zt ?_|(refine isR ?_;first|refine zo ?_|refine zk c1 ?_|refine zk c2 ?_|refine zk c3 ?_|refine zc6 ?_)|refine aA [0] ?_ ?_|exact ah)
     ·rfl
     ·exact .on (.ren rfl) .nil
    ·rw [if_pos rfl]
     cases d5
     ·refine bP af Tryz.func136 rfl Tryz.ntmps136 Tryz.results136 rfl rfl rfl rfl fun N pl=>?_
      repeat' (first|refine zt ?_|(refine isR ?_;first|refine zo ?_|refine zk c1 ?_|refine zk c2 ?_|refine zk c3 ?_|refine zc6 ?_)|refine aA [0] ?_ ?_|exact ah)
      ·rfl
      ·exact .on (.ren rfl) .nil
     cases m2
     ·by_cases hp:d4=[47]
      ·rw [decide_eq_true hp]
       cases m3
       ·refine bP af Tryz.func136 rfl Tryz.ntmps136 Tryz.results136 rfl rfl rfl rfl fun N pl=>?_
        repeat' (first|refine zt ?_|(refine isR ?_;first|refine zo ?_|refine zk c1 ?_|refine zk c2 ?_|refine zk c3 ?_|refine zc6 ?_)|refine aA [0] ?_ ?_|exact ah)
        ·rfl
        ·exact .on (.ren rfl) .nil
       ·refine bP af Tryz.func136 rfl Tryz.ntmps136 Tryz.results136 rfl rfl rfl rfl fun N pl=>?_
        repeat' (first|refine zt ?_|(refine isR ?_;first|refine zo ?_|refine zk c1 ?_|refine zk c2 ?_|refine zk c3 ?_|refine zc6 ?_)|refine aA [0] ?_ ?_|exact ah)
        ·rfl
        ·exact .on (.ren rfl) .nil
      ·rw [decide_eq_false hp]
       refine bP af Tryz.func136 rfl Tryz.ntmps136 Tryz.results136 rfl rfl rfl rfl fun N pl=>?_
       repeat' (first|refine zt ?_|(refine isR ?_;first|refine zo ?_|refine zk c1 ?_|refine zk c2 ?_|refine zk c3 ?_|refine zc6 ?_)|refine aA [0] ?_ ?_|exact ah)
       ·rfl
       ·exact .on (.ren rfl) .nil
     ·refine bP af Tryz.func136 rfl Tryz.ntmps136 Tryz.results136 rfl rfl rfl rfl fun N pl=>?_
      repeat' (first|refine zt ?_|(refine isR ?_;first|refine zo ?_|refine zk c1 ?_|refine zk c2 ?_|refine zk c3 ?_|refine zc6 ?_)|refine aA [0] ?_ ?_|exact ah)
      ·rfl
      ·exact .on (.ren rfl) .nil
   ·rw [if_pos rfl]
    refine bP af Tryz.func136 rfl Tryz.ntmps136 Tryz.results136 rfl rfl rfl rfl fun N pl=>?_
    repeat' (first|refine zt ?_|(refine isR ?_;first|refine zo ?_|refine zk c1 ?_|refine zk c2 ?_|refine zc6 ?_)|refine aA [0] ?_ ?_|exact ah)
    ·rfl
    ·exact .on (.ren rfl) .nil
theorem Yh:av Tryz.prog bI 128 [.fp [Ay.vR L] 0] (.int .i64 (fQ.bA L:Nat)):=by
 have c1:=Ay.lC (L:=L)
 refine lZ af Tryz.func128 rfl Tryz.ntmps128 Tryz.results128 rfl fun N=>?_
 repeat' (first|refine zt ?_|(refine isR ?_;first|refine zo ?_|refine zk c1 ?_)|refine zr ?_|exact ah)
 rfl
abbrev acX (r:Raw):List Abs.V:=[au r.name,au r.value,.fro (r.attrs.map Attr.v)]
abbrev aaw (f:From):List Abs.V:=[au f.host,au f.path,.bool f.secure,.bool f.script,.bool f.abroad]
theorem ZA:aj Tryz.prog 129 [.fp (acX r) 0] (.int .i64 (kZ.bA r)):=by
 have c1:=V4.lC (r:=r)
 refine aU af Tryz.func129 rfl Tryz.ntmps129 Tryz.results129 rfl fun N=>?_
 repeat' (first|refine zt ?_|(refine isR ?_;first|refine zo ?_|refine zk c1 ?_)|refine zr ?_|exact ah)
 rfl
theorem ZG:aj Tryz.prog 131 [.fp (aaw f) 0,.fp [.int .i64 now] 0] (.int .i64 (gq f now)):=by
 have c1:=wH (f:=f) (now:=now)
 refine aW af Tryz.func131 rfl Tryz.ntmps131 Tryz.results131 rfl fun N=>?_
 repeat' (first|refine zt ?_|(refine isR ?_;first|refine zo ?_|refine zk c1 ?_)|refine zr ?_|exact ah)
 rfl
abbrev eG (c:ai):Blk:=.els 46 13 [c.v]
theorem Ot {k:Nat} {a:Attr} (h:r.attrs[k]? = some a):(r.attrs.take (k+1)).foldl (bQ f now) (mk0 r f now)=bQ f now ((r.attrs.take k).foldl (bQ f now) (mk0 r f now)) a:=by
 obtain ⟨hk,rfl⟩:=List.getElem?_eq_some_iff.1 h
 rw [List.take_succ_eq_append_getElem hk,List.foldl_append];rfl
theorem Ev {l:List UInt8} (h:fQ.bR l=true):l.length≤253:=((fQ.sU _).1 h).len
theorem ack (hr:∀ a∈r.attrs,a.value.length≤140737488355328):av Tryz.prog kJ 107 [Ay.vR L,r.v,f.v,.int .i64 now] (.tup [(jG L r f now).1.v,.int .i64 (jG L r f now).2]):=by
 have b1:=nE (Yh (L:=L))
 have b2:=ZA (r:=r)
 have b3:=ZG (f:=f) (now:=now)
 have hx:((r.attrs.map Attr.v).length:Int)=(r.attrs.length:Int):=by simp
 unfold jG
 by_cases h1:fQ.bA L=0
 ·rw [if_neg (fun h=>h h1)]
  rw [h1] at b1
  by_cases h2:kZ.bA r=0
  ·rw [if_neg (fun h=>h h2)]
   rw [h2] at b2
   have h12:=(Vr.um.1 h2).2.2.2
   by_cases h3:gq f now=0
   ·rw [if_neg (fun h=>h h3)]
    rw [h3] at b3
    obtain ⟨r1,_,_,_,r5,r6⟩:=KR h3
    have hlen:=Ev r1
    have c0:=Gm r5
    have c1:=fun m a ha=>Kh YG (f:=f) (now:=now) (m:=m) (a:=a) ha r5 r6
    have c2:=fun m=>WH (L:=L) (f:=f) (now:=now) (m:=m) h1 hlen
    have c3:=fun m=>WT (f:=f) (now:=now) (m:=m)
    have hst:=fun k a=>Ot (r:=r) (f:=f) (now:=now) (k:=k) (a:=a)
    have hend:(r.attrs.take r.attrs.length).foldl (bQ f now) (mk0 r f now)=jc r f now:=by rw [List.take_length];rfl
    have h0:(r.attrs.take 0).foldl (bQ f now) (mk0 r f now)=mk0 r f now:=rfl
    generalize hF:(fun k=>(r.attrs.take k).foldl (bQ f now) (mk0 r f now))=F at *
    have e0:F 0=mk0 r f now:=by rw [← hF];rfl
    have est:∀ k a,r.attrs[k]? = some a→F (k+1)=bQ f now (F k) a:=fun k a h=>by rw [← hF];exact hst k a h
    have een:F r.attrs.length=jc r f now:=by rw [← hF];exact hend
    clear hst hend h0 hF
    rw [← een]
    generalize jc r f now=mm at *
    refine KX af Tryz.func107 rfl Tryz.ntmps107 Tryz.results107 rfl fun N=>?_
    apply R5 (s1:=⟨[(4,.fp [Ay.vR L] 0),(5,.fp (acX r) 0),(6,.fp (aaw f) 0),(7,.fp [.int .i64 now] 0),(8,.loc 0 0 0)],[(0,some (eG BZ))],1,70⟩) True
    case main =>
     intro H
     have H:=H trivial
     repeat' (first|with_reducible refine aP ?_|with_reducible refine aO 4 ?_|((with_reducible refine Rq (id:=8) H ?_);exact ah)|refine zt ?_|(refine isR ?_;first|refine zo ?_|refine ak (b1 _) ?_|refine ak (b1) ?_|refine ak (b2 _) ?_|refine ak (b2) ?_|refine ak (b3 _) ?_|refine ak (b3) ?_|refine zX ?_)|refine zr ?_|exact ah)
    intro _
    repeat' (first|refine zt ?_|(refine isR ?_;first|refine dQ [44] af rfl ?_|refine zn ?_|refine zk c0 ?_|refine zX ?_)|refine zr ?_|exact ah)
    refine bE (fun k=>⟨[(4,.fp [Ay.vR L] 0),(8,.loc 0 0 0),(13,.loc 1 0 0),(46,.fro (r.attrs.map Attr.v)),(47,.int .i64 (r.attrs.map Attr.v).length),(48,.int .i64 (k:Int))],[(0,some (eG BZ)),(1,some (NE f now (F k)))],2,70⟩) (fun k=>k≤r.attrs.length) r.attrs.length 0 ?_ (Nat.zero_le _) ?_
    ·rw [e0]
     exact (by exact ah)
    intro k hk
    by_cases hk2:k<r.attrs.length
    ·have e1:(r.attrs.map Attr.v)[k]? = some (r.attrs[k]).v:=by simp [hk2]
     have e2:=est k r.attrs[k] (by simp [hk2])
     have c1:=c1 (F k) r.attrs[k] (hr _ (List.getElem_mem hk2))
     rw [← e2] at c1
     generalize r.attrs[k]=a at *
     repeat' (first|refine zt ?_|(refine isR ?_;first|refine zo ?_|refine x_m [1] [] (c1 _) ?_|refine x_m [1] [] (c1) ?_|refine zX ?_)|refine zr ?_|exact ah)
     exact ⟨by omega,hk2,(by exact ah)⟩
    ·obtain rfl:k=r.attrs.length:=by omega
     unfold abr
     have c2:=c2 (F r.attrs.length)
     generalize F r.attrs.length=m at *
     have c3:=c3 (nU L f m).2
     generalize nU L f m=q at *
     obtain ⟨q1,q2⟩:=q
     dsimp only at *
     have c2:=aaC c2
     by_cases h4:q1=0
     ·rw [if_neg (fun h=>h h4)]
      subst h4
      cases hb:Qu f q2 with
      | true =>
       rw [hb] at c3
       rw [if_pos rfl]
       repeat' (first|refine zt ?_|(refine isR ?_;first|refine zo ?_|refine x_m [1] [] (c2 _) ?_|refine x_m [1] [] (c2) ?_|refine x_m [1] [] (c3 _) ?_|refine x_m [1] [] (c3) ?_|refine zX ?_)|refine zr ?_|exact ah)
       rfl
      | false =>
       rw [hb] at c3
       rw [if_neg (by decide)]
       repeat' (first|refine zt ?_|(refine isR ?_;first|refine zo ?_|refine x_m [1] [] (c2 _) ?_|refine x_m [1] [] (c2) ?_|refine x_m [1] [] (c3 _) ?_|refine x_m [1] [] (c3) ?_|refine zX ?_)|refine zr ?_|exact ah)
       rfl
     ·rw [if_pos h4]
      repeat' (first|refine zt ?_|(refine isR ?_;first|refine zo ?_|refine x_m [1] [] (c2 _) ?_|refine x_m [1] [] (c2) ?_|refine zX ?_)|refine zr ?_|exact ah)
      rfl
   ·rw [if_pos h3]
    generalize gq f now=n at *
    refine KX af Tryz.func107 rfl Tryz.ntmps107 Tryz.results107 rfl fun N=>?_
    repeat' (first|with_reducible refine aP ?_|with_reducible refine aO 4 ?_|refine zt ?_|(refine isR ?_;first|refine zo ?_|refine ak (b1 _) ?_|refine ak (b1) ?_|refine ak (b2 _) ?_|refine ak (b2) ?_|refine ak (b3 _) ?_|refine ak (b3) ?_|refine zX ?_)|refine zr ?_|exact ah)
    rfl
  ·rw [if_pos h2]
   generalize kZ.bA r=n at *
   refine KX af Tryz.func107 rfl Tryz.ntmps107 Tryz.results107 rfl fun N=>?_
   repeat' (first|with_reducible refine aP ?_|with_reducible refine aO 4 ?_|refine zt ?_|(refine isR ?_;first|refine zo ?_|refine ak (b1 _) ?_|refine ak (b1) ?_|refine ak (b2 _) ?_|refine ak (b2) ?_|refine zX ?_)|refine zr ?_|exact ah)
   rfl
 ·rw [if_pos h1]
  generalize fQ.bA L=n at *
  refine KX af Tryz.func107 rfl Tryz.ntmps107 Tryz.results107 rfl fun N=>?_
  repeat' (first|with_reducible refine aP ?_|with_reducible refine aO 4 ?_|refine zt ?_|(refine isR ?_;first|refine zo ?_|refine ak (b1 _) ?_|refine ak (b1) ?_|refine zX ?_)|refine zr ?_|exact ah)
  rfl
end PV
namespace Zd
open Abs Scan fI gF iQ qW
variable {nx:Int} {L:List ai} {a:ai} {p:ai→Bool} {b c:ai}
theorem zy:l7 a b=true↔a.used<b.used∨a.used=b.used∧a.no<b.no:=by
 unfold l7
 rw [Bool.or_eq_true,Bool.and_eq_true,decide_eq_true_eq,decide_eq_true_eq,decide_eq_true_eq]
theorem ou:l7 a b=false↔¬ (a.used<b.used∨a.used=b.used∧a.no<b.no):=by
 rw [← zy]
 cases l7 a b<;>simp
theorem nI {p:ai→Bool} {L:List ai}:∀ {k a:Nat} {m:ai},l5 p L k=some a→L[a]? = some m→∀ j x,j<k→L[j]? = some x→p x=true→l7 x m=false
 | 0,_,_,h,_,_,_,_,_,_=>by cases h
 | k+1,a,m,h,hm,j,x,hj,hx,hp=>by
  rw [l5] at h
  cases hc:L[k]? with
  | none =>
   rw [hc] at h
   have hjk:j≠k:=fun e=>by rw [e,hc] at hx;cases hx
   exact nI (k:=k) h hm j x (by omega) hx hp
  | some c =>
   rw [hc] at h
   dsimp only at h
   by_cases hpc:p c=true
   ·rw [if_pos hpc] at h
    cases hq:l5 p L k with
    | none =>
     rw [hq] at h
     cases h
     rw [hc] at hm
     cases hm
     by_cases e:j=k
     ·rw [e,hc] at hx;cases hx;exact ou.2 (by omega)
     ·have hlt:=(List.getElem?_eq_some_iff.1 hc).1
      obtain ⟨b,hb⟩:=mo (p:=p) (L:=L) (k:=k) (by omega) (by
       rw [List.countP_pos_iff]
       exact ⟨x,List.mem_of_getElem? (i:=j) (by rw [List.getElem?_take_of_lt (by omega)];exact hx),hp⟩)
      rw [hq] at hb;cases hb
    | some b =>
     rw [hq] at h
     dsimp only at h
     obtain ⟨_,d,hd,_⟩:=lY hq
     have ih:=nI (k:=k) hq hd
     rw [List.getD_eq_getElem?_getD,hd,Option.getD_some] at h
     by_cases g:l7 c d=true
     ·rw [if_pos g] at h
      cases h
      rw [hc] at hm
      cases hm
      by_cases e:j=k
      ·rw [e,hc] at hx;cases hx;exact ou.2 (by omega)
      ·have h1:=ou.1 (ih j x (by omega) hx hp)
       have h2:=zy.1 g
       exact ou.2 (by omega)
     ·rw [if_neg g] at h
      cases h
      rw [hd] at hm
      cases hm
      by_cases e:j=k
      ·rw [e,hc] at hx;cases hx;simpa using g
      ·exact ih j x (by omega) hx hp
   ·rw [if_neg hpc] at h
    have hjk:j≠k:=fun e=>by rw [e,hc] at hx;cases hx;exact hpc hp
    exact nI (k:=k) h hm j x (by omega) hx hp
theorem Gb {a:Nat} {m:ai} (h:L[a]? = some m) (hp:p m=true):(L.eraseIdx a).countP p+1=L.countP p:=by
 obtain ⟨hlt,e⟩:=List.getElem?_eq_some_iff.1 h
 have h1:L.countP p=(L.take a).countP p+((L.drop a).countP p):=by rw [← List.countP_append,List.take_append_drop]
 rw [List.eraseIdx_eq_take_drop_succ,List.countP_append,h1,List.drop_eq_getElem_cons hlt,e,List.countP_cons,if_pos hp]
 omega
theorem Mq {most:Nat} {p:ai→Bool}:∀ (n:Nat) (L:List ai),L.length<n→most≤L.countP p→(evF most p n L).countP p=most
 | 0,L,h,_=>by omega
 | n+1,L,h,hm=>by
  rw [evF]
  by_cases hc:L.countP p≤most
  ·rw [if_pos hc];omega
  ·rw [if_neg hc]
   obtain ⟨a,ha⟩:=mo (p:=p) (L:=L) (Nat.le_refl _) (by rw [List.take_length];omega)
   rw [ha]
   dsimp only
   obtain ⟨hlt,m,hm1,hm2⟩:=lY ha
   have:=Gb hm1 hm2
   exact Mq n _ (by rw [List.length_eraseIdx,if_pos hlt];omega) (by omega)
theorem H6 {most:Nat} {p:ai→Bool}:∀ (n:Nat) (L:List ai),L.length<n→∀ x∈L,x ∉ evF most p n L→p x=true∧(evF most p n L).countP p=most∧∀ y∈evF most p n L,p y=true→l7 y x=false
 | 0,L,h,_,_,_=>by omega
 | n+1,L,h,x,hx,hno=>by
  rw [evF] at hno ⊢
  by_cases hc:L.countP p≤most
  ·rw [if_pos hc] at hno;exact absurd hx hno
  ·rw [if_neg hc] at hno ⊢
   obtain ⟨a,ha⟩:=mo (p:=p) (L:=L) (Nat.le_refl _) (by rw [List.take_length];omega)
   rw [ha] at hno ⊢
   dsimp only at hno ⊢
   obtain ⟨hlt,m,hm1,hm2⟩:=lY ha
   have hcn:=Gb hm1 hm2
   have hlen:(L.eraseIdx a).length<n:=by rw [List.length_eraseIdx,if_pos hlt];omega
   by_cases hm:x∈L.eraseIdx a
   ·exact H6 n _ hlen x hm hno
   ·have hxm:x=m:=by
     obtain ⟨i,hi⟩:=List.mem_iff_getElem?.1 hx
     rcases Nat.lt_trichotomy i a with q|q|q
     ·exact absurd (List.mem_of_getElem? (i:=i) (by rw [List.getElem?_eraseIdx_of_lt q];exact hi)) hm
     ·subst q;rw [hm1] at hi;cases hi;rfl
     ·exact absurd (List.mem_of_getElem? (i:=i-1) (by rw [List.getElem?_eraseIdx_of_ge (by omega),show i-1+1=i by omega];exact hi)) hm
    subst hxm
    refine ⟨hm2,Mq n _ hlen (by omega),fun y hy hpy=>?_⟩
    have hy2:y∈L:=(List.eraseIdx_sublist ..).subset ((qB _ _).subset hy)
    obtain ⟨j,hj⟩:=List.mem_iff_getElem?.1 hy2
    exact nI ha hm1 j y (List.getElem?_eq_some_iff.1 hj).1 hj hpy
theorem OQ {most:Nat} (h0:0<most) {n:Nat} (hl:L.length<n) {d:ai} (hd:d∈L) (hmost:∀ x∈L,x=d∨x.used<d.used):d∈evF most p n L:=by
 refine Classical.byContradiction fun hno=>?_
 obtain ⟨_,h2,h3⟩:=H6 n L hl d hd hno
 have:0<(evF most p n L).countP p:=by omega
 obtain ⟨y,hy,hpy⟩:=List.countP_pos_iff.1 this
 rcases hmost y ((qB _ _).subset hy) with e|e
 ·subst e;exact hno hy
 ·have:=ou.1 (h3 y hy hpy);omega
theorem abC (h:L.Pairwise fun a b=>bq a b=false∧a.no≠b.no):∃ d,d∈(mh L nx c).1∧bq d c=true∧d.used=c.used∧d.expiry=c.expiry∧d.domain=c.domain ∧
  (∀ x∈(mh L nx c).1,x=d∨(x∈L∧bq x c=false))∧(∀ x∈L,bq x c=false→x∈(mh L nx c).1)∧∀ x∈L,bq x c=true→d.no=x.no∧d.created=x.created:=by
 have self:∀ a b:ai,a.name=b.name→a.domain=b.domain→a.path=b.path→bq a b=true:=fun a b h1 h2 h3=>jg.2 ⟨h1,h2,h3⟩
 unfold mh
 cases hf:L.findIdx? (fun x=>bq x c) with
 | none =>
  have hno:∀ x∈L,bq x c=false:=List.findIdx?_eq_none_iff.1 hf
  dsimp only
  refine ⟨{ c with no:=nx },by simp,self _ _ rfl rfl rfl,rfl,rfl,rfl,fun x hx=>?_,fun x hx _=>by simp [hx],fun x hx hk=>by rw [hno x hx] at hk;cases hk⟩
  rcases List.mem_append.1 hx with hx|hx
  ·exact .inr ⟨hx,hno x hx⟩
  ·rw [List.mem_singleton] at hx;exact .inl hx
 | some i =>
  obtain ⟨hi,hk,_⟩:=List.findIdx?_eq_some_iff_getElem.1 hf
  have hat:L.getD i c=L[i]:=by rw [List.getD_eq_getElem?_getD,List.getElem?_eq_getElem hi];rfl
  have hp:=List.pairwise_iff_getElem.1 h
  have one:∀ j (hj:j<L.length),bq L[j] c=true→j=i:=fun j hj hq=>by
   have g1:bq L[j] L[i]=true:=by rw [ja,wz hk,ja];exact hq
   rcases Nat.lt_trichotomy j i with q|q|q
   ·rw [(hp j i hj hi q).1] at g1;cases g1
   ·exact q
   ·rw [ja,(hp i j hi hj q).1] at g1;cases g1
  dsimp only
  rw [hat]
  refine ⟨{ c with created:=(L[i]).created,no:=(L[i]).no },List.mem_of_getElem? (i:=i) (by rw [List.getElem?_set,if_pos rfl,if_pos hi]),self _ _ rfl rfl rfl,rfl,rfl,rfl,fun x hx=>?_,fun x hx hq=>?_,fun x hx hq=>?_⟩
  ·obtain ⟨j,hj⟩:=List.mem_iff_getElem?.1 hx
   rw [List.getElem?_set] at hj
   by_cases e:i=j
   ·rw [if_pos e,if_pos (by omega)] at hj
    cases hj
    exact .inl rfl
   ·rw [if_neg e] at hj
    obtain ⟨hjl,e2⟩:=List.getElem?_eq_some_iff.1 hj
    refine .inr ⟨List.mem_of_getElem? hj,?_⟩
    cases hq:bq x c with
    | false=>rfl
    | true=>rw [← e2] at hq;exact absurd (one j hjl hq).symm e
  ·obtain ⟨j,hj⟩:=List.mem_iff_getElem?.1 hx
   have hne:i≠j:=fun e=>by
    subst e
    obtain ⟨_,e2⟩:=List.getElem?_eq_some_iff.1 hj
    rw [e2,hq] at hk;cases hk
   exact List.mem_of_getElem? (i:=j) (by rw [List.getElem?_set,if_neg hne];exact hj)
  ·obtain ⟨j,hj⟩:=List.mem_iff_getElem?.1 hx
   obtain ⟨hjl,e2⟩:=List.getElem?_eq_some_iff.1 hj
   subst e2
   have:=one j hjl hq
   subst this
   exact ⟨rfl,rfl⟩
structure Made (L E:List ai) (c d:ai) (now:Int):Prop where
 key:bq d c=true
 all:∀ x∈E,(x=d∧now<c.expiry)∨(x∈L∧bq x c=false)
 kept:∀ x∈L,now<x.expiry→bq x c=true→d.no=x.no∧d.created=x.created
 there:now<c.expiry→(∀ x∈L,x.used<c.used)→d∈E
 gone:∀ x∈L,now<x.expiry→bq x c=false→x ∉ E→(E.length=12∨(x.domain=c.domain∧E.countP (fun y=>decide (y.domain=x.domain))=4))∧∀ y∈E,y.domain=x.domain→l7 x y=true
theorem SA {now:Int} (h:Rj L nx) (hc:kF c=false) (hn:nx<1099511627776):∃ d,Made L (sV L nx c now).1 c d now:=by
 have hw:=(Rj.weak h).sub (M:=aI now L) List.filter_sublist
 obtain ⟨k1,_⟩:=Lj hw hc hn
 obtain ⟨d,d1,d2,d3,d4,d5,d6,d7,d8⟩:=abC (nx:=nx) (c:=c) hw.dis
 have hlive:∀ M:List ai,∀ x,x∈aI now M↔x∈M∧now<x.expiry:=fun M x=>by unfold aI;rw [List.mem_filter,decide_eq_true_eq]
 unfold sV
 dsimp only
 generalize hr:mh (aI now L) nx c=r at *
 have s1:(aI now r.1).Sublist r.1:=List.filter_sublist
 have hMr:=hlive r.1
 generalize hM:aI now r.1=M at *
 have s2:=qB (most:=4) (p:=fun x=>decide (x.domain=c.domain)) (M.length+1) M
 have o2:=H6 (most:=4) (p:=fun x=>decide (x.domain=c.domain)) (M.length+1) M (by omega)
 have m2:=fun d=>OQ (most:=4) (p:=fun x=>decide (x.domain=c.domain)) (by decide) (n:=M.length+1) (L:=M) (d:=d) (by omega)
 generalize evF 4 (fun x=>decide (x.domain=c.domain)) (M.length+1) M=M1 at *
 have s3:=qB (most:=12) (p:=fun _=>true) (M1.length+1) M1
 have o3:=H6 (most:=12) (p:=fun _=>true) (M1.length+1) M1 (by omega)
 have m3:=fun d=>OQ (most:=12) (p:=fun _=>true) (by decide) (n:=M1.length+1) (L:=M1) (d:=d) (by omega)
 have same:(∀ x∈M1,x∈evF 12 (fun _=>true) (M1.length+1) M1)→(evF 12 (fun _=>true) (M1.length+1) M1).length≤12∨True:=fun _=>.inr trivial
 have full:evF 12 (fun _=>true) (M1.length+1) M1=M1∨(evF 12 (fun _=>true) (M1.length+1) M1).length=12:=by
  rcases Nat.lt_or_ge M1.length 12 with q|q
  ·left;rw [evF,if_pos (by simp;omega)]
  ·right
   have:=Mq (most:=12) (p:=fun _=>true) (M1.length+1) M1 (by omega) (by simpa using q)
   simpa using this
 clear same
 generalize evF 12 (fun _=>true) (M1.length+1) M1=M2 at *
 have dM:M.Pairwise fun a b=>bq a b=false∧a.no≠b.no:=k1.dis.sublist s1
 have hno:∀ x∈M,∀ y∈M,x≠y→x.no≠y.no:=fun x hx y hy hne=>by
  obtain ⟨i,hi⟩:=List.mem_iff_getElem?.1 hx
  obtain ⟨j,hj⟩:=List.mem_iff_getElem?.1 hy
  obtain ⟨hi1,rfl⟩:=List.getElem?_eq_some_iff.1 hi
  obtain ⟨hj1,rfl⟩:=List.getElem?_eq_some_iff.1 hj
  have hp:=List.pairwise_iff_getElem.1 dM
  rcases Nat.lt_trichotomy i j with q|q|q
  ·exact (hp i j hi1 hj1 q).2
  ·subst q;exact absurd rfl hne
  ·exact (hp j i hj1 hi1 q).2.symm
 refine ⟨d,d2,fun x hx=>?_,fun x hx hxl hk=>d8 x ((hlive L x).2 ⟨hx,hxl⟩) hk,fun hl hall=>?_,fun x hx hxl hk hnot=>?_⟩
 ·have hxM:=(hMr x).1 ((s3.trans s2).subset hx)
  rcases d6 x hxM.1 with e|⟨h1,h2⟩
  ·exact .inl ⟨e,by rw [← d4,← e];exact hxM.2⟩
  ·exact .inr ⟨((hlive L x).1 h1).1,h2⟩
 ·have hdM:d∈M:=(hMr d).2 ⟨d1,by rw [d4];exact hl⟩
  have hless:∀ x∈M,x=d∨x.used<d.used:=fun x hx=>by
   rcases d6 x ((hMr x).1 hx).1 with e|⟨h1,_⟩
   ·exact .inl e
   ·exact .inr (by rw [d3];exact hall x ((hlive L x).1 h1).1)
  exact m3 d (m2 d hdM hless) fun x hx=>hless x (s2.subset hx)
 ·have hxM:x∈M:=(hMr x).2 ⟨d7 x ((hlive L x).2 ⟨hx,hxl⟩) hk,hxl⟩
  have fin:∀ y∈M2,l7 y x=false→l7 x y=true:=fun y hy hl=>by
   have hne:=hno x hxM y ((s3.trans s2).subset hy) fun e=>hnot (e ▸ hy)
   have:=ou.1 hl
   exact zy.2 (by omega)
  by_cases h1:x∈M1
  ·obtain ⟨_,g2,g3⟩:=o3 x h1 hnot
   exact ⟨.inl (by simpa using g2),fun y hy _=>fin y hy (g3 y hy rfl)⟩
  ·obtain ⟨g1,g2,g3⟩:=o2 x hxM h1
   have g1:x.domain=c.domain:=of_decide_eq_true g1
   refine ⟨full.elim (fun e=>.inr ⟨g1,by rw [e,g1];exact g2⟩) .inl,fun y hy hyd=>fin y hy (g3 y (s3.subset hy) (by rw [hyd,g1];simp))⟩
end Zd
namespace abU
open Go.RowKit Mem Abs Scan fI gF iG iP iQ kY IL nu Uw EO oZ Kc M9 Oq qW Sz Zd ET Rdy eO nP
theorem xM {L:List ai} {nx:Int} {c:ai} {now:Int} (h:iw L nx c now=0):Rj L nx∧kF c=false∧nx<1099511627776:=by
 obtain ⟨h1,_,h3,h4⟩:=yx h
 have hr:Rj L nx:=dx.1 h1
 have:=hr.nx
 exact ⟨hr,h3,by omega⟩
end abU
end Go.Proofs.YtlfdjpgghiemfaaGreatDoor
