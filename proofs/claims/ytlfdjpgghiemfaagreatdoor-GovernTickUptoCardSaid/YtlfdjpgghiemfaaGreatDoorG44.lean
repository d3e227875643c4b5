/- Texts of the proof, joined: CookV, JarV, JarW, GovF. -/
import Derived.Test.YtlfdjpgghiemfaaGreatDoorG43
set_option maxHeartbeats 4000000
set_option maxRecDepth 100000
namespace Go.Proofs.YtlfdjpgghiemfaaGreatDoor
namespace Oy
open Go.RowKit Mem Abs bP bR cZ dh iM iZ qV iw wH eB fw pO Cz jW jI nL yR iA Both Zx
variable {s1:S} {N:Env} {m:Mk} {now:Int} {f:From} {P:Program} {L:List aG} {r:Raw} {Q:Exit→S→Prop}
abbrev mkA (d1 d2 d3 d4:List UInt8) (d5 d6 d7 d8:Bool) (d9 d10 d11 d12 d13:Int) (f1 f2:List UInt8) (f3 f4 f5:Bool) (now:Int) (m1 m2 m3:Bool):Abs.V:=.agg [au d1,au d2,au d3,au d4,.bool d5,.bool d6,.bool d7,.bool d8,.int .i64 d9,.int .i64 d10,.int .i64 d11,.int .i64 d12,.int .i64 d13,au f1,au f2,.bool f3,.bool f4,.bool f5,.int .i64 now,.bool m1,.bool m2,.bool m3]
theorem Qc {c:Code} {G:Prop} (p:Prop) (main:(p→AWp P N c Q s1)→G) (k:p→AWp P N c Q s1):G:=main k
theorem QD {id:Nat} {l:Array Oper} {d:Bool} {x:Code} {s:S} (k:AWp P N (.seq (.region id l d) x) Q s1) (h:LeI N.K s1 s):AWp P N (.seq (.region id l d) x) Q s:=I4 h k
theorem UM (hL:fT.bA L=0) (hf:f.host.length≤253):aR Tryz.prog bG 135 [.loc 0 0 0,Ab.uZ L] [L9 f now m] (.int .i64 (nO L f m).1) [some (L9 f now (nO L f m).2)]:=by
 obtain ⟨hR,h16⟩:=fT.sH hL
 have c1:=Ab.vJ (l:=m.c.domain)
 unfold nO
 obtain ⟨f1,f2,f3,f4,f5⟩:=f
 obtain ⟨⟨d1,d2,d3,d4,d5,d6,d7,d8,d9,d10,d11,d12,d13⟩,m1,m2,m3⟩:=m
 dsimp only at *
 cases m2
 ·rw [if_pos rfl]
  refine bJ af Tryz.func135 rfl Tryz.ntmps135 Tryz.results135 rfl rfl rfl rfl fun N pl=>?_
  repeat' (first|refine zt ?_|(refine isR ?_;first|refine zo ?_|refine zc5 ?_|refine zc6 ?_)|refine aA [0] ?_ ?_|exact ai)
  ·rfl
  ·exact .on (.ren rfl) .nil
 rw [if_neg (by decide)]
 cases hh:fT.cu d3 with
 | false =>
  rw [hh] at c1
  rw [if_pos rfl]
  refine bJ af Tryz.func135 rfl Tryz.ntmps135 Tryz.results135 rfl rfl rfl rfl fun N pl=>?_
  repeat' (first|refine zt ?_|(refine isR ?_;first|refine zo ?_|refine zk c1 ?_|refine zc5 ?_|refine zc6 ?_)|refine aA [0] ?_ ?_|exact ai)
  ·rfl
  ·exact .on (.ren rfl) .nil
 | true =>
  have hst:=(fT.qL _).1 hh
  have hlen:=hst.len
  have c2:=aam.Fe hR hst
  have c3:=Ao (l:=f1) (m:=d3) (by omega) (by omega)
  rw [hh] at c1
  rw [if_neg (by decide)]
  generalize fT.xV L d3=p at *
  by_cases hp:p=d3
  ·rw [if_pos hp]
   by_cases hd:d3=f1
   ·rw [if_pos hd]
    refine bJ af Tryz.func135 rfl Tryz.ntmps135 Tryz.results135 rfl rfl rfl rfl fun N pl=>?_
    repeat' (first|refine zt ?_|(refine isR ?_;first|refine zo ?_|refine zk c1 ?_|refine zk c2 ?_|refine zc5 ?_|refine zc6 ?_)|refine aA [0] ?_ ?_|exact ai)
    ·rfl
    ·exact .on (.ren rfl) .nil
   ·rw [if_neg hd]
    refine bJ af Tryz.func135 rfl Tryz.ntmps135 Tryz.results135 rfl rfl rfl rfl fun N pl=>?_
    repeat' (first|refine zt ?_|(refine isR ?_;first|refine zo ?_|refine zk c1 ?_|refine zk c2 ?_|refine zc5 ?_|refine zc6 ?_)|refine aA [0] ?_ ?_|exact ai)
    ·rfl
    ·exact .on (.ren rfl) .nil
  ·rw [if_neg hp]
   cases hm:kK f1 d3 with
   | true =>
    rw [hm] at c3
    rw [if_pos rfl]
    refine bJ af Tryz.func135 rfl Tryz.ntmps135 Tryz.results135 rfl rfl rfl rfl fun N pl=>?_
    repeat' (first|refine zt ?_|(refine isR ?_;first|refine zo ?_|refine zk c1 ?_|refine zk c2 ?_|refine zk c3 ?_|refine zc5 ?_|refine zc6 ?_)|refine aA [0] ?_ ?_|exact ai)
    ·rfl
    ·exact .on (.ren rfl) .nil
   | false =>
    rw [hm] at c3
    rw [if_neg (by decide)]
    refine bJ af Tryz.func135 rfl Tryz.ntmps135 Tryz.results135 rfl rfl rfl rfl fun N pl=>?_
    repeat' (first|refine zt ?_|(refine isR ?_;first|refine zo ?_|refine zk c1 ?_|refine zk c2 ?_|refine zk c3 ?_|refine zc5 ?_|refine zc6 ?_)|refine aA [0] ?_ ?_|exact ai)
    ·rfl
    ·exact .on (.ren rfl) .nil
theorem RU:aK Tryz.prog 136 [.loc 0 0 0] [L9 f now m] (.bool (Qw f m)) [some (L9 f now m)]:=by
 have c1:=qm (l:=m.c.name)
 have c2:=fZ (l:=fold m.c.name) (m:=ZY)
 have c3:=fZ (l:=fold m.c.name) (m:=TQ)
 unfold Qw
 obtain ⟨f1,f2,f3,f4,f5⟩:=f
 obtain ⟨⟨d1,d2,d3,d4,d5,d6,d7,d8,d9,d10,d11,d12,d13⟩,m1,m2,m3⟩:=m
 dsimp only at *
 generalize fold d1=n at *
 generalize pre n ZY=x1 at *
 generalize pre n TQ=x2 at *
 show aK _ _ [.loc 0 0 0] [.els 181 22 [mkA d1 d2 d3 d4 d5 d6 d7 d8 d9 d10 d11 d12 d13 f1 f2 f3 f4 f5 now m1 m2 m3]] _ [some (.els 181 22 [mkA d1 d2 d3 d4 d5 d6 d7 d8 d9 d10 d11 d12 d13 f1 f2 f3 f4 f5 now m1 m2 m3])]
 by_cases hz:(d7&&f4||d6 && !f3)=true
 ·rw [if_pos hz]
  cases d7<;>cases f4<;>cases d6<;>cases f3
  all_goals first
   | exact absurd hz (by decide)
   | skip
  all_goals
   refine bL af Tryz.func136 rfl Tryz.ntmps136 Tryz.results136 rfl rfl rfl rfl fun N pl=>?_
   repeat' (first|refine zt ?_|(refine isR ?_;first|refine zo ?_|refine zc6 ?_)|refine aA [0] ?_ ?_|exact ai)
   ·rfl
   ·exact .on (.ren rfl) .nil
 ·rw [if_neg hz]
  cases d7<;>cases f4<;>cases d6<;>cases f3
  all_goals first
   | exact absurd rfl hz
   | skip
  all_goals
   clear hz
   cases x1
   ·rw [if_neg (by decide)]
    cases x2
    ·rw [if_neg (by decide)]
     refine bL af Tryz.func136 rfl Tryz.ntmps136 Tryz.results136 rfl rfl rfl rfl fun N pl=>?_
     repeat' (first|refine zt ?_|(refine isR ?_;first|refine zo ?_|refine zk c1 ?_|refine zk c2 ?_|refine zk c3 ?_|refine zc6 ?_)|refine aA [0] ?_ ?_|exact ai)
     ·rfl
     ·exact .on (.ren rfl) .nil
    ·rw [if_pos rfl]
     cases d5
     ·refine bL af Tryz.func136 rfl Tryz.ntmps136 Tryz.results136 rfl rfl rfl rfl fun N pl=>?_
      repeat' (first|refine zt ?_|(refine isR ?_;first|refine zo ?_|refine zk c1 ?_|refine zk c2 ?_|refine zk c3 ?_|refine zc6 ?_)|refine aA [0] ?_ ?_|exact ai)
      ·rfl
      ·exact .on (.ren rfl) .nil
     cases m2
     ·by_cases hp:d4=[47]
      ·rw [decide_eq_true hp]
       cases m3
       ·refine bL af Tryz.func136 rfl Tryz.ntmps136 Tryz.results136 rfl rfl rfl rfl fun N pl=>?_
        repeat' (first|refine zt ?_|(refine isR ?_;first|refine zo ?_|refine zk c1 ?_|refine zk c2 ?_|refine zk c3 ?_|refine zc6 ?_)|refine aA [0] ?_ ?_|exact ai)
        ·rfl
        ·exact .on (.ren rfl) .nil
       ·refine bL af Tryz.func136 rfl Tryz.ntmps136 Tryz.results136 rfl rfl rfl rfl fun N pl=>?_
        repeat' (first|refine zt ?_|(refine isR ?_;first|refine zo ?_|refine zk c1 ?_|refine zk c2 ?_|refine zk c3 ?_|refine zc6 ?_)|refine aA [0] ?_ ?_|exact ai)
        ·rfl
        ·exact .on (.ren rfl) .nil
      ·rw [decide_eq_false hp]
       refine bL af Tryz.func136 rfl Tryz.ntmps136 Tryz.results136 rfl rfl rfl rfl fun N pl=>?_
       repeat' (first|refine zt ?_|(refine isR ?_;first|refine zo ?_|refine zk c1 ?_|refine zk c2 ?_|refine zk c3 ?_|refine zc6 ?_)|refine aA [0] ?_ ?_|exact ai)
       ·rfl
       ·exact .on (.ren rfl) .nil
     ·refine bL af Tryz.func136 rfl Tryz.ntmps136 Tryz.results136 rfl rfl rfl rfl fun N pl=>?_
      repeat' (first|refine zt ?_|(refine isR ?_;first|refine zo ?_|refine zk c1 ?_|refine zk c2 ?_|refine zk c3 ?_|refine zc6 ?_)|refine aA [0] ?_ ?_|exact ai)
      ·rfl
      ·exact .on (.ren rfl) .nil
   ·rw [if_pos rfl]
    refine bL af Tryz.func136 rfl Tryz.ntmps136 Tryz.results136 rfl rfl rfl rfl fun N pl=>?_
    repeat' (first|refine zt ?_|(refine isR ?_;first|refine zo ?_|refine zk c1 ?_|refine zk c2 ?_|refine zc6 ?_)|refine aA [0] ?_ ?_|exact ai)
    ·rfl
    ·exact .on (.ren rfl) .nil
theorem YH:av Tryz.prog bG 128 [.fp [Ab.uZ L] 0] (.int .i64 (fT.bA L:Nat)):=by
 have c1:=Ab.lq (L:=L)
 refine mV af Tryz.func128 rfl Tryz.ntmps128 Tryz.results128 rfl fun N=>?_
 repeat' (first|refine zt ?_|(refine isR ?_;first|refine zo ?_|refine zk c1 ?_)|refine zr ?_|exact ai)
 rfl
abbrev ac5 (r:Raw):List Abs.V:=[au r.name,au r.value,.fro (r.attrs.map Attr.v)]
abbrev Zo (f:From):List Abs.V:=[au f.host,au f.path,.bool f.secure,.bool f.script,.bool f.abroad]
theorem X5:aj Tryz.prog 129 [.fp (ac5 r) 0] (.int .i64 (kR.bA r)):=by
 have c1:=Sq.lq (r:=r)
 refine aW af Tryz.func129 rfl Tryz.ntmps129 Tryz.results129 rfl fun N=>?_
 repeat' (first|refine zt ?_|(refine isR ?_;first|refine zo ?_|refine zk c1 ?_)|refine zr ?_|exact ai)
 rfl
theorem X7:aj Tryz.prog 131 [.fp (Zo f) 0,.fp [.int .i64 now] 0] (.int .i64 (fH f now)):=by
 have c1:=xX (f:=f) (now:=now)
 refine aX af Tryz.func131 rfl Tryz.ntmps131 Tryz.results131 rfl fun N=>?_
 repeat' (first|refine zt ?_|(refine isR ?_;first|refine zo ?_|refine zk c1 ?_)|refine zr ?_|exact ai)
 rfl
abbrev dZ (c:ah):Blk:=.els 46 13 [c.v]
theorem Ml {k:Nat} {a:Attr} (h:r.attrs[k]? = some a):(r.attrs.take (k+1)).foldl (bN f now) (mk0 r f now)=bN f now ((r.attrs.take k).foldl (bN f now) (mk0 r f now)) a:=by
 obtain ⟨hk,rfl⟩:=List.getElem?_eq_some_iff.1 h
 rw [List.take_succ_eq_append_getElem hk,List.foldl_append];rfl
theorem CF {l:List UInt8} (h:fT.cu l=true):l.length≤253:=((fT.qL _).1 h).len
theorem aaG (hr:∀ a∈r.attrs,a.value.length≤140737488355328):av Tryz.prog fU 107 [Ab.uZ L,r.v,f.v,.int .i64 now] (.tup [(jo L r f now).1.v,.int .i64 (jo L r f now).2]):=by
 have b1:=kU (YH (L:=L))
 have b2:=X5 (r:=r)
 have b3:=X7 (f:=f) (now:=now)
 have hx:((r.attrs.map Attr.v).length:Int)=(r.attrs.length:Int):=by simp
 unfold jo
 by_cases h1:fT.bA L=0
 ·rw [if_neg (fun h=>h h1)]
  rw [h1] at b1
  by_cases h2:kR.bA r=0
  ·rw [if_neg (fun h=>h h2)]
   rw [h2] at b2
   have h12:=(TT.uD.1 h2).2.2.2
   by_cases h3:fH f now=0
   ·rw [if_neg (fun h=>h h3)]
    rw [h3] at b3
    obtain ⟨r1,_,_,_,r5,r6⟩:=Lr h3
    have hlen:=CF r1
    have c0:=Gn r5
    have c1:=fun m a ha=>KR Xa (f:=f) (now:=now) (m:=m) (a:=a) ha r5 r6
    have c2:=fun m=>UM (L:=L) (f:=f) (now:=now) (m:=m) h1 hlen
    have c3:=fun m=>RU (f:=f) (now:=now) (m:=m)
    have hst:=fun k a=>Ml (r:=r) (f:=f) (now:=now) (k:=k) (a:=a)
    have hend:(r.attrs.take r.attrs.length).foldl (bN f now) (mk0 r f now)=iX r f now:=by rw [List.take_length];rfl
    have h0:(r.attrs.take 0).foldl (bN f now) (mk0 r f now)=mk0 r f now:=rfl
    generalize hF:(fun k=>(r.attrs.take k).foldl (bN f now) (mk0 r f now))=F at *
    have e0:F 0=mk0 r f now:=by rw [← hF];rfl
    have est:∀ k a,r.attrs[k]? = some a→F (k+1)=bN f now (F k) a:=fun k a h=>by rw [← hF];exact hst k a h
    have een:F r.attrs.length=iX r f now:=by rw [← hF];exact hend
    clear hst hend h0 hF
    rw [← een]
    generalize iX r f now=mm at *
    refine JN af Tryz.func107 rfl Tryz.ntmps107 Tryz.results107 rfl fun N=>?_
    apply Qc (s1:=⟨[(4,.fp [Ab.uZ L] 0),(5,.fp (ac5 r) 0),(6,.fp (Zo f) 0),(7,.fp [.int .i64 now] 0),(8,.loc 0 0 0)],[(0,some (dZ Bc))],1,70⟩) True
    case main =>
     intro H
     have H:=H trivial
     repeat' (first|with_reducible refine aQ ?_|with_reducible refine aO 4 ?_|((with_reducible refine QD (id:=8) H ?_);exact ai)|refine zt ?_|(refine isR ?_;first|refine zo ?_|refine ak (b1 _) ?_|refine ak (b1) ?_|refine ak (b2 _) ?_|refine ak (b2) ?_|refine ak (b3 _) ?_|refine ak (b3) ?_|refine zA ?_|refine zL ?_|refine zc1 ?_|refine zc6 ?_|refine zI ?_)|refine zr ?_|exact ai)
    intro _
    repeat' (first|refine zt ?_|(refine isR ?_;first|refine dP [44] af rfl ?_|refine zn ?_|refine zk c0 ?_|refine zA ?_|refine zL ?_|refine zc1 ?_|refine zc6 ?_|refine zI ?_)|refine zr ?_|exact ai)
    refine bM (fun k=>⟨[(4,.fp [Ab.uZ L] 0),(8,.loc 0 0 0),(13,.loc 1 0 0),(46,.fro (r.attrs.map Attr.v)),(47,.int .i64 (r.attrs.map Attr.v).length),(48,.int .i64 (k:Int))],[(0,some (dZ Bc)),(1,some (L9 f now (F k)))],2,70⟩) (fun k=>k≤r.attrs.length) r.attrs.length 0 ?_ (Nat.zero_le _) ?_
    ·rw [e0]
     exact (by exact ai)
    intro k hk
    by_cases hk2:k<r.attrs.length
    ·have e1:(r.attrs.map Attr.v)[k]? = some (r.attrs[k]).v:=by simp [hk2]
     have e2:=est k r.attrs[k] (by simp [hk2])
     have c1:=c1 (F k) r.attrs[k] (hr _ (List.getElem_mem hk2))
     rw [← e2] at c1
     generalize r.attrs[k]=a at *
     repeat' (first|refine zt ?_|(refine isR ?_;first|refine zo ?_|refine x_m [1] [] (c1 _) ?_|refine x_m [1] [] (c1) ?_|refine zA ?_|refine zL ?_|refine zc1 ?_|refine zc6 ?_|refine zI ?_)|refine zr ?_|exact ai)
     exact ⟨by omega,hk2,(by exact ai)⟩
    ·obtain rfl:k=r.attrs.length:=by omega
     unfold aaJ
     have c2:=c2 (F r.attrs.length)
     generalize F r.attrs.length=m at *
     have c3:=c3 (nO L f m).2
     generalize nO L f m=q at *
     obtain ⟨q1,q2⟩:=q
     dsimp only at *
     have c2:=ab2 c2
     by_cases h4:q1=0
     ·rw [if_neg (fun h=>h h4)]
      subst h4
      cases hb:Qw f q2 with
      | true =>
       rw [hb] at c3
       rw [if_pos rfl]
       repeat' (first|refine zt ?_|(refine isR ?_;first|refine zo ?_|refine x_m [1] [] (c2 _) ?_|refine x_m [1] [] (c2) ?_|refine x_m [1] [] (c3 _) ?_|refine x_m [1] [] (c3) ?_|refine zA ?_|refine zL ?_|refine zc1 ?_|refine zc6 ?_|refine zI ?_)|refine zr ?_|exact ai)
       rfl
      | false =>
       rw [hb] at c3
       rw [if_neg (by decide)]
       repeat' (first|refine zt ?_|(refine isR ?_;first|refine zo ?_|refine x_m [1] [] (c2 _) ?_|refine x_m [1] [] (c2) ?_|refine x_m [1] [] (c3 _) ?_|refine x_m [1] [] (c3) ?_|refine zA ?_|refine zL ?_|refine zc1 ?_|refine zc6 ?_|refine zI ?_)|refine zr ?_|exact ai)
       rfl
     ·rw [if_pos h4]
      repeat' (first|refine zt ?_|(refine isR ?_;first|refine zo ?_|refine x_m [1] [] (c2 _) ?_|refine x_m [1] [] (c2) ?_|refine zA ?_|refine zL ?_|refine zc1 ?_|refine zc6 ?_|refine zI ?_)|refine zr ?_|exact ai)
      rfl
   ·rw [if_pos h3]
    generalize fH f now=n at *
    refine JN af Tryz.func107 rfl Tryz.ntmps107 Tryz.results107 rfl fun N=>?_
    repeat' (first|with_reducible refine aQ ?_|with_reducible refine aO 4 ?_|refine zt ?_|(refine isR ?_;first|refine zo ?_|refine ak (b1 _) ?_|refine ak (b1) ?_|refine ak (b2 _) ?_|refine ak (b2) ?_|refine ak (b3 _) ?_|refine ak (b3) ?_|refine zA ?_|refine zL ?_|refine zc1 ?_|refine zc6 ?_|refine zI ?_)|refine zr ?_|exact ai)
    rfl
  ·rw [if_pos h2]
   generalize kR.bA r=n at *
   refine JN af Tryz.func107 rfl Tryz.ntmps107 Tryz.results107 rfl fun N=>?_
   repeat' (first|with_reducible refine aQ ?_|with_reducible refine aO 4 ?_|refine zt ?_|(refine isR ?_;first|refine zo ?_|refine ak (b1 _) ?_|refine ak (b1) ?_|refine ak (b2 _) ?_|refine ak (b2) ?_|refine zA ?_|refine zL ?_|refine zc1 ?_|refine zc6 ?_|refine zI ?_)|refine zr ?_|exact ai)
   rfl
 ·rw [if_pos h1]
  generalize fT.bA L=n at *
  refine JN af Tryz.func107 rfl Tryz.ntmps107 Tryz.results107 rfl fun N=>?_
  repeat' (first|with_reducible refine aQ ?_|with_reducible refine aO 4 ?_|refine zt ?_|(refine isR ?_;first|refine zo ?_|refine ak (b1 _) ?_|refine ak (b1) ?_|refine zA ?_|refine zL ?_|refine zc1 ?_|refine zc6 ?_|refine zI ?_)|refine zr ?_|exact ai)
  rfl
end Oy
namespace abC
open Abs Scan gy gY iV wS
variable {b:ah} {p:ah→Bool} {a:ah} {L:List ah} {nx:Int} {c:ah}
theorem zb:l7 a b=true↔a.used<b.used∨a.used=b.used∧a.no<b.no:=by
 unfold l7
 rw [Bool.or_eq_true,Bool.and_eq_true,decide_eq_true_eq,decide_eq_true_eq,decide_eq_true_eq]
theorem oH:l7 a b=false↔¬ (a.used<b.used∨a.used=b.used∧a.no<b.no):=by
 rw [← zb]
 cases l7 a b<;>simp
theorem nH {p:ah→Bool} {L:List ah}:∀ {k a:Nat} {m:ah},mE p L k=some a→L[a]? = some m→∀ j x,j<k→L[j]? = some x→p x=true→l7 x m=false
 | 0,_,_,h,_,_,_,_,_,_=>by cases h
 | k+1,a,m,h,hm,j,x,hj,hx,hp=>by
  rw [mE] at h
  cases hc:L[k]? with
  | none =>
   rw [hc] at h
   have hjk:j≠k:=fun e=>by rw [e,hc] at hx;cases hx
   exact nH (k:=k) h hm j x (by omega) hx hp
  | some c =>
   rw [hc] at h
   dsimp only at h
   by_cases hpc:p c=true
   ·rw [if_pos hpc] at h
    cases hq:mE p L k with
    | none =>
     rw [hq] at h
     cases h
     rw [hc] at hm
     cases hm
     by_cases e:j=k
     ·rw [e,hc] at hx;cases hx;exact oH.2 (by omega)
     ·have hlt:=(List.getElem?_eq_some_iff.1 hc).1
      obtain ⟨b,hb⟩:=mO (p:=p) (L:=L) (k:=k) (by omega) (by
       rw [List.countP_pos_iff]
       exact ⟨x,List.mem_of_getElem? (i:=j) (by rw [List.getElem?_take_of_lt (by omega)];exact hx),hp⟩)
      rw [hq] at hb;cases hb
    | some b =>
     rw [hq] at h
     dsimp only at h
     obtain ⟨_,d,hd,_⟩:=mP hq
     have ih:=nH (k:=k) hq hd
     rw [List.getD_eq_getElem?_getD,hd,Option.getD_some] at h
     by_cases g:l7 c d=true
     ·rw [if_pos g] at h
      cases h
      rw [hc] at hm
      cases hm
      by_cases e:j=k
      ·rw [e,hc] at hx;cases hx;exact oH.2 (by omega)
      ·have h1:=oH.1 (ih j x (by omega) hx hp)
       have h2:=zb.1 g
       exact oH.2 (by omega)
     ·rw [if_neg g] at h
      cases h
      rw [hd] at hm
      cases hm
      by_cases e:j=k
      ·rw [e,hc] at hx;cases hx;simpa using g
      ·exact ih j x (by omega) hx hp
   ·rw [if_neg hpc] at h
    have hjk:j≠k:=fun e=>by rw [e,hc] at hx;cases hx;exact hpc hp
    exact nH (k:=k) h hm j x (by omega) hx hp
theorem FX {a:Nat} {m:ah} (h:L[a]? = some m) (hp:p m=true):(L.eraseIdx a).countP p+1=L.countP p:=by
 obtain ⟨hlt,e⟩:=List.getElem?_eq_some_iff.1 h
 have h1:L.countP p=(L.take a).countP p+((L.drop a).countP p):=by rw [← List.countP_append,List.take_append_drop]
 rw [List.eraseIdx_eq_take_drop_succ,List.countP_append,h1,List.drop_eq_getElem_cons hlt,e,List.countP_cons,if_pos hp]
 omega
theorem Mh {most:Nat} {p:ah→Bool}:∀ (n:Nat) (L:List ah),L.length<n→most≤L.countP p→(evF most p n L).countP p=most
 | 0,L,h,_=>by omega
 | n+1,L,h,hm=>by
  rw [evF]
  by_cases hc:L.countP p≤most
  ·rw [if_pos hc];omega
  ·rw [if_neg hc]
   obtain ⟨a,ha⟩:=mO (p:=p) (L:=L) (Nat.le_refl _) (by rw [List.take_length];omega)
   rw [ha]
   dsimp only
   obtain ⟨hlt,m,hm1,hm2⟩:=mP ha
   have:=FX hm1 hm2
   exact Mh n _ (by rw [List.length_eraseIdx,if_pos hlt];omega) (by omega)
theorem GU {most:Nat} {p:ah→Bool}:∀ (n:Nat) (L:List ah),L.length<n→∀ x∈L,x ∉ evF most p n L→p x=true∧(evF most p n L).countP p=most∧∀ y∈evF most p n L,p y=true→l7 y x=false
 | 0,L,h,_,_,_=>by omega
 | n+1,L,h,x,hx,hno=>by
  rw [evF] at hno ⊢
  by_cases hc:L.countP p≤most
  ·rw [if_pos hc] at hno;exact absurd hx hno
  ·rw [if_neg hc] at hno ⊢
   obtain ⟨a,ha⟩:=mO (p:=p) (L:=L) (Nat.le_refl _) (by rw [List.take_length];omega)
   rw [ha] at hno ⊢
   dsimp only at hno ⊢
   obtain ⟨hlt,m,hm1,hm2⟩:=mP ha
   have hcn:=FX hm1 hm2
   have hlen:(L.eraseIdx a).length<n:=by rw [List.length_eraseIdx,if_pos hlt];omega
   by_cases hm:x∈L.eraseIdx a
   ·exact GU n _ hlen x hm hno
   ·have hxm:x=m:=by
     obtain ⟨i,hi⟩:=List.mem_iff_getElem?.1 hx
     rcases Nat.lt_trichotomy i a with q|q|q
     ·exact absurd (List.mem_of_getElem? (i:=i) (by rw [List.getElem?_eraseIdx_of_lt q];exact hi)) hm
     ·subst q;rw [hm1] at hi;cases hi;rfl
     ·exact absurd (List.mem_of_getElem? (i:=i-1) (by rw [List.getElem?_eraseIdx_of_ge (by omega),show i-1+1=i by omega];exact hi)) hm
    subst hxm
    refine ⟨hm2,Mh n _ hlen (by omega),fun y hy hpy=>?_⟩
    have hy2:y∈L:=(List.eraseIdx_sublist ..).subset ((pQ _ _).subset hy)
    obtain ⟨j,hj⟩:=List.mem_iff_getElem?.1 hy2
    exact nH ha hm1 j y (List.getElem?_eq_some_iff.1 hj).1 hj hpy
theorem OT {most:Nat} (h0:0<most) {n:Nat} (hl:L.length<n) {d:ah} (hd:d∈L) (hmost:∀ x∈L,x=d∨x.used<d.used):d∈evF most p n L:=by
 refine Classical.byContradiction fun hno=>?_
 obtain ⟨_,h2,h3⟩:=GU n L hl d hd hno
 have:0<(evF most p n L).countP p:=by omega
 obtain ⟨y,hy,hpy⟩:=List.countP_pos_iff.1 this
 rcases hmost y ((pQ _ _).subset hy) with e|e
 ·subst e;exact hno hy
 ·have:=oH.1 (h3 y hy hpy);omega
theorem aal (h:L.Pairwise fun a b=>bq a b=false∧a.no≠b.no):∃ d,d∈(lQ L nx c).1∧bq d c=true∧d.used=c.used∧d.expiry=c.expiry∧d.domain=c.domain ∧
  (∀ x∈(lQ L nx c).1,x=d∨(x∈L∧bq x c=false))∧(∀ x∈L,bq x c=false→x∈(lQ L nx c).1)∧∀ x∈L,bq x c=true→d.no=x.no∧d.created=x.created:=by
 have self:∀ a b:ah,a.name=b.name→a.domain=b.domain→a.path=b.path→bq a b=true:=fun a b h1 h2 h3=>jd.2 ⟨h1,h2,h3⟩
 unfold lQ
 cases hf:L.findIdx? (fun x=>bq x c) with
 | none =>
  have hno:∀ x∈L,bq x c=false:=List.findIdx?_eq_none_iff.1 hf
  dsimp only
  refine ⟨{ c with no:=nx },by simp,self _ _ rfl rfl rfl,rfl,rfl,rfl,fun x hx=>?_,fun x hx _=>by simp [hx],fun x hx hk=>by rw [hno x hx] at hk;cases hk⟩
  rcases List.mem_append.1 hx with hx|hx
  ·exact .inr ⟨hx,hno x hx⟩
  ·rw [List.mem_singleton] at hx;exact .inl hx
 | some i =>
  obtain ⟨hi,hk,_⟩:=List.findIdx?_eq_some_iff_getElem.1 hf
  have hat:L.getD i c=L[i]:=by rw [List.getD_eq_getElem?_getD,List.getElem?_eq_getElem hi];rfl
  have hp:=List.pairwise_iff_getElem.1 h
  have one:∀ j (hj:j<L.length),bq L[j] c=true→j=i:=fun j hj hq=>by
   have g1:bq L[j] L[i]=true:=by rw [lU,vC hk,lU];exact hq
   rcases Nat.lt_trichotomy j i with q|q|q
   ·rw [(hp j i hj hi q).1] at g1;cases g1
   ·exact q
   ·rw [lU,(hp i j hi hj q).1] at g1;cases g1
  dsimp only
  rw [hat]
  refine ⟨{ c with created:=(L[i]).created,no:=(L[i]).no },List.mem_of_getElem? (i:=i) (by rw [List.getElem?_set,if_pos rfl,if_pos hi]),self _ _ rfl rfl rfl,rfl,rfl,rfl,fun x hx=>?_,fun x hx hq=>?_,fun x hx hq=>?_⟩
  ·obtain ⟨j,hj⟩:=List.mem_iff_getElem?.1 hx
   rw [List.getElem?_set] at hj
   by_cases e:i=j
   ·rw [if_pos e,if_pos (by omega)] at hj
    cases hj
    exact .inl rfl
   ·rw [if_neg e] at hj
    obtain ⟨hjl,e2⟩:=List.getElem?_eq_some_iff.1 hj
    refine .inr ⟨List.mem_of_getElem? hj,?_⟩
    cases hq:bq x c with
    | false=>rfl
    | true=>rw [← e2] at hq;exact absurd (one j hjl hq).symm e
  ·obtain ⟨j,hj⟩:=List.mem_iff_getElem?.1 hx
   have hne:i≠j:=fun e=>by
    subst e
    obtain ⟨_,e2⟩:=List.getElem?_eq_some_iff.1 hj
    rw [e2,hq] at hk;cases hk
   exact List.mem_of_getElem? (i:=j) (by rw [List.getElem?_set,if_neg hne];exact hj)
  ·obtain ⟨j,hj⟩:=List.mem_iff_getElem?.1 hx
   obtain ⟨hjl,e2⟩:=List.getElem?_eq_some_iff.1 hj
   subst e2
   have:=one j hjl hq
   subst this
   exact ⟨rfl,rfl⟩
structure Made (L E:List ah) (c d:ah) (now:Int):Prop where
 key:bq d c=true
 all:∀ x∈E,(x=d∧now<c.expiry)∨(x∈L∧bq x c=false)
 kept:∀ x∈L,now<x.expiry→bq x c=true→d.no=x.no∧d.created=x.created
 there:now<c.expiry→(∀ x∈L,x.used<c.used)→d∈E
 gone:∀ x∈L,now<x.expiry→bq x c=false→x ∉ E→(E.length=12∨(x.domain=c.domain∧E.countP (fun y=>decide (y.domain=x.domain))=4))∧∀ y∈E,y.domain=x.domain→l7 x y=true
theorem Vq {now:Int} (h:Rj L nx) (hc:kI c=false) (hn:nx<1099511627776):∃ d,Made L (rZ L nx c now).1 c d now:=by
 have hw:=(Rj.weak h).sub (M:=aI now L) List.filter_sublist
 obtain ⟨k1,_⟩:=Ko hw hc hn
 obtain ⟨d,d1,d2,d3,d4,d5,d6,d7,d8⟩:=aal (nx:=nx) (c:=c) hw.dis
 have hlive:∀ M:List ah,∀ x,x∈aI now M↔x∈M∧now<x.expiry:=fun M x=>by unfold aI;rw [List.mem_filter,decide_eq_true_eq]
 unfold rZ
 dsimp only
 generalize hr:lQ (aI now L) nx c=r at *
 have s1:(aI now r.1).Sublist r.1:=List.filter_sublist
 have hMr:=hlive r.1
 generalize hM:aI now r.1=M at *
 have s2:=pQ (most:=4) (p:=fun x=>decide (x.domain=c.domain)) (M.length+1) M
 have o2:=GU (most:=4) (p:=fun x=>decide (x.domain=c.domain)) (M.length+1) M (by omega)
 have m2:=fun d=>OT (most:=4) (p:=fun x=>decide (x.domain=c.domain)) (by decide) (n:=M.length+1) (L:=M) (d:=d) (by omega)
 generalize evF 4 (fun x=>decide (x.domain=c.domain)) (M.length+1) M=M1 at *
 have s3:=pQ (most:=12) (p:=fun _=>true) (M1.length+1) M1
 have o3:=GU (most:=12) (p:=fun _=>true) (M1.length+1) M1 (by omega)
 have m3:=fun d=>OT (most:=12) (p:=fun _=>true) (by decide) (n:=M1.length+1) (L:=M1) (d:=d) (by omega)
 have same:(∀ x∈M1,x∈evF 12 (fun _=>true) (M1.length+1) M1)→(evF 12 (fun _=>true) (M1.length+1) M1).length≤12∨True:=fun _=>.inr trivial
 have full:evF 12 (fun _=>true) (M1.length+1) M1=M1∨(evF 12 (fun _=>true) (M1.length+1) M1).length=12:=by
  rcases Nat.lt_or_ge M1.length 12 with q|q
  ·left;rw [evF,if_pos (by simp;omega)]
  ·right
   have:=Mh (most:=12) (p:=fun _=>true) (M1.length+1) M1 (by omega) (by simpa using q)
   simpa using this
 clear same
 generalize evF 12 (fun _=>true) (M1.length+1) M1=M2 at *
 have dM:M.Pairwise fun a b=>bq a b=false∧a.no≠b.no:=k1.dis.sublist s1
 have hno:∀ x∈M,∀ y∈M,x≠y→x.no≠y.no:=fun x hx y hy hne=>by
  obtain ⟨i,hi⟩:=List.mem_iff_getElem?.1 hx
  obtain ⟨j,hj⟩:=List.mem_iff_getElem?.1 hy
  obtain ⟨hi1,rfl⟩:=List.getElem?_eq_some_iff.1 hi
  obtain ⟨hj1,rfl⟩:=List.getElem?_eq_some_iff.1 hj
  have hp:=List.pairwise_iff_getElem.1 dM
  rcases Nat.lt_trichotomy i j with q|q|q
  ·exact (hp i j hi1 hj1 q).2
  ·subst q;exact absurd rfl hne
  ·exact (hp j i hj1 hi1 q).2.symm
 refine ⟨d,d2,fun x hx=>?_,fun x hx hxl hk=>d8 x ((hlive L x).2 ⟨hx,hxl⟩) hk,fun hl hall=>?_,fun x hx hxl hk hnot=>?_⟩
 ·have hxM:=(hMr x).1 ((s3.trans s2).subset hx)
  rcases d6 x hxM.1 with e|⟨h1,h2⟩
  ·exact .inl ⟨e,by rw [← d4,← e];exact hxM.2⟩
  ·exact .inr ⟨((hlive L x).1 h1).1,h2⟩
 ·have hdM:d∈M:=(hMr d).2 ⟨d1,by rw [d4];exact hl⟩
  have hless:∀ x∈M,x=d∨x.used<d.used:=fun x hx=>by
   rcases d6 x ((hMr x).1 hx).1 with e|⟨h1,_⟩
   ·exact .inl e
   ·exact .inr (by rw [d3];exact hall x ((hlive L x).1 h1).1)
  exact m3 d (m2 d hdM hless) fun x hx=>hless x (s2.subset hx)
 ·have hxM:x∈M:=(hMr x).2 ⟨d7 x ((hlive L x).2 ⟨hx,hxl⟩) hk,hxl⟩
  have fin:∀ y∈M2,l7 y x=false→l7 x y=true:=fun y hy hl=>by
   have hne:=hno x hxM y ((s3.trans s2).subset hy) fun e=>hnot (e ▸ hy)
   have:=oH.1 hl
   exact zb.2 (by omega)
  by_cases h1:x∈M1
  ·obtain ⟨_,g2,g3⟩:=o3 x h1 hnot
   exact ⟨.inl (by simpa using g2),fun y hy _=>fin y hy (g3 y hy rfl)⟩
  ·obtain ⟨g1,g2,g3⟩:=o2 x hxM h1
   have g1:x.domain=c.domain:=of_decide_eq_true g1
   refine ⟨full.elim (fun e=>.inr ⟨g1,by rw [e,g1];exact g2⟩) .inl,fun y hy hyd=>fin y hy (g3 y (s3.subset hy) (by rw [hyd,g1];simp))⟩
end abC
namespace ac8
open Go.RowKit Mem Abs Scan gy gY iW iY iV mX J3 pG Xq Na su NZ RO QK wS Vy abC IC Rdy fw uN
theorem xq {L:List ah} {nx:Int} {c:ah} {now:Int} (h:gW L nx c now=0):Rj L nx∧kI c=false∧nx<1099511627776:=by
 obtain ⟨h1,_,h3,h4⟩:=wM h
 have hr:Rj L nx:=eX.1 h1
 have:=hr.nx
 exact ⟨hr,h3,by omega⟩
end ac8
namespace acQ
open Go.RowKit Mem Abs fw dh iw eB Rdy Scan gy gY iW iY iV mX pG su wS Na NZ Vy ac8 xB z8 En Eu RjP Es I6 Jg Ug aa3 XH ZR uN nT oC Both
open mY (gK gL)
variable {U:List Int} {q:Pol} {K:List ah} {e:Int} {P:Nat→Bool} {c:ah} {g t:Int} {L2:List ah} {f:From} {r:Raw} {s:List UInt8} {S:List aG} {p:Pol} {k:ah} {Γ:iJ} {L:List ah} {n2 now:Int} {T:List UInt8} {nx:Int}
theorem N7 (f:From) (now:Int) (m:iA.Mk) (a:Attr):(iA.bN f now m a).c.created=m.c.created∧(iA.bN f now m a).c.used=m.c.used:=by
 unfold iA.bN
 repeat' split
 all_goals exact ⟨rfl,rfl⟩
theorem zR (f:From) (now:Int):∀ (l:List Attr) (m:iA.Mk),(l.foldl (iA.bN f now) m).c.created=m.c.created∧(l.foldl (iA.bN f now) m).c.used=m.c.used
 | [],_=>⟨rfl,rfl⟩
 | a::l,m=>by
  obtain ⟨h1,h2⟩:=zR f now l (iA.bN f now m a)
  obtain ⟨h3,h4⟩:=N7 f now m a
  exact ⟨h1.trans h3,h2.trans h4⟩
theorem PO (S:List aG) (f:From) (m:iA.Mk):(iA.nO S f m).2.c.created=m.c.created∧(iA.nO S f m).2.c.used=m.c.used:=by
 unfold iA.nO
 repeat' split
 all_goals exact ⟨rfl,rfl⟩
theorem WL (h:(iA.jo S r f now).2=0):(iA.jo S r f now).1.created=now∧(iA.jo S r f now).1.used=now∧(iA.jo S r f now).1.domain.length≤253:=by
 obtain ⟨_,_,h3,_,_,h6⟩:=Ue.Hr h
 have hd:=Ue.Gt h
 have hf:=(iA.Lr h3).1
 obtain ⟨k1,k2⟩:=PO S f (iA.iX r f now)
 obtain ⟨k3,k4⟩:=zR f now r.attrs (iA.mk0 r f now)
 refine ⟨by rw [h6,k1];exact k3,by rw [h6,k2];exact k4,?_⟩
 rcases hd with ⟨_,e⟩|⟨_,_,e,_⟩
 ·rw [e];exact Oy.CF hf
 ·exact Oy.CF e
theorem TD (hr:∀ a∈r.attrs,a.value.length≤140737488355328):∃ (c:ah) (e:Int),av Tryz.prog fU 107 [.fro (S.map aG.v),r.v,f.v,.int .i64 now] (.tup [c.v,.int .i64 e])∧(e=0→c.created=now∧c.used=now∧c.domain.length≤253) :=
 ⟨_,_,Oy.aaG hr,WL⟩
theorem UJ (s:List UInt8):∃ (r:Raw) (e:Int),aj Tryz.prog 106 [au s] (.tup [r.v,.int .i64 e])∧(e=0→∀ a∈r.attrs,a.value.length≤140737488355328) :=
 ⟨_,_,ZB.CJ,fun h a ha=>Nat.le_trans ((TT.NR (s:=s) (r:=(kR.vP s).1) (by rw [← h])).2.2 a ha).2 (by decide)⟩
theorem Tg (hp:gB p=0) (hg:bF.check g U=0) (h:isJ c.created=true) (hd:c.domain.length≤4398046511104):∃ (k:ah) (e:Int),av Tryz.prog bG 108 [kC p,gK g P U,c.v] (.tup [k.v,.int .i64 e])∧(e=0→k.domain=c.domain):=by
 have h1:jP p g U=0:=by unfold jP;rw [hp];simpa using hg
 cases hl:qE p P U c with
 | true=>exact ⟨_,_,Ky (gG hp) h1 h hd hl,fun _=>rfl⟩
 | false=>exact ⟨_,_,Ra (gG hp) h1 h hd hl,fun h=>by cases h⟩
theorem UE (c1:aj Tryz.prog 106 [au s] (.tup [r.v,.int .i64 e])) (he:e≠0):aR Tryz.prog Γ 82 [.loc 0 0 0,evV 1 now s f] [rG S L nx p g P U t T] (.int .i64 e) [some (rG S L nx p g P U t T)]:=by
 refine bJ af Tryz.func82 rfl Tryz.ntmps82 Tryz.results82 rfl rfl rfl rfl fun N pl=>?_
 repeat' (first|refine zV ?_|(refine isR ?_;refine zk c1 ?_)|refine zW ?_|refine aA [0] ?_ ?_|exact ai)
 all_goals first|rfl|exact .on (.ren rfl) .nil|(exfalso;omega)
theorem Uo (c1:aj Tryz.prog 106 [au s] (.tup [r.v,.int .i64 0])) (c2:av Tryz.prog Γ 107 [.fro (S.map aG.v),r.v,f.v,.int .i64 now] (.tup [c.v,.int .i64 e])) (he:e≠0):aR Tryz.prog Γ 82 [.loc 0 0 0,evV 1 now s f] [rG S L nx p g P U t T] (.int .i64 e) [some (rG S L nx p g P U t T)]:=by
 refine bJ af Tryz.func82 rfl Tryz.ntmps82 Tryz.results82 rfl rfl rfl rfl fun N pl=>?_
 repeat' (first|refine zV ?_|(refine isR ?_;first|refine zk c1 ?_|refine zk c2 ?_)|refine zW ?_|refine aA [0] ?_ ?_|exact ai)
 all_goals first|rfl|exact .on (.ren rfl) .nil|(exfalso;omega)
theorem SQ (c1:aj Tryz.prog 106 [au s] (.tup [r.v,.int .i64 0])) (c2:av Tryz.prog Γ 107 [.fro (S.map aG.v),r.v,f.v,.int .i64 now] (.tup [c.v,.int .i64 0])) (c3:av Tryz.prog Γ 108 [kC p,gK g P U,c.v] (.tup [k.v,.int .i64 e])) (he:e≠0):aR Tryz.prog Γ 82 [.loc 0 0 0,evV 1 now s f] [rG S L nx p g P U t T] (.int .i64 e) [some (rG S L nx p g P U t T)]:=by
 refine bJ af Tryz.func82 rfl Tryz.ntmps82 Tryz.results82 rfl rfl rfl rfl fun N pl=>?_
 repeat' (first|refine zV ?_|(refine isR ?_;first|refine zk c1 ?_|refine zk c2 ?_|refine zk c3 ?_)|refine zW ?_|refine aA [0] ?_ ?_|exact ai)
 all_goals first|rfl|exact .on (.ren rfl) .nil|(exfalso;omega)
theorem SB (c1:aj Tryz.prog 106 [au s] (.tup [r.v,.int .i64 0])) (c2:av Tryz.prog Γ 107 [.fro (S.map aG.v),r.v,f.v,.int .i64 now] (.tup [c.v,.int .i64 0])) (c3:av Tryz.prog Γ 108 [kC p,gK g P U,c.v] (.tup [k.v,.int .i64 0])) (c4:aj Tryz.prog 109 [dI L nx,k.v,.int .i64 now] (.tup [dI [] 0,.int .i64 e])) (he:e≠0):aR Tryz.prog Γ 82 [.loc 0 0 0,evV 1 now s f] [rG S L nx p g P U t T] (.int .i64 e) [some (rG S [] 0 p g P U t T)]:=by
 refine bJ af Tryz.func82 rfl Tryz.ntmps82 Tryz.results82 rfl rfl rfl rfl fun N pl=>?_
 repeat' (first|refine zV ?_|(refine isR ?_;first|refine zk c1 ?_|refine zk c2 ?_|refine zk c3 ?_|refine zk c4 ?_)|refine zW ?_|refine aA [0] ?_ ?_|exact ai)
 all_goals first|rfl|exact .on (.ren rfl) .nil|(exfalso;omega)
theorem YN {M:List ah} (c1:aj Tryz.prog 106 [au s] (.tup [r.v,.int .i64 0])) (c2:av Tryz.prog Γ 107 [.fro (S.map aG.v),r.v,f.v,.int .i64 now] (.tup [c.v,.int .i64 0])) (c3:av Tryz.prog Γ 108 [kC p,gK g P U,c.v] (.tup [k.v,.int .i64 0])) (c4:aj Tryz.prog 109 [dI L nx,k.v,.int .i64 now] (.tup [dI M n2,.int .i64 0])) (c5:av Tryz.prog Γ 39 [stV S M n2 p g P U t] (dI K n2)):aR Tryz.prog Γ 82 [.loc 0 0 0,evV 1 now s f] [rG S L nx p g P U t T] (.int .i64 0) [some (rG S K n2 p g P U t T)]:=by
 refine bJ af Tryz.func82 rfl Tryz.ntmps82 Tryz.results82 rfl rfl rfl rfl fun N pl=>?_
 repeat' (first|refine zV ?_|(refine isR ?_;first|refine zk c1 ?_|refine zk c2 ?_|refine zk c3 ?_|refine zk c4 ?_|refine zk c5 ?_)|refine zW ?_|refine aA [0] ?_ ?_|exact ai)
 all_goals first|rfl|exact .on (.ren rfl) .nil|(exfalso;omega)
theorem Yd (h:gW L nx c now=0) (hL:∀ x∈L,x.domain.length≤4398046511104) (hc:c.domain.length≤4398046511104):∀ x∈(rZ L nx c now).1,x.domain.length≤4398046511104:=fun x hx=>by
 obtain ⟨r1,r2,r3⟩:=xq h
 obtain ⟨d,hd⟩:=abC.Vq r1 r2 r3 (now:=now)
 rcases hd.all x hx with ⟨rfl,_⟩|⟨h1,_⟩
 ·rw [(jd.1 hd.key).2.1];exact hc
 ·exact hL x h1
theorem Ym (hp:gB p=0) (hg:bF.check g U=0) (hn:isJ now=true) (hd:∀ x∈L,x.domain.length≤4398046511104):∃ (e:Int) (M:List ah) (n2:Int),aR Tryz.prog fU 82 [.loc 0 0 0,evV 1 now s f] [rG S L nx p g P U t T] (.int .i64 e) [some (rG S M n2 p g P U t T)]∧(e=0→(∀ x∈M,x.domain.length≤4398046511104)∧∃ K,Rj K n2∧M=dF p P U t K):=by
 obtain ⟨r,e1,c1,h1⟩:=UJ s
 by_cases z1:e1=0
 ·subst z1
  obtain ⟨c,e2,c2,h2⟩:=TD (S:=S) (f:=f) (now:=now) (h1 rfl)
  by_cases z2:e2=0
  ·subst z2
   obtain ⟨k1,k2,k3⟩:=h2 rfl
   obtain ⟨k,e3,c3,h3⟩:=Tg (P:=P) hp hg (by rw [k1];exact hn) (Nat.le_trans k3 (by decide))
   by_cases z3:e3=0
   ·subst z3
    by_cases z4:gW L nx k now=0
    ·have hd2:=Yd z4 hd (by rw [h3 rfl];exact Nat.le_trans k3 (by decide))
     obtain ⟨r1,r2,r3⟩:=xq z4
     obtain ⟨hr,_⟩:=PU r1 r2 r3 (now:=now)
     have c5:=lS (S:=S) (nx:=(rZ L nx k now).2) (g:=g) (P:=P) (U:=U) (t:=t) (gG hp) hr.len hd2 (CV hr)
     refine ⟨0,_,_,YN c1 c2 (kU c3) (Nr z4) (kU c5),fun _=>⟨fun x hx=>?_,_,hr,rfl⟩⟩
     obtain ⟨y,hy,rfl⟩:=Vl hx
     exact hd2 y hy
    ·exact ⟨_,_,_,SB c1 c2 (kU c3) ((Q0 z4).nfd rfl) (by omega),fun h=>absurd h (by omega)⟩
   ·exact ⟨_,_,_,SQ c1 c2 (kU c3) z3,fun h=>absurd h z3⟩
  ·exact ⟨_,_,_,Uo c1 c2 z2,fun h=>absurd h z2⟩
 ·exact ⟨_,_,_,UE c1 z1,fun h=>absurd h z1⟩
theorem UB (c1:aj Tryz.prog 34 [kC q] (.int .i64 e)) (he:e≠0):aR Tryz.prog Γ 85 [.loc 0 0 0,evG 4 now [] f0 q] [rG S L nx p g P U t T] (.int .i64 e) [some (rG S L nx p g P U t T)]:=by
 refine bJ af Tryz.func85 rfl Tryz.ntmps85 Tryz.results85 rfl rfl rfl rfl fun N pl=>?_
 repeat' (first|refine zV ?_|(refine isR ?_;refine zk c1 ?_)|refine zW ?_|refine aA [0] ?_ ?_|exact ai)
 all_goals first|rfl|exact .on (.ren rfl) .nil|(exfalso;omega)
theorem TF (c1:aj Tryz.prog 34 [kC q] (.int .i64 0)) (c2:aj Tryz.prog 79 [.fro (q.rules.map Rule.v)] (.fro (q.rules.map Rule.v))) (c3:av Tryz.prog Γ 39 [stV S L nx q g P U t] (dI K nx)):aR Tryz.prog Γ 85 [.loc 0 0 0,evG 4 now [] f0 q] [rG S L nx p g P U t T] (.int .i64 0) [some (rG S K nx q g P U t T)]:=by
 refine bJ af Tryz.func85 rfl Tryz.ntmps85 Tryz.results85 rfl rfl rfl rfl fun N pl=>?_
 repeat' (first|refine zV ?_|(refine isR ?_;first|refine zk c1 ?_|refine zk c2 ?_|refine zk c3 ?_)|refine zW ?_|refine aA [0] ?_ ?_|exact ai)
 all_goals first|rfl|exact .on (.ren rfl) .nil|(exfalso;omega)
theorem acP (cp:av Tryz.prog Γ 39 [stV S L nx p g P U now] (dI K nx)) (ca:aR Tryz.prog Γ 82 [.loc 0 0 0,evV 1 now s f] [rG S K nx p g P U now T] (.int .i64 e) [some (rG S L2 n2 p g P U now T)]):aR Tryz.prog Γ 45 [.loc 0 0 0,evV 1 now s f] [rG S L nx p g P U t T] (.int .i64 e) [some (rG S L2 n2 p g P U now T)]:=by
 refine bJ af Tryz.func45 rfl Tryz.ntmps45 Tryz.results45 rfl rfl rfl rfl fun N pl=>?_
 repeat' (first|refine zV ?_|(refine isR ?_;first|refine zk cp ?_|refine eG [0] [] (ca _) ?_|refine eG [0] [] (ca) ?_)|refine zW ?_|refine aA [0] ?_ ?_|exact ai)
 all_goals first|rfl|exact .on (.ren rfl) .nil
theorem Zw {p2:Pol} (cp:av Tryz.prog Γ 39 [stV S L nx p g P U now] (dI K nx)) (ca:aR Tryz.prog Γ 85 [.loc 0 0 0,evG 4 now [] f0 q] [rG S K nx p g P U now T] (.int .i64 e) [some (rG S L2 nx p2 g P U now T)]):aR Tryz.prog Γ 45 [.loc 0 0 0,evG 4 now [] f0 q] [rG S L nx p g P U t T] (.int .i64 e) [some (rG S L2 nx p2 g P U now T)]:=by
 refine bJ af Tryz.func45 rfl Tryz.ntmps45 Tryz.results45 rfl rfl rfl rfl fun N pl=>?_
 repeat' (first|refine zV ?_|(refine isR ?_;first|refine zk cp ?_|refine eG [0] [] (ca _) ?_|refine eG [0] [] (ca) ?_)|refine zW ?_|refine aA [0] ?_ ?_|exact ai)
 all_goals first|rfl|exact .on (.ren rfl) .nil
end acQ
end Go.Proofs.YtlfdjpgghiemfaaGreatDoor
