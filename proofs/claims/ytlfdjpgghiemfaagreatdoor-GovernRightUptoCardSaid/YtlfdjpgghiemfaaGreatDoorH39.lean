/- Texts of the proof, joined: ConV. -/
import Derived.Test.YtlfdjpgghiemfaaGreatDoorH38
set_option maxHeartbeats 4000000
set_option maxRecDepth 100000
namespace Go.Proofs.YtlfdjpgghiemfaaGreatDoor
namespace aaM
open Go.RowKit Mem Abs gT eu jL Ji E8 lG EM IZ Jp ZV
abbrev TI:Nat:=3
abbrev TS:Nat:=198
abbrev TC:Nat:=33
abbrev Zr (g:Nat) (P:Nat→Bool) (n m:Nat):Abs.V:=.agg [fC g,.bool (P 0),.bool (P 1),.bool (P 2),.bool (P 3),.bool (P 4),.bool (P 5),.bool (P 6),.bool (P 7),.bool (P 8),.bool (P 9),.own n 0 m]
abbrev cB (g:Nat) (P:Nat→Bool) (n m:Nat):Blk:=.els TC 12 [Zr g P n m]
abbrev vB (U:List Nat):Blk:=.els TI 1 (U.map fC)
def upP (P:Nat→Bool) (k i:Nat):Bool:=decide (i<k)&&P i
theorem Zl {g n m:Nat} (P:Nat→Bool) {k:Nat} (h:k<10):Km (Zr g (upP P k) n m) (0+1+((k:Nat):Int).toNat*1) (.bool (P k))=some (Zr g (upP P (k+1)) n m):=by
 have:k=0∨k=1∨k=2∨k=3∨k=4∨k=5∨k=6∨k=7∨k=8∨k=9:=by omega
 rcases this with rfl|rfl|rfl|rfl|rfl|rfl|rfl|rfl|rfl|rfl<;>rfl
theorem XO {l:List Nat} {i:Nat} (h:i<l.length):num ((l.drop i).take 1)=l.getD i 0:=by
 rw [List.drop_eq_getElem_cons h,List.getD_eq_getElem?_getD,List.getElem?_eq_getElem h,List.take_succ_cons,List.take_zero]
 show 2*0+l[i]=l[i]
 omega
theorem xJ (s:List UInt8) (n W:Nat):dA s n W<2^W :=
 Nat.lt_of_lt_of_le (qE (fun b hb=>lT s b (List.mem_of_mem_drop (List.mem_of_mem_take hb)))) (Nat.pow_le_pow_right (by omega) (List.length_take_le _ _))
section
variable {s:List UInt8} {b:Bg} {pl:Nat→Pl} {c:Code} {Q:Exit→S→Prop}
theorem Wq {m pos:Nat} {acc:List Nat} {V:Option (List Nat)} (h:(qH (m+1) ((aF s).drop pos)).map (acc ++ ·)=V) (hp:pos≤8*s.length) :
  (8*s.length<pos+7→V=none) ∧
  (dA s pos 1=1→8*s.length<pos+13→V=none) ∧
  (dA s pos 1=1→pos+13≤8*s.length→(qH m ((aF s).drop (pos+13))).map ((acc++nC (dA s (pos+1) 6) (dA s (pos+7) 6)) ++ ·)=V) ∧
  (dA s pos 1≠1→pos+7≤8*s.length→(qH m ((aF s).drop (pos+7))).map ((acc++nC (dA s (pos+1) 6) (dA s (pos+1) 6)) ++ ·)=V):=by
 have hl:=fU s
 have hd:((aF s).drop pos).length=8*s.length-pos:=by rw [List.length_drop,hl]
 rw [qH,hd,List.drop_drop,List.drop_drop,List.drop_drop] at h
 have hm:∀ (o:Option (List Nat)) (x:List Nat),(o.map (x ++ ·)).map (acc ++ ·)=o.map ((acc++x) ++ ·):=fun o x=>by
  cases o with
  | none=>rfl
  | some y=>simp
 refine ⟨fun h1=>?_,fun h1 h2=>?_,fun h1 h2=>?_,fun h1 h2=>?_⟩
 ·rw [if_pos (by omega)] at h
  exact h.symm
 ·by_cases h3:8*s.length<pos+7
  ·rw [if_pos (by omega)] at h
   exact h.symm
  ·rw [if_neg (by omega),if_pos h1,if_pos (by omega)] at h
   exact h.symm
 ·rw [if_neg (by omega),if_pos h1,if_neg (by omega),hm] at h
  exact h
 ·rw [if_neg (by omega),if_neg h1,hm] at h
  exact h
theorem W9 (a c:Nat) (h:c<64):(nC a c).length≤64:=by simp [nC];omega
theorem NU (h:8*s.length<59) (h6:6≤8*s.length) (hv:dA s 0 6=1):gI (aF s)=5:=by
 have hl:=fU s
 have hv:num ((aF s).take 6)=1:=hv
 unfold gI
 rw [if_neg (by omega),if_neg (by rw [hv];decide),if_pos (by omega)]
theorem Qh (h:59≤8*s.length) (hv:dA s 0 6=1) (hn:mJ (aF s)=none):gI (aF s)=5:=by
 have hl:=fU s
 have hv:num ((aF s).take 6)=1:=hv
 unfold gI
 rw [if_neg (by omega),if_neg (by rw [hv];decide),if_neg (by omega),hn]
theorem pU (h:59≤8*s.length) (hv:dA s 0 6=1) {U:List Nat} (hn:mJ (aF s)=some U):gI (aF s)=0:=by
 have hl:=fU s
 have hv:num ((aF s).take 6)=1:=hv
 unfold gI
 rw [if_neg (by omega),if_neg (by rw [hv];decide),if_neg (by omega),hn]
theorem N9 (h:59≤8*s.length) (h1:dA s 58 1≠1):mJ (aF s)=if 8*s.length<59+dA s 52 6 then none else some (qG (dA s 52 6) ((aF s).drop 59)):=by
 have hl:=fU s
 have hd:((aF s).drop 58).length=8*s.length-58:=by rw [List.length_drop,hl]
 have h1:num (((aF s).drop 58).take 1)≠1:=h1
 unfold mJ LX
 rw [if_neg h1,hd,List.drop_drop]
 show (if 8*s.length-58<1+dA s 52 6 then none else some (qG (dA s 52 6) ((aF s).drop 59)))=_
 by_cases h2:8*s.length<59+dA s 52 6
 ·rw [if_pos h2,if_pos (by omega)]
 ·rw [if_neg h2,if_neg (by omega)]
theorem Ni (h:59≤8*s.length) (h1:dA s 58 1=1):mJ (aF s)=if 8*s.length<65 then none else qH (dA s 59 6) ((aF s).drop 65):=by
 have hl:=fU s
 have hd:((aF s).drop 58).length=8*s.length-58:=by rw [List.length_drop,hl]
 have h1:num (((aF s).drop 58).take 1)=1:=h1
 unfold mJ LX
 rw [if_pos h1,hd,List.drop_drop,List.drop_drop]
 show (if 8*s.length-58<7 then none else qH (dA s 59 6) ((aF s).drop 65))=_
 by_cases h2:8*s.length<65
 ·rw [if_pos h2,if_pos (by omega)]
 ·rw [if_neg h2,if_neg (by omega)]
abbrev rs:List ResultVar:=[.cell 2 TC]
abbrev stC (s:List UInt8) (pos:Nat) (g:Nat) (P:Nat→Bool) (U:List Nat) (tm:List (Nat × V)):S:=⟨[(0,.loc 0 0 0),(2,.loc 1 0 0)]++tm,[(0,some (oF TS s pos)),(1,some (cB g P 2 U.length)),(2,some (vB U))],3,72⟩
theorem xE (hs:s.length≤1048576) (hc:Tryz.f148.body=some c)
  (hret:∀ U s',gI (aF s)=0→mJ (aF s)=some U→Q0 tb rs 1 (Jh (given (aF s)) (fG (aF s)) U) [none] .ret s'→Q .ret s')
  (h5:∀ s',gI (aF s)=5→Q (.panic (qf 5)) s') (h7:∀ s',gI (aF s)=7→Q (.panic (qf 7)) s') :
  AWp Tryz.prog ⟨b,1,pl,[]⟩ c Q ⟨[(0,.loc 0 0 0)],[(0,some (oF TS s 0))],1,72⟩:=by
 have hl:=fU s
 have hc2:_=c:=Option.some.inj (hc:some _=some c)
 subst hc2
 by_cases a6:8*s.length<6
 ·have p:=jP (T:=TS) (n:=0) (W:=6) (s:=s) hs (by omega) (by omega)
  have hcode:gI (aF s)=5:=by unfold gI;rw [if_pos (by omega)]
  repeat' (first|refine bZ (id:=1) 1 ?_|(refine nO ?_;refine kR [0] (p _) ?_)|refine zt ?_|(refine isR ?_;first|refine zo ?_|refine zX ?_)|exact ah)
  exact h5 _ hcode
 have d1:=jX (T:=TS) (n:=0) (W:=6) (s:=s) hs (by omega) (by omega)
 have hlt1:=xJ s 0 6
 by_cases a7:dA s 0 6=1
 ·have hsh:=fun h=>NU (s:=s) h (by omega) a7
  rw [a7] at d1
  by_cases a42:8*s.length<42
  ·have p:=jP (T:=TS) (n:=6) (W:=36) (s:=s) hs (by omega) (by omega)
   have hcode:=hsh (by omega)
   repeat' (first|refine jS 1 11 TI 1 rfl rfl (by decide) rfl ?_|refine bZ (id:=3) 1 ?_|(refine nO ?_;refine kR [0] (p _) ?_)|refine zt ?_|(refine isR ?_;first|refine zo ?_|refine x_m [0] [] (d1 _) ?_ (hst:=.cons (.same rfl) .nil)|refine zX ?_)|exact ah)
   exact h5 _ hcode
  have d2:=jX (T:=TS) (n:=6) (W:=36) (s:=s) hs (by omega) (by omega)
  have hg:given (aF s)=dA s 6 36:=rfl
  rw [← hg] at d2
  generalize given (aF s)=g at *
  repeat' (first|refine jS 1 11 TI 1 rfl rfl (by decide) rfl ?_|refine zt ?_|(refine isR ?_;first|refine zo ?_|refine x_m [0] [] (d1 _) ?_ (hst:=.cons (.same rfl) .nil)|refine x_m [0] [] (d2 _) ?_ (hst:=.cons (.same rfl) .nil)|refine zX ?_)|exact ah)
  refine fB (fun k:Nat=>stC s (42+k) g (upP (fG (aF s)) k) [] [(18,fC k)]) (fun k=>k≤10∧42+k≤8*s.length) (fun k=>10-k) 0 ?_ ⟨Nat.zero_le _,by omega⟩ ?_
  ·exact (by exact x_len [0,1,2])
  rintro k ⟨hk,hk3⟩
  by_cases hk2:k<10
  ·by_cases am:8*s.length<42+k+1
   ·have p:=Hq (T:=TS) (n:=42+k) (s:=s) hs (by omega) (by omega)
    have hcode:=hsh (by omega)
    repeat' (first|refine bZ (id:=7) 2 ?_|(refine nO ?_;refine kR [0] (p _) ?_)|refine zt ?_|(refine isR ?_;first|refine zo ?_|refine zX ?_)|exact ah)
    exact h5 _ hcode
   ·have d3:=AA (T:=TS) (n:=42+k) (s:=s) hs (by omega)
    have hp:decide (dA s (42+k) 1=1)=fG (aF s) k:=rfl
    have hput:=Zl (g:=g) (n:=2) (m:=([]:List Nat).length) (fG (aF s)) hk2
    rw [hp] at d3
    generalize hA:42+k=A at *
    repeat' (first|refine zt ?_|(refine isR ?_;first|refine zo ?_|refine x_m [0] [] (d3 _) ?_ (hst:=.cons (.same rfl) .nil)|refine adB (Zr g (upP (fG (aF s)) (k+1)) 2 ([]:List Nat).length) af ?_ hput|refine zX ?_)|exact ah)
    refine ⟨k+1,⟨by omega,by omega⟩,by omega,?_⟩
    rw [show 42+(k+1)=A+1 from by omega]
    exact (by exact x_len [0,1,2])
  ·obtain rfl:k=10:=by omega
   by_cases a58:8*s.length<58
   ·have p:=jP (T:=TS) (n:=52) (W:=6) (s:=s) hs (by omega) (by omega)
    have hcode:=hsh (by omega)
    repeat' (first|refine bZ (id:=9) 1 ?_|(refine nO ?_;refine kR [0] (p _) ?_)|refine zt ?_|(refine isR ?_;first|refine zo ?_|refine zX ?_)|exact ah)
    exact h5 _ hcode
   have d4:=jX (T:=TS) (n:=52) (W:=6) (s:=s) hs (by omega) (by omega)
   have a59:¬ 8*s.length<59:=by omega
   have d5:=AA (T:=TS) (n:=58) (s:=s) hs (by omega)
   have hnone:=Qh (s:=s) (by omega) a7
   have hsome:=fun U=>pU (s:=s) (by omega) a7 (U:=U)
   have hlast:=xJ s 52 6
   by_cases ar:dA s 58 1=1
   ·have hv:=Ni (s:=s) (by omega) ar
    rw [decide_eq_true ar] at d5
    clear hsh d1 d2
    have hmany:=xJ s 59 6
    by_cases a65:8*s.length<65
    ·rw [if_pos a65] at hv
     have p:=jP (T:=TS) (n:=59) (W:=6) (s:=s) hs (by omega) (by omega)
     have hcode:=hnone hv
     repeat' (first|refine bZ (id:=17) 1 ?_|(refine nO ?_;refine kR [0] (p _) ?_)|refine zt ?_|(refine isR ?_;first|refine zo ?_|refine x_m [0] [] (d4 _) ?_ (hst:=.cons (.same rfl) .nil)|refine x_m [0] [] (d5 _) ?_ (hst:=.cons (.same rfl) .nil)|refine zX ?_)|exact ah)
     exact h5 _ hcode
    rw [if_neg a65] at hv
    have d6:=jX (T:=TS) (n:=59) (W:=6) (s:=s) hs (by omega) (by omega)
    generalize hma:dA s 59 6=ma at *
    repeat' (first|refine zt ?_|(refine isR ?_;first|refine zo ?_|refine x_m [0] [] (d4 _) ?_ (hst:=.cons (.same rfl) .nil)|refine x_m [0] [] (d5 _) ?_ (hst:=.cons (.same rfl) .nil)|refine x_m [0] [] (d6 _) ?_ (hst:=.cons (.same rfl) .nil)|refine zX ?_)|exact ah)
    refine fB (α:=Nat × Nat × List Nat) (fun x=>stC s x.2.1 g (fG (aF s)) x.2.2 [(47,fC ma),(48,fC x.1)]) (fun x=>x.1≤ma∧x.2.1≤8*s.length∧x.2.2.length≤64*x.1∧(qH (ma-x.1) ((aF s).drop x.2.1)).map (x.2.2 ++ ·)=mJ (aF s)) (fun x=>ma-x.1) (0,65,[]) ?_ ⟨Nat.zero_le _,by dsimp only;omega,by simp,?_⟩ ?_
    ·exact (by exact x_len [0,1,2])
    ·rw [hv]
     dsimp only
     rw [Nat.sub_zero]
     cases qH ma ((aF s).drop 65)<;>rfl
    clear d4 d5 d6 hv
    rintro ⟨j,pos,acc⟩ ⟨hj,hpos,hacc,hrun⟩
    dsimp only at hj hpos hacc hrun ⊢
    by_cases hj2:j<ma
    ·obtain ⟨m,hm⟩:∃ m,ma-j=m+1:=⟨ma-j-1,by omega⟩
     rw [hm] at hrun
     obtain ⟨o1,o2,o3,o4⟩:=Wq hrun hpos
     clear hrun
     by_cases b1:8*s.length<pos+1
     ·have p:=Hq (T:=TS) (n:=pos) (s:=s) hs (by omega) (by omega)
      have hcode:=hnone (o1 (by omega))
      repeat' (first|refine bZ (id:=19) 1 ?_|(refine nO ?_;refine kR [0] (p _) ?_)|refine zt ?_|(refine isR ?_;first|refine zo ?_|refine zX ?_)|exact ah)
      exact h5 _ hcode
     have e1:=AA (T:=TS) (n:=pos) (s:=s) hs (by omega)
     by_cases b7:8*s.length<pos+7
     ·have p:=jP (T:=TS) (n:=pos+1) (W:=6) (s:=s) hs (by omega) (by omega)
      have hcode:=hnone (o1 (by omega))
      repeat' (first|refine bZ (id:=20) 1 ?_|(refine nO ?_;refine kR [0] (p _) ?_)|refine zt ?_|(refine isR ?_;first|refine zo ?_|refine x_m [0] [] (e1 _) ?_ (hst:=.cons (.same rfl) .nil)|refine zX ?_)|exact ah)
      exact h5 _ hcode
     have e2:=jX (T:=TS) (n:=pos+1) (W:=6) (s:=s) hs (by omega) (by omega)
     have hf:=xJ s (pos+1) 6
     have hto:=xJ s (pos+7) 6
     by_cases bm:dA s pos 1=1
     ·rw [decide_eq_true bm] at e1
      by_cases b13:8*s.length<pos+13
      ·have p:=jP (T:=TS) (n:=pos+1+6) (W:=6) (s:=s) hs (by omega) (by omega)
       have hcode:=hnone (o2 bm (by omega))
       repeat' (first|refine bZ (id:=23) 1 ?_|(refine nO ?_;refine kR [0] (p _) ?_)|refine zt ?_|(refine isR ?_;first|refine zo ?_|refine x_m [0] [] (e1 _) ?_ (hst:=.cons (.same rfl) .nil)|refine x_m [0] [] (e2 _) ?_ (hst:=.cons (.same rfl) .nil)|refine zX ?_)|exact ah)
       exact h5 _ hcode
      have e3:=jX (T:=TS) (n:=pos+1+6) (W:=6) (s:=s) hs (by omega) (by omega)
      have o3:=o3 bm (by omega)
      have hp7:pos+1+6=pos+7:=by omega
      have hp13:pos+7+6=pos+13:=by omega
      rw [hp7,hp13] at e3
      clear o1 o2 o4
      generalize dA s (pos+1) 6=fi at *
      generalize dA s (pos+7) 6=tw at *
      rw [hp7] at e2
      have hcnt:(nC fi tw).length≤64:=W9 _ _ (by omega)
      repeat' (first|refine zt ?_|(refine isR ?_;first|refine zo ?_|refine x_m [0] [] (e1 _) ?_ (hst:=.cons (.same rfl) .nil)|refine x_m [0] [] (e2 _) ?_ (hst:=.cons (.same rfl) .nil)|refine x_m [0] [] (e3 _) ?_ (hst:=.cons (.same rfl) .nil)|refine zX ?_)|exact ah)
      refine fB (fun i:Nat=>stC s (pos+13) g (fG (aF s)) (acc++List.range' fi i) [(47,fC ma),(48,fC j),(8,fC tw),(9,.int .i64 ((fi:Int)+(i:Int)))]) (fun i=>i≤tw+1-fi) (fun i=>tw+1-fi-i) 0 ?_ (Nat.zero_le _) ?_
      ·rw [show acc++List.range' fi 0=acc from by simp]
       exact (by exact x_len [0,1,2])
      intro i hi
      by_cases hi2:i<tw+1-fi
      ·have hst:acc++List.range' fi (i+1)=(acc++List.range' fi i)++[fi+i]:=by rw [List.range'_concat,List.append_assoc];simp
       have hvv:fC (fi+i) = .int .i64 ((fi:Int)+(i:Int)):=rfl
       have hal:(acc++List.range' fi i).length≤5000:=by rw [List.length_append,List.length_range'];omega
       have hi1:((fi:Int)+((i+1:Nat):Int))=(fi:Int)+(i:Int)+1:=by omega
       generalize hE:acc++List.range' fi (i+1)=E1 at *
       generalize acc++List.range' fi i=E at *
       subst hst
       repeat' (first|refine zt ?_|(refine isR ?_;first|refine zo ?_|refine kL fC (a1:=(fi+i)) af ?_|refine zX ?_)|exact ah)
       refine ⟨i+1,by omega,by omega,?_⟩
       rw [hE,hi1]
       exact (by exact x_len [0,1,3])
      ·obtain rfl:i=tw+1-fi:=by omega
       rw [show List.range' fi (tw+1-fi)=nC fi tw from rfl]
       have hal:(acc++nC fi tw).length≤64*(j+1):=by rw [List.length_append];omega
       have hni:¬ (fi:Int)+((tw+1-fi:Nat):Int)≤(tw:Int):=by omega
       rw [show m=ma-(j+1) from by omega] at o3
       generalize acc++nC fi tw=E at *
       repeat' (first|refine zt ?_|(refine isR ?_;first|refine zo ?_|refine zX ?_)|exact ah)
       refine ⟨(j+1,pos+13,E),⟨by dsimp only;omega,by dsimp only;omega,hal,o3⟩,by dsimp only;omega,?_⟩
       exact (by exact x_len [0,1,2])
     ·rw [decide_eq_false bm] at e1
      have o4:=o4 bm (by omega)
      have hp7:pos+1+6=pos+7:=by omega
      clear o1 o2 o3
      generalize dA s (pos+1) 6=fi at *
      rw [hp7] at e2
      repeat' (first|refine zt ?_|(refine isR ?_;first|refine zo ?_|refine x_m [0] [] (e1 _) ?_ (hst:=.cons (.same rfl) .nil)|refine x_m [0] [] (e2 _) ?_ (hst:=.cons (.same rfl) .nil)|refine zX ?_)|exact ah)
      refine fB (fun i:Nat=>stC s (pos+7) g (fG (aF s)) (acc++List.range' fi i) [(47,fC ma),(48,fC j),(8,fC fi),(9,.int .i64 ((fi:Int)+(i:Int)))]) (fun i=>i≤1) (fun i=>1-i) 0 ?_ (Nat.zero_le _) ?_
      ·rw [show acc++List.range' fi 0=acc from by simp]
       exact (by exact x_len [0,1,2])
      intro i hi
      by_cases hi2:i<1
      ·have hst:acc++List.range' fi (i+1)=(acc++List.range' fi i)++[fi+i]:=by rw [List.range'_concat,List.append_assoc];simp
       have hvv:fC (fi+i) = .int .i64 ((fi:Int)+(i:Int)):=rfl
       have hal:(acc++List.range' fi i).length≤5000:=by rw [List.length_append,List.length_range'];omega
       have hi1:((fi:Int)+((i+1:Nat):Int))=(fi:Int)+(i:Int)+1:=by omega
       generalize hE:acc++List.range' fi (i+1)=E1 at *
       generalize acc++List.range' fi i=E at *
       subst hst
       repeat' (first|refine zt ?_|(refine isR ?_;first|refine zo ?_|refine kL fC (a1:=(fi+i)) af ?_|refine zX ?_)|exact ah)
       refine ⟨i+1,by omega,by omega,?_⟩
       rw [hE,hi1]
       exact (by exact x_len [0,1,3])
      ·obtain rfl:i=1:=by omega
       have hspan:List.range' fi 1=nC fi fi:=by unfold nC;rw [show fi+1-fi=1 from by omega]
       rw [hspan]
       have hal:(acc++nC fi fi).length≤64*(j+1):=by rw [List.length_append,← hspan];simp;omega
       have hni:¬ (fi:Int)+((1:Nat):Int)≤(fi:Int):=by omega
       rw [show m=ma-(j+1) from by omega] at o4
       generalize acc++nC fi fi=E at *
       repeat' (first|refine zt ?_|(refine isR ?_;first|refine zo ?_|refine zX ?_)|exact ah)
       refine ⟨(j+1,pos+7,E),⟨by dsimp only;omega,by dsimp only;omega,hal,o4⟩,by dsimp only;omega,?_⟩
       exact (by exact x_len [0,1,2])
    ·obtain rfl:j=ma:=by omega
     have hV:mJ (aF s)=some acc:=by
      rw [← hrun,Nat.sub_self]
      simp [qH]
     have hcode:=hsome _ hV
     refine sM 1 11 2 rfl (fun _=>rfl) ?_
     repeat' (first|refine hret acc _ hcode hV ?_|refine zt ?_|(refine isR ?_;first|refine zo ?_|refine zX ?_)|refine aA [0] ?_ ?_|exact ah)
     ·rfl
     ·exact .no .nil
   ·have hv:=N9 (s:=s) (by omega) ar
    rw [decide_eq_false ar] at d5
    clear hsh d1 d2
    generalize hla:dA s 52 6=la at *
    repeat' (first|refine zt ?_|(refine isR ?_;first|refine zo ?_|refine x_m [0] [] (d4 _) ?_ (hst:=.cons (.same rfl) .nil)|refine x_m [0] [] (d5 _) ?_ (hst:=.cons (.same rfl) .nil)|refine zX ?_)|exact ah)
    refine fB (fun i:Nat=>stC s (59+i) g (fG (aF s)) (qG i ((aF s).drop 59)) [(4,fC la),(5,.int .i64 ((i:Int)+1))]) (fun i=>i≤la∧59+i≤8*s.length) (fun i=>la-i) 0 ?_ ⟨Nat.zero_le _,by omega⟩ ?_
    ·exact (by exact x_len [0,1,2])
    rintro i ⟨hi,hi3⟩
    have hel:=Sg i ((aF s).drop 59)
    by_cases hi2:i<la
    ·by_cases am:8*s.length<59+i+1
     ·have p:=Hq (T:=TS) (n:=59+i) (s:=s) hs (by omega) (by omega)
      rw [if_pos (by omega)] at hv
      have hcode:=hnone hv
      repeat' (first|refine bZ (id:=14) 1 ?_|(refine nO ?_;refine kR [0] (p _) ?_)|refine zt ?_|(refine isR ?_;first|refine zo ?_|refine zX ?_)|exact ah)
      exact h5 _ hcode
     ·have d6:=AA (T:=TS) (n:=59+i) (s:=s) hs (by omega)
      have hbit:dA s (59+i) 1=((aF s).drop 59).getD i 0:=by
       rw [← XO (by rw [List.length_drop,hl];omega),List.drop_drop]
      have hst:=MV i ((aF s).drop 59)
      rw [← hbit] at hst
      have hA:59+(i+1)=59+i+1:=by omega
      have hi1:(((i+1:Nat):Int)+1)=(i:Int)+1+1:=by omega
      generalize hE:qG (i+1) ((aF s).drop 59)=E1 at *
      generalize qG i ((aF s).drop 59)=E at *
      generalize 59+i=A at *
      by_cases ab:dA s A 1=1
      ·rw [decide_eq_true ab] at d6
       rw [if_pos ab] at hst
       subst hst
       repeat' (first|refine zt ?_|(refine isR ?_;first|refine zo ?_|refine x_m [0] [] (d6 _) ?_ (hst:=.cons (.same rfl) .nil)|refine kL fC (a1:=(i+1)) af ?_|refine zX ?_)|exact ah)
       refine ⟨i+1,⟨by omega,by omega⟩,by omega,?_⟩
       rw [hA,hE,hi1]
       exact (by exact x_len [0,1,3])
      ·rw [decide_eq_false ab] at d6
       rw [if_neg ab,List.append_nil] at hst
       subst hst
       repeat' (first|refine zt ?_|(refine isR ?_;first|refine zo ?_|refine x_m [0] [] (d6 _) ?_ (hst:=.cons (.same rfl) .nil)|refine zX ?_)|exact ah)
       refine ⟨i+1,⟨by omega,by omega⟩,by omega,?_⟩
       rw [hA,hE,hi1]
       exact (by exact x_len [0,1,2])
    ·obtain rfl:i=la:=by omega
     rw [if_neg (by omega)] at hv
     have hcode:=hsome _ hv
     generalize qG i ((aF s).drop 59)=E at *
     refine sM 1 11 2 rfl (fun _=>rfl) ?_
     repeat' (first|refine hret E _ hcode hv ?_|refine zt ?_|(refine isR ?_;first|refine zo ?_|refine zX ?_)|refine aA [0] ?_ ?_|exact ah)
     ·rfl
     ·exact .no .nil
 ·have hcode:gI (aF s)=7:=by
   unfold gI
   rw [if_neg (by omega),if_pos (show num ((aF s).take 6)≠1 from a7)]
  have a7':(dA s 0 6:Int)≠1:=by omega
  generalize dA s 0 6=z at *
  repeat' (first|refine bZ (id:=2) 2 ?_|(refine nO ?_;refine OY ?_)|refine zt ?_|(refine isR ?_;first|refine zo ?_|refine x_m [0] [] (d1 _) ?_ (hst:=.cons (.same rfl) .nil)|refine zX ?_)|exact ah)
  exact h7 _ hcode
end
end aaM
end Go.Proofs.YtlfdjpgghiemfaaGreatDoor
