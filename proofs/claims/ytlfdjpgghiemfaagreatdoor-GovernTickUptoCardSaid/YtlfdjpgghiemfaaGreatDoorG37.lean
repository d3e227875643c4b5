/- Texts of the proof, joined: ConV. -/
import Derived.Test.YtlfdjpgghiemfaaGreatDoorG36
set_option maxHeartbeats 4000000
set_option maxRecDepth 100000
namespace Go.Proofs.YtlfdjpgghiemfaaGreatDoor
namespace aar
open Go.RowKit Mem Abs gH dW jG GZ Hu mY Et IV K7 Y7
abbrev TI:Nat:=3
abbrev TS:Nat:=198
abbrev TC:Nat:=33
abbrev Xh (g:Nat) (P:Nat→Bool) (n m:Nat):Abs.V:=.agg [eZ g,.bool (P 0),.bool (P 1),.bool (P 2),.bool (P 3),.bool (P 4),.bool (P 5),.bool (P 6),.bool (P 7),.bool (P 8),.bool (P 9),.own n 0 m]
abbrev cB (g:Nat) (P:Nat→Bool) (n m:Nat):Blk:=.els TC 12 [Xh g P n m]
abbrev vB (U:List Nat):Blk:=.els TI 1 (U.map eZ)
def upP (P:Nat→Bool) (k i:Nat):Bool:=decide (i<k)&&P i
theorem Xl {g n m:Nat} (P:Nat→Bool) {k:Nat} (h:k<10):JV (Xh g (upP P k) n m) (0+1+((k:Nat):Int).toNat*1) (.bool (P k))=some (Xh g (upP P (k+1)) n m):=by
 have:k=0∨k=1∨k=2∨k=3∨k=4∨k=5∨k=6∨k=7∨k=8∨k=9:=by omega
 rcases this with rfl|rfl|rfl|rfl|rfl|rfl|rfl|rfl|rfl|rfl<;>rfl
theorem YI {l:List Nat} {i:Nat} (h:i<l.length):num ((l.drop i).take 1)=l.getD i 0:=by
 rw [List.drop_eq_getElem_cons h,List.getD_eq_getElem?_getD,List.getElem?_eq_getElem h,List.take_succ_cons,List.take_zero]
 show 2*0+l[i]=l[i]
 omega
theorem wz (s:List UInt8) (n W:Nat):dw s n W<2^W :=
 Nat.lt_of_lt_of_le (pu (fun b hb=>lC s b (List.mem_of_mem_drop (List.mem_of_mem_take hb)))) (Nat.pow_le_pow_right (by omega) (List.length_take_le _ _))
section
variable {s:List UInt8} {b:Bg} {pl:Nat→Pl} {c:Code} {Q:Exit→S→Prop}
theorem Va {m pos:Nat} {acc:List Nat} {V:Option (List Nat)} (h:(qC (m+1) ((aF s).drop pos)).map (acc ++ ·)=V) (hp:pos≤8*s.length) :
  (8*s.length<pos+7→V=none) ∧
  (dw s pos 1=1→8*s.length<pos+13→V=none) ∧
  (dw s pos 1=1→pos+13≤8*s.length→(qC m ((aF s).drop (pos+13))).map ((acc++nJ (dw s (pos+1) 6) (dw s (pos+7) 6)) ++ ·)=V) ∧
  (dw s pos 1≠1→pos+7≤8*s.length→(qC m ((aF s).drop (pos+7))).map ((acc++nJ (dw s (pos+1) 6) (dw s (pos+1) 6)) ++ ·)=V):=by
 have hl:=fK s
 have hd:((aF s).drop pos).length=8*s.length-pos:=by rw [List.length_drop,hl]
 rw [qC,hd,List.drop_drop,List.drop_drop,List.drop_drop] at h
 have hm:∀ (o:Option (List Nat)) (x:List Nat),(o.map (x ++ ·)).map (acc ++ ·)=o.map ((acc++x) ++ ·):=fun o x=>by
  cases o with
  | none=>rfl
  | some y=>simp
 refine ⟨fun h1=>?_,fun h1 h2=>?_,fun h1 h2=>?_,fun h1 h2=>?_⟩
 ·rw [if_pos (by omega)] at h
  exact h.symm
 ·by_cases h3:8*s.length<pos+7
  ·rw [if_pos (by omega)] at h
   exact h.symm
  ·rw [if_neg (by omega),if_pos h1,if_pos (by omega)] at h
   exact h.symm
 ·rw [if_neg (by omega),if_pos h1,if_neg (by omega),hm] at h
  exact h
 ·rw [if_neg (by omega),if_neg h1,hm] at h
  exact h
theorem Vu (a c:Nat) (h:c<64):(nJ a c).length≤64:=by simp [nJ];omega
theorem Mt (h:8*s.length<59) (h6:6≤8*s.length) (hv:dw s 0 6=1):gI (aF s)=5:=by
 have hl:=fK s
 have hv:num ((aF s).take 6)=1:=hv
 unfold gI
 rw [if_neg (by omega),if_neg (by rw [hv];decide),if_pos (by omega)]
theorem Qm (h:59≤8*s.length) (hv:dw s 0 6=1) (hn:mo (aF s)=none):gI (aF s)=5:=by
 have hl:=fK s
 have hv:num ((aF s).take 6)=1:=hv
 unfold gI
 rw [if_neg (by omega),if_neg (by rw [hv];decide),if_neg (by omega),hn]
theorem qc (h:59≤8*s.length) (hv:dw s 0 6=1) {U:List Nat} (hn:mo (aF s)=some U):gI (aF s)=0:=by
 have hl:=fK s
 have hv:num ((aF s).take 6)=1:=hv
 unfold gI
 rw [if_neg (by omega),if_neg (by rw [hv];decide),if_neg (by omega),hn]
theorem Nn (h:59≤8*s.length) (h1:dw s 58 1≠1):mo (aF s)=if 8*s.length<59+dw s 52 6 then none else some (qD (dw s 52 6) ((aF s).drop 59)):=by
 have hl:=fK s
 have hd:((aF s).drop 58).length=8*s.length-58:=by rw [List.length_drop,hl]
 have h1:num (((aF s).drop 58).take 1)≠1:=h1
 unfold mo NN
 rw [if_neg h1,hd,List.drop_drop]
 show (if 8*s.length-58<1+dw s 52 6 then none else some (qD (dw s 52 6) ((aF s).drop 59)))=_
 by_cases h2:8*s.length<59+dw s 52 6
 ·rw [if_pos h2,if_pos (by omega)]
 ·rw [if_neg h2,if_neg (by omega)]
theorem MW (h:59≤8*s.length) (h1:dw s 58 1=1):mo (aF s)=if 8*s.length<65 then none else qC (dw s 59 6) ((aF s).drop 65):=by
 have hl:=fK s
 have hd:((aF s).drop 58).length=8*s.length-58:=by rw [List.length_drop,hl]
 have h1:num (((aF s).drop 58).take 1)=1:=h1
 unfold mo NN
 rw [if_pos h1,hd,List.drop_drop,List.drop_drop]
 show (if 8*s.length-58<7 then none else qC (dw s 59 6) ((aF s).drop 65))=_
 by_cases h2:8*s.length<65
 ·rw [if_pos h2,if_pos (by omega)]
 ·rw [if_neg h2,if_neg (by omega)]
abbrev rs:List ResultVar:=[.cell 2 TC]
abbrev stC (s:List UInt8) (pos:Nat) (g:Nat) (P:Nat→Bool) (U:List Nat) (tm:List (Nat × V)):S:=⟨[(0,.loc 0 0 0),(2,.loc 1 0 0)]++tm,[(0,some (ou TS s pos)),(1,some (cB g P 2 U.length)),(2,some (vB U))],3,72⟩
theorem yc (hs:s.length≤1048576) (hc:Tryz.f148.body=some c)
  (hret:∀ U s',gI (aF s)=0→mo (aF s)=some U→QL tb rs 1 (Ii (given (aF s)) (fe (aF s)) U) [none] .ret s'→Q .ret s')
  (h5:∀ s',gI (aF s)=5→Q (.panic (pI 5)) s') (h7:∀ s',gI (aF s)=7→Q (.panic (pI 7)) s') :
  AWp Tryz.prog ⟨b,1,pl,[]⟩ c Q ⟨[(0,.loc 0 0 0)],[(0,some (ou TS s 0))],1,72⟩:=by
 have hl:=fK s
 have hc2:_=c:=Option.some.inj (hc:some _=some c)
 subst hc2
 by_cases a6:8*s.length<6
 ·have p:=jU (T:=TS) (n:=0) (W:=6) (s:=s) hs (by omega) (by omega)
  have hcode:gI (aF s)=5:=by unfold gI;rw [if_pos (by omega)]
  repeat' (first|refine bW (id:=1) 1 ?_|(refine nI ?_;refine kH [0] (p _) ?_)|refine zW ?_|exact ai)
  exact h5 _ hcode
 have d1:=jS (T:=TS) (n:=0) (W:=6) (s:=s) hs (by omega) (by omega)
 have hlt1:=wz s 0 6
 by_cases a7:dw s 0 6=1
 ·have hsh:=fun h=>Mt (s:=s) h (by omega) a7
  rw [a7] at d1
  by_cases a42:8*s.length<42
  ·have p:=jU (T:=TS) (n:=6) (W:=36) (s:=s) hs (by omega) (by omega)
   have hcode:=hsh (by omega)
   repeat' (first|refine jT 1 11 TI 1 rfl rfl (by decide) rfl ?_|refine bW (id:=3) 1 ?_|(refine nI ?_;refine kH [0] (p _) ?_)|refine zV ?_|(refine isR ?_;refine x_m [0] [] (d1 _) ?_ (hst:=.cons (.same rfl) .nil))|refine zW ?_|exact ai)
   exact h5 _ hcode
  have d2:=jS (T:=TS) (n:=6) (W:=36) (s:=s) hs (by omega) (by omega)
  have hg:given (aF s)=dw s 6 36:=rfl
  rw [← hg] at d2
  generalize given (aF s)=g at *
  repeat' (first|refine jT 1 11 TI 1 rfl rfl (by decide) rfl ?_|refine zV ?_|(refine isR ?_;first|refine x_m [0] [] (d1 _) ?_ (hst:=.cons (.same rfl) .nil)|refine x_m [0] [] (d2 _) ?_ (hst:=.cons (.same rfl) .nil))|refine zW ?_|exact ai)
  refine fq (fun k:Nat=>stC s (42+k) g (upP (fe (aF s)) k) [] [(18,eZ k)]) (fun k=>k≤10∧42+k≤8*s.length) (fun k=>10-k) 0 ?_ ⟨Nat.zero_le _,by omega⟩ ?_
  ·exact (by exact x_len [0,1,2])
  rintro k ⟨hk,hk3⟩
  by_cases hk2:k<10
  ·by_cases am:8*s.length<42+k+1
   ·have p:=Ig (T:=TS) (n:=42+k) (s:=s) hs (by omega) (by omega)
    have hcode:=hsh (by omega)
    repeat' (first|refine bW (id:=7) 2 ?_|(refine nI ?_;refine kH [0] (p _) ?_)|refine zW ?_|exact ai)
    exact h5 _ hcode
   ·have d3:=AV (T:=TS) (n:=42+k) (s:=s) hs (by omega)
    have hp:decide (dw s (42+k) 1=1)=fe (aF s) k:=rfl
    have hput:=Xl (g:=g) (n:=2) (m:=([]:List Nat).length) (fe (aF s)) hk2
    rw [hp] at d3
    generalize hA:42+k=A at *
    repeat' (first|refine zV ?_|(refine isR ?_;first|refine x_m [0] [] (d3 _) ?_ (hst:=.cons (.same rfl) .nil)|refine adh (Xh g (upP (fe (aF s)) (k+1)) 2 ([]:List Nat).length) af ?_ hput)|refine zW ?_|exact ai)
    refine ⟨k+1,⟨by omega,by omega⟩,by omega,?_⟩
    rw [show 42+(k+1)=A+1 from by omega]
    exact (by exact x_len [0,1,2])
  ·obtain rfl:k=10:=by omega
   by_cases a58:8*s.length<58
   ·have p:=jU (T:=TS) (n:=52) (W:=6) (s:=s) hs (by omega) (by omega)
    have hcode:=hsh (by omega)
    repeat' (first|refine bW (id:=9) 1 ?_|(refine nI ?_;refine kH [0] (p _) ?_)|refine zW ?_|exact ai)
    exact h5 _ hcode
   have d4:=jS (T:=TS) (n:=52) (W:=6) (s:=s) hs (by omega) (by omega)
   have a59:¬ 8*s.length<59:=by omega
   have d5:=AV (T:=TS) (n:=58) (s:=s) hs (by omega)
   have hnone:=Qm (s:=s) (by omega) a7
   have hsome:=fun U=>qc (s:=s) (by omega) a7 (U:=U)
   have hlast:=wz s 52 6
   by_cases ar:dw s 58 1=1
   ·have hv:=MW (s:=s) (by omega) ar
    rw [decide_eq_true ar] at d5
    clear hsh d1 d2
    have hmany:=wz s 59 6
    by_cases a65:8*s.length<65
    ·rw [if_pos a65] at hv
     have p:=jU (T:=TS) (n:=59) (W:=6) (s:=s) hs (by omega) (by omega)
     have hcode:=hnone hv
     repeat' (first|refine bW (id:=17) 1 ?_|(refine nI ?_;refine kH [0] (p _) ?_)|refine zV ?_|(refine isR ?_;first|refine x_m [0] [] (d4 _) ?_ (hst:=.cons (.same rfl) .nil)|refine x_m [0] [] (d5 _) ?_ (hst:=.cons (.same rfl) .nil))|refine zW ?_|exact ai)
     exact h5 _ hcode
    rw [if_neg a65] at hv
    have d6:=jS (T:=TS) (n:=59) (W:=6) (s:=s) hs (by omega) (by omega)
    generalize hma:dw s 59 6=ma at *
    repeat' (first|refine zV ?_|(refine isR ?_;first|refine x_m [0] [] (d4 _) ?_ (hst:=.cons (.same rfl) .nil)|refine x_m [0] [] (d5 _) ?_ (hst:=.cons (.same rfl) .nil)|refine x_m [0] [] (d6 _) ?_ (hst:=.cons (.same rfl) .nil))|refine zW ?_|exact ai)
    refine fq (α:=Nat × Nat × List Nat) (fun x=>stC s x.2.1 g (fe (aF s)) x.2.2 [(47,eZ ma),(48,eZ x.1)]) (fun x=>x.1≤ma∧x.2.1≤8*s.length∧x.2.2.length≤64*x.1∧(qC (ma-x.1) ((aF s).drop x.2.1)).map (x.2.2 ++ ·)=mo (aF s)) (fun x=>ma-x.1) (0,65,[]) ?_ ⟨Nat.zero_le _,by dsimp only;omega,by simp,?_⟩ ?_
    ·exact (by exact x_len [0,1,2])
    ·rw [hv]
     dsimp only
     rw [Nat.sub_zero]
     cases qC ma ((aF s).drop 65)<;>rfl
    clear d4 d5 d6 hv
    rintro ⟨j,pos,acc⟩ ⟨hj,hpos,hacc,hrun⟩
    dsimp only at hj hpos hacc hrun ⊢
    by_cases hj2:j<ma
    ·obtain ⟨m,hm⟩:∃ m,ma-j=m+1:=⟨ma-j-1,by omega⟩
     rw [hm] at hrun
     obtain ⟨o1,o2,o3,o4⟩:=Va hrun hpos
     clear hrun
     by_cases b1:8*s.length<pos+1
     ·have p:=Ig (T:=TS) (n:=pos) (s:=s) hs (by omega) (by omega)
      have hcode:=hnone (o1 (by omega))
      repeat' (first|refine bW (id:=19) 1 ?_|(refine nI ?_;refine kH [0] (p _) ?_)|refine zW ?_|exact ai)
      exact h5 _ hcode
     have e1:=AV (T:=TS) (n:=pos) (s:=s) hs (by omega)
     by_cases b7:8*s.length<pos+7
     ·have p:=jU (T:=TS) (n:=pos+1) (W:=6) (s:=s) hs (by omega) (by omega)
      have hcode:=hnone (o1 (by omega))
      repeat' (first|refine bW (id:=20) 1 ?_|(refine nI ?_;refine kH [0] (p _) ?_)|refine zV ?_|(refine isR ?_;refine x_m [0] [] (e1 _) ?_ (hst:=.cons (.same rfl) .nil))|refine zW ?_|exact ai)
      exact h5 _ hcode
     have e2:=jS (T:=TS) (n:=pos+1) (W:=6) (s:=s) hs (by omega) (by omega)
     have hf:=wz s (pos+1) 6
     have hto:=wz s (pos+7) 6
     by_cases bm:dw s pos 1=1
     ·rw [decide_eq_true bm] at e1
      by_cases b13:8*s.length<pos+13
      ·have p:=jU (T:=TS) (n:=pos+1+6) (W:=6) (s:=s) hs (by omega) (by omega)
       have hcode:=hnone (o2 bm (by omega))
       repeat' (first|refine bW (id:=23) 1 ?_|(refine nI ?_;refine kH [0] (p _) ?_)|refine zV ?_|(refine isR ?_;first|refine x_m [0] [] (e1 _) ?_ (hst:=.cons (.same rfl) .nil)|refine x_m [0] [] (e2 _) ?_ (hst:=.cons (.same rfl) .nil))|refine zW ?_|exact ai)
       exact h5 _ hcode
      have e3:=jS (T:=TS) (n:=pos+1+6) (W:=6) (s:=s) hs (by omega) (by omega)
      have o3:=o3 bm (by omega)
      have hp7:pos+1+6=pos+7:=by omega
      have hp13:pos+7+6=pos+13:=by omega
      rw [hp7,hp13] at e3
      clear o1 o2 o4
      generalize dw s (pos+1) 6=fi at *
      generalize dw s (pos+7) 6=tw at *
      rw [hp7] at e2
      have hcnt:(nJ fi tw).length≤64:=Vu _ _ (by omega)
      repeat' (first|refine zV ?_|(refine isR ?_;first|refine x_m [0] [] (e1 _) ?_ (hst:=.cons (.same rfl) .nil)|refine x_m [0] [] (e2 _) ?_ (hst:=.cons (.same rfl) .nil)|refine x_m [0] [] (e3 _) ?_ (hst:=.cons (.same rfl) .nil))|refine zW ?_|exact ai)
      refine fq (fun i:Nat=>stC s (pos+13) g (fe (aF s)) (acc++List.range' fi i) [(47,eZ ma),(48,eZ j),(8,eZ tw),(9,.int .i64 ((fi:Int)+(i:Int)))]) (fun i=>i≤tw+1-fi) (fun i=>tw+1-fi-i) 0 ?_ (Nat.zero_le _) ?_
      ·rw [show acc++List.range' fi 0=acc from by simp]
       exact (by exact x_len [0,1,2])
      intro i hi
      by_cases hi2:i<tw+1-fi
      ·have hst:acc++List.range' fi (i+1)=(acc++List.range' fi i)++[fi+i]:=by rw [List.range'_concat,List.append_assoc];simp
       have hvv:eZ (fi+i) = .int .i64 ((fi:Int)+(i:Int)):=rfl
       have hal:(acc++List.range' fi i).length≤5000:=by rw [List.length_append,List.length_range'];omega
       have hi1:((fi:Int)+((i+1:Nat):Int))=(fi:Int)+(i:Int)+1:=by omega
       generalize hE:acc++List.range' fi (i+1)=E1 at *
       generalize acc++List.range' fi i=E at *
       subst hst
       repeat' (first|refine zV ?_|(refine isR ?_;refine kr eZ (a1:=(fi+i)) af ?_)|refine zW ?_|exact ai)
       refine ⟨i+1,by omega,by omega,?_⟩
       rw [hE,hi1]
       exact (by exact x_len [0,1,3])
      ·obtain rfl:i=tw+1-fi:=by omega
       rw [show List.range' fi (tw+1-fi)=nJ fi tw from rfl]
       have hal:(acc++nJ fi tw).length≤64*(j+1):=by rw [List.length_append];omega
       have hni:¬ (fi:Int)+((tw+1-fi:Nat):Int)≤(tw:Int):=by omega
       rw [show m=ma-(j+1) from by omega] at o3
       generalize acc++nJ fi tw=E at *
       repeat' (first|refine zW ?_|exact ai)
       refine ⟨(j+1,pos+13,E),⟨by dsimp only;omega,by dsimp only;omega,hal,o3⟩,by dsimp only;omega,?_⟩
       exact (by exact x_len [0,1,2])
     ·rw [decide_eq_false bm] at e1
      have o4:=o4 bm (by omega)
      have hp7:pos+1+6=pos+7:=by omega
      clear o1 o2 o3
      generalize dw s (pos+1) 6=fi at *
      rw [hp7] at e2
      repeat' (first|refine zV ?_|(refine isR ?_;first|refine x_m [0] [] (e1 _) ?_ (hst:=.cons (.same rfl) .nil)|refine x_m [0] [] (e2 _) ?_ (hst:=.cons (.same rfl) .nil))|refine zW ?_|exact ai)
      refine fq (fun i:Nat=>stC s (pos+7) g (fe (aF s)) (acc++List.range' fi i) [(47,eZ ma),(48,eZ j),(8,eZ fi),(9,.int .i64 ((fi:Int)+(i:Int)))]) (fun i=>i≤1) (fun i=>1-i) 0 ?_ (Nat.zero_le _) ?_
      ·rw [show acc++List.range' fi 0=acc from by simp]
       exact (by exact x_len [0,1,2])
      intro i hi
      by_cases hi2:i<1
      ·have hst:acc++List.range' fi (i+1)=(acc++List.range' fi i)++[fi+i]:=by rw [List.range'_concat,List.append_assoc];simp
       have hvv:eZ (fi+i) = .int .i64 ((fi:Int)+(i:Int)):=rfl
       have hal:(acc++List.range' fi i).length≤5000:=by rw [List.length_append,List.length_range'];omega
       have hi1:((fi:Int)+((i+1:Nat):Int))=(fi:Int)+(i:Int)+1:=by omega
       generalize hE:acc++List.range' fi (i+1)=E1 at *
       generalize acc++List.range' fi i=E at *
       subst hst
       repeat' (first|refine zV ?_|(refine isR ?_;refine kr eZ (a1:=(fi+i)) af ?_)|refine zW ?_|exact ai)
       refine ⟨i+1,by omega,by omega,?_⟩
       rw [hE,hi1]
       exact (by exact x_len [0,1,3])
      ·obtain rfl:i=1:=by omega
       have hspan:List.range' fi 1=nJ fi fi:=by unfold nJ;rw [show fi+1-fi=1 from by omega]
       rw [hspan]
       have hal:(acc++nJ fi fi).length≤64*(j+1):=by rw [List.length_append,← hspan];simp;omega
       have hni:¬ (fi:Int)+((1:Nat):Int)≤(fi:Int):=by omega
       rw [show m=ma-(j+1) from by omega] at o4
       generalize acc++nJ fi fi=E at *
       repeat' (first|refine zW ?_|exact ai)
       refine ⟨(j+1,pos+7,E),⟨by dsimp only;omega,by dsimp only;omega,hal,o4⟩,by dsimp only;omega,?_⟩
       exact (by exact x_len [0,1,2])
    ·obtain rfl:j=ma:=by omega
     have hV:mo (aF s)=some acc:=by
      rw [← hrun,Nat.sub_self]
      simp [qC]
     have hcode:=hsome _ hV
     refine sU 1 11 2 rfl (fun _=>rfl) ?_
     repeat' (first|refine hret acc _ hcode hV ?_|refine zW ?_|refine aA [0] ?_ ?_|exact ai)
     ·rfl
     ·exact .no .nil
   ·have hv:=Nn (s:=s) (by omega) ar
    rw [decide_eq_false ar] at d5
    clear hsh d1 d2
    generalize hla:dw s 52 6=la at *
    repeat' (first|refine zV ?_|(refine isR ?_;first|refine x_m [0] [] (d4 _) ?_ (hst:=.cons (.same rfl) .nil)|refine x_m [0] [] (d5 _) ?_ (hst:=.cons (.same rfl) .nil))|refine zW ?_|exact ai)
    refine fq (fun i:Nat=>stC s (59+i) g (fe (aF s)) (qD i ((aF s).drop 59)) [(4,eZ la),(5,.int .i64 ((i:Int)+1))]) (fun i=>i≤la∧59+i≤8*s.length) (fun i=>la-i) 0 ?_ ⟨Nat.zero_le _,by omega⟩ ?_
    ·exact (by exact x_len [0,1,2])
    rintro i ⟨hi,hi3⟩
    have hel:=PV i ((aF s).drop 59)
    by_cases hi2:i<la
    ·by_cases am:8*s.length<59+i+1
     ·have p:=Ig (T:=TS) (n:=59+i) (s:=s) hs (by omega) (by omega)
      rw [if_pos (by omega)] at hv
      have hcode:=hnone hv
      repeat' (first|refine bW (id:=14) 1 ?_|(refine nI ?_;refine kH [0] (p _) ?_)|refine zW ?_|exact ai)
      exact h5 _ hcode
     ·have d6:=AV (T:=TS) (n:=59+i) (s:=s) hs (by omega)
      have hbit:dw s (59+i) 1=((aF s).drop 59).getD i 0:=by
       rw [← YI (by rw [List.length_drop,hl];omega),List.drop_drop]
      have hst:=LB i ((aF s).drop 59)
      rw [← hbit] at hst
      have hA:59+(i+1)=59+i+1:=by omega
      have hi1:(((i+1:Nat):Int)+1)=(i:Int)+1+1:=by omega
      generalize hE:qD (i+1) ((aF s).drop 59)=E1 at *
      generalize qD i ((aF s).drop 59)=E at *
      generalize 59+i=A at *
      by_cases ab:dw s A 1=1
      ·rw [decide_eq_true ab] at d6
       rw [if_pos ab] at hst
       subst hst
       repeat' (first|refine zV ?_|(refine isR ?_;first|refine x_m [0] [] (d6 _) ?_ (hst:=.cons (.same rfl) .nil)|refine kr eZ (a1:=(i+1)) af ?_)|refine zW ?_|exact ai)
       refine ⟨i+1,⟨by omega,by omega⟩,by omega,?_⟩
       rw [hA,hE,hi1]
       exact (by exact x_len [0,1,3])
      ·rw [decide_eq_false ab] at d6
       rw [if_neg ab,List.append_nil] at hst
       subst hst
       repeat' (first|refine zV ?_|(refine isR ?_;refine x_m [0] [] (d6 _) ?_ (hst:=.cons (.same rfl) .nil))|refine zW ?_|exact ai)
       refine ⟨i+1,⟨by omega,by omega⟩,by omega,?_⟩
       rw [hA,hE,hi1]
       exact (by exact x_len [0,1,2])
    ·obtain rfl:i=la:=by omega
     rw [if_neg (by omega)] at hv
     have hcode:=hsome _ hv
     generalize qD i ((aF s).drop 59)=E at *
     refine sU 1 11 2 rfl (fun _=>rfl) ?_
     repeat' (first|refine hret E _ hcode hv ?_|refine zW ?_|refine aA [0] ?_ ?_|exact ai)
     ·rfl
     ·exact .no .nil
 ·have hcode:gI (aF s)=7:=by
   unfold gI
   rw [if_neg (by omega),if_pos (show num ((aF s).take 6)≠1 from a7)]
  have a7':(dw s 0 6:Int)≠1:=by omega
  generalize dw s 0 6=z at *
  repeat' (first|refine bW (id:=2) 2 ?_|(refine nI ?_;refine Pd ?_)|refine zV ?_|(refine isR ?_;refine x_m [0] [] (d1 _) ?_ (hst:=.cons (.same rfl) .nil))|refine zW ?_|exact ai)
  exact h7 _ hcode
end
end aar
end Go.Proofs.YtlfdjpgghiemfaaGreatDoor
