/- Texts of the proof, joined: ConV. -/
import Derived.Test.YtlfdjpgghiemfaaGreatDoorG14
import Derived.Test.YtlfdjpgghiemfaaGreatDoorG34
import Derived.Test.YtlfdjpgghiemfaaGreatDoorG19
set_option maxHeartbeats 4000000
set_option maxRecDepth 100000
section
namespace Go.Proofs.YtlfdjpgghiemfaaGreatDoor.ConV
open Go.RowKit Mem Abs BitsP BitsS BitsT ConP ConQ ConC ConA ConS ConG ConR
abbrev TI:Nat:=3
abbrev TS:Nat:=198
abbrev TC:Nat:=33
abbrev conO (g:Nat) (P:Nat→Bool) (n m:Nat):Abs.V:=.agg [natV g,.bool (P 0),.bool (P 1),.bool (P 2),.bool (P 3),.bool (P 4),.bool (P 5),.bool (P 6),.bool (P 7),.bool (P 8),.bool (P 9),.own n 0 m]
abbrev cB (g:Nat) (P:Nat→Bool) (n m:Nat):Blk:=.els TC 12 [conO g P n m]
abbrev vB (U:List Nat):Blk:=.els TI 1 (U.map natV)
def upP (P:Nat→Bool) (k i:Nat):Bool:=decide (i<k)&&P i
theorem put_pur {g n m:Nat} (P:Nat→Bool) {k:Nat} (h:k<10):putV (conO g (upP P k) n m) (0+1+((k:Nat):Int).toNat*1) (.bool (P k))=some (conO g (upP P (k+1)) n m):=by
 have:k=0∨k=1∨k=2∨k=3∨k=4∨k=5∨k=6∨k=7∨k=8∨k=9:=by omega
 rcases this with rfl|rfl|rfl|rfl|rfl|rfl|rfl|rfl|rfl|rfl<;>rfl
theorem one_bit {l:List Nat} {i:Nat} (h:i<l.length):num ((l.drop i).take 1)=l.getD i 0:=by
 rw [List.drop_eq_getElem_cons h,List.getD_eq_getElem?_getD,List.getElem?_eq_getElem h,List.take_succ_cons,List.take_zero]
 show 2*0+l[i]=l[i]
 omega
theorem bits_lt (s:List UInt8) (n W:Nat):bitsN s n W<2^W :=
 Nat.lt_of_lt_of_le (num_lt (fun b hb=>tbits_bin s b (List.mem_of_mem_drop (List.mem_of_mem_take hb)))) (Nat.pow_le_pow_right (by omega) (List.length_take_le _ _))
section
variable {s:List UInt8} {b:Bg} {pl:Nat→Pl} {c:Code} {Q:Exit→S→Prop}
theorem runs_out {m pos:Nat} {acc:List Nat} {V:Option (List Nat)} (h:(runsP (m+1) ((tbits s).drop pos)).map (acc ++ ·)=V) (hp:pos≤8*s.length) :
  (8*s.length<pos+7→V=none) ∧
  (bitsN s pos 1=1→8*s.length<pos+13→V=none) ∧
  (bitsN s pos 1=1→pos+13≤8*s.length→(runsP m ((tbits s).drop (pos+13))).map ((acc++spanV (bitsN s (pos+1) 6) (bitsN s (pos+7) 6)) ++ ·)=V) ∧
  (bitsN s pos 1≠1→pos+7≤8*s.length→(runsP m ((tbits s).drop (pos+7))).map ((acc++spanV (bitsN s (pos+1) 6) (bitsN s (pos+1) 6)) ++ ·)=V):=by
 have hl:=tbits_len s
 have hd:((tbits s).drop pos).length=8*s.length-pos:=by rw [List.length_drop,hl]
 rw [runsP,hd,List.drop_drop,List.drop_drop,List.drop_drop] at h
 have hm:∀ (o:Option (List Nat)) (x:List Nat),(o.map (x ++ ·)).map (acc ++ ·)=o.map ((acc++x) ++ ·):=fun o x=>by
  cases o with
  | none=>rfl
  | some y=>simp
 refine ⟨fun h1=>?_,fun h1 h2=>?_,fun h1 h2=>?_,fun h1 h2=>?_⟩
 ·rw [if_pos (by omega)] at h
  exact h.symm
 ·by_cases h3:8*s.length<pos+7
  ·rw [if_pos (by omega)] at h
   exact h.symm
  ·rw [if_neg (by omega),if_pos h1,if_pos (by omega)] at h
   exact h.symm
 ·rw [if_neg (by omega),if_pos h1,if_neg (by omega),hm] at h
  exact h
 ·rw [if_neg (by omega),if_neg h1,hm] at h
  exact h
theorem span_len (a c:Nat) (h:c<64):(spanV a c).length≤64:=by simp [spanV];omega
theorem code_short (h:8*s.length<59) (h6:6≤8*s.length) (hv:bitsN s 0 6=1):codeP (tbits s)=5:=by
 have hl:=tbits_len s
 have hv:num ((tbits s).take 6)=1:=hv
 unfold codeP
 rw [if_neg (by omega),if_neg (by rw [hv];decide),if_pos (by omega)]
theorem code_vend (h:59≤8*s.length) (hv:bitsN s 0 6=1) (hn:vends (tbits s)=none):codeP (tbits s)=5:=by
 have hl:=tbits_len s
 have hv:num ((tbits s).take 6)=1:=hv
 unfold codeP
 rw [if_neg (by omega),if_neg (by rw [hv];decide),if_neg (by omega),hn]
theorem code_ok (h:59≤8*s.length) (hv:bitsN s 0 6=1) {U:List Nat} (hn:vends (tbits s)=some U):codeP (tbits s)=0:=by
 have hl:=tbits_len s
 have hv:num ((tbits s).take 6)=1:=hv
 unfold codeP
 rw [if_neg (by omega),if_neg (by rw [hv];decide),if_neg (by omega),hn]
theorem vends_each (h:59≤8*s.length) (h1:bitsN s 58 1≠1):vends (tbits s)=if 8*s.length<59+bitsN s 52 6 then none else some (eachP (bitsN s 52 6) ((tbits s).drop 59)):=by
 have hl:=tbits_len s
 have hd:((tbits s).drop 58).length=8*s.length-58:=by rw [List.length_drop,hl]
 have h1:num (((tbits s).drop 58).take 1)≠1:=h1
 unfold vends vendsP
 rw [if_neg h1,hd,List.drop_drop]
 show (if 8*s.length-58<1+bitsN s 52 6 then none else some (eachP (bitsN s 52 6) ((tbits s).drop 59)))=_
 by_cases h2:8*s.length<59+bitsN s 52 6
 ·rw [if_pos h2,if_pos (by omega)]
 ·rw [if_neg h2,if_neg (by omega)]
theorem vends_runs (h:59≤8*s.length) (h1:bitsN s 58 1=1):vends (tbits s)=if 8*s.length<65 then none else runsP (bitsN s 59 6) ((tbits s).drop 65):=by
 have hl:=tbits_len s
 have hd:((tbits s).drop 58).length=8*s.length-58:=by rw [List.length_drop,hl]
 have h1:num (((tbits s).drop 58).take 1)=1:=h1
 unfold vends vendsP
 rw [if_pos h1,hd,List.drop_drop,List.drop_drop]
 show (if 8*s.length-58<7 then none else runsP (bitsN s 59 6) ((tbits s).drop 65))=_
 by_cases h2:8*s.length<65
 ·rw [if_pos h2,if_pos (by omega)]
 ·rw [if_neg h2,if_neg (by omega)]
abbrev rs:List ResultVar:=[.cell 2 TC]
abbrev stC (s:List UInt8) (pos:Nat) (g:Nat) (P:Nat→Bool) (U:List Nat) (tm:List (Nat × V)):S:=⟨[(0,.loc 0 0 0),(2,.loc 1 0 0)]++tm,[(0,some (srcB TS s pos)),(1,some (cB g P 2 U.length)),(2,some (vB U))],3,72⟩
theorem consent_core (hs:s.length≤1048576) (hc:Tryz.f148.body=some c)
  (hret:∀ U s',codeP (tbits s)=0→vends (tbits s)=some U→MEnd tb rs 1 (conN (given (tbits s)) (purp (tbits s)) U) [none] .ret s'→Q .ret s')
  (h5:∀ s',codeP (tbits s)=5→Q (.panic (gaveUp 5)) s') (h7:∀ s',codeP (tbits s)=7→Q (.panic (gaveUp 7)) s') :
  AWp Tryz.prog ⟨b,1,pl,[]⟩ c Q ⟨[(0,.loc 0 0 0)],[(0,some (srcB TS s 0))],1,72⟩:=by
 have hl:=tbits_len s
 have hc2:_=c:=Option.some.inj (hc:some _=some c)
 subst hc2
 by_cases a6:8*s.length<6
 ·have p:=rnumber_p (T:=TS) (n:=0) (W:=6) (s:=s) hs (by omega) (by omega)
  have hcode:codeP (tbits s)=5:=by unfold codeP;rw [if_pos (by omega)]
  repeat' (first|refine awp_regionP (id:=1) 1 ?_|(refine r_end ?_;refine p_call [0] (p _) ?_)|refine zt ?_|(refine isR ?_;first|refine zo ?_|refine x_bs tb_ok ?_|refine zA ?_|refine zc1 ?_|refine zc2 ?_|refine zc6 ?_|refine zI ?_)|exact x_le)
  exact h5 _ hcode
 have d1:=rnumber_v (T:=TS) (n:=0) (W:=6) (s:=s) hs (by omega) (by omega)
 have hlt1:=bits_lt s 0 6
 by_cases a7:bitsN s 0 6=1
 ·have hsh:=fun h=>code_short (s:=s) h (by omega) a7
  rw [a7] at d1
  by_cases a42:8*s.length<42
  ·have p:=rnumber_p (T:=TS) (n:=6) (W:=36) (s:=s) hs (by omega) (by omega)
   have hcode:=hsh (by omega)
   repeat' (first|refine awp_nameR 1 11 TI 1 rfl rfl (by decide) rfl ?_|refine awp_regionP (id:=3) 1 ?_|(refine r_end ?_;refine p_call [0] (p _) ?_)|refine zt ?_|(refine isR ?_;first|refine zo ?_|refine x_m [0] [] (d1 _) ?_ (hst:=.cons (.same rfl) .nil)|refine x_bs tb_ok ?_|refine zA ?_|refine zc1 ?_|refine zc2 ?_|refine zc6 ?_|refine zI ?_)|exact x_le)
   exact h5 _ hcode
  have d2:=rnumber_v (T:=TS) (n:=6) (W:=36) (s:=s) hs (by omega) (by omega)
  have hg:given (tbits s)=bitsN s 6 36:=rfl
  rw [← hg] at d2
  generalize given (tbits s)=g at *
  repeat' (first|refine awp_nameR 1 11 TI 1 rfl rfl (by decide) rfl ?_|refine zt ?_|(refine isR ?_;first|refine zo ?_|refine x_m [0] [] (d1 _) ?_ (hst:=.cons (.same rfl) .nil)|refine x_m [0] [] (d2 _) ?_ (hst:=.cons (.same rfl) .nil)|refine x_bs tb_ok ?_|refine zA ?_|refine zc1 ?_|refine zc2 ?_|refine zc6 ?_|refine zI ?_)|exact x_le)
  refine awp_whileM (fun k:Nat=>stC s (42+k) g (upP (purp (tbits s)) k) [] [(18,natV k)]) (fun k=>k≤10∧42+k≤8*s.length) (fun k=>10-k) 0 ?_ ⟨Nat.zero_le _,by omega⟩ ?_
  ·exact (by exact x_len [0,1,2])
  rintro k ⟨hk,hk3⟩
  by_cases hk2:k<10
  ·by_cases am:8*s.length<42+k+1
   ·have p:=rmark_p (T:=TS) (n:=42+k) (s:=s) hs (by omega) (by omega)
    have hcode:=hsh (by omega)
    repeat' (first|refine awp_regionP (id:=7) 2 ?_|(refine r_end ?_;refine p_call [0] (p _) ?_)|refine zt ?_|(refine isR ?_;first|refine zo ?_|refine x_bs tb_ok ?_|refine zA ?_|refine zc1 ?_|refine zc2 ?_|refine zc6 ?_|refine zI ?_)|exact x_le)
    exact h5 _ hcode
   ·have d3:=rmark_v (T:=TS) (n:=42+k) (s:=s) hs (by omega)
    have hp:decide (bitsN s (42+k) 1=1)=purp (tbits s) k:=rfl
    have hput:=put_pur (g:=g) (n:=2) (m:=([]:List Nat).length) (purp (tbits s)) hk2
    rw [hp] at d3
    generalize hA:42+k=A at *
    repeat' (first|refine zt ?_|(refine isR ?_;first|refine zo ?_|refine x_m [0] [] (d3 _) ?_ (hst:=.cons (.same rfl) .nil)|refine x_stS (conO g (upP (purp (tbits s)) (k+1)) 2 ([]:List Nat).length) tb_ok ?_ hput|refine x_bs tb_ok ?_|refine zA ?_|refine zc1 ?_|refine zc2 ?_|refine zc6 ?_|refine zI ?_)|exact x_le)
    refine ⟨k+1,⟨by omega,by omega⟩,by omega,?_⟩
    rw [show 42+(k+1)=A+1 from by omega]
    exact (by exact x_len [0,1,2])
  ·obtain rfl:k=10:=by omega
   by_cases a58:8*s.length<58
   ·have p:=rnumber_p (T:=TS) (n:=52) (W:=6) (s:=s) hs (by omega) (by omega)
    have hcode:=hsh (by omega)
    repeat' (first|refine awp_regionP (id:=9) 1 ?_|(refine r_end ?_;refine p_call [0] (p _) ?_)|refine zt ?_|(refine isR ?_;first|refine zo ?_|refine x_bs tb_ok ?_|refine zA ?_|refine zc1 ?_|refine zc2 ?_|refine zc6 ?_|refine zI ?_)|exact x_le)
    exact h5 _ hcode
   have d4:=rnumber_v (T:=TS) (n:=52) (W:=6) (s:=s) hs (by omega) (by omega)
   have a59:¬ 8*s.length<59:=by omega
   have d5:=rmark_v (T:=TS) (n:=58) (s:=s) hs (by omega)
   have hnone:=code_vend (s:=s) (by omega) a7
   have hsome:=fun U=>code_ok (s:=s) (by omega) a7 (U:=U)
   have hlast:=bits_lt s 52 6
   by_cases ar:bitsN s 58 1=1
   ·have hv:=vends_runs (s:=s) (by omega) ar
    rw [decide_eq_true ar] at d5
    clear hsh d1 d2
    have hmany:=bits_lt s 59 6
    by_cases a65:8*s.length<65
    ·rw [if_pos a65] at hv
     have p:=rnumber_p (T:=TS) (n:=59) (W:=6) (s:=s) hs (by omega) (by omega)
     have hcode:=hnone hv
     repeat' (first|refine awp_regionP (id:=17) 1 ?_|(refine r_end ?_;refine p_call [0] (p _) ?_)|refine zt ?_|(refine isR ?_;first|refine zo ?_|refine x_m [0] [] (d4 _) ?_ (hst:=.cons (.same rfl) .nil)|refine x_m [0] [] (d5 _) ?_ (hst:=.cons (.same rfl) .nil)|refine x_bs tb_ok ?_|refine zA ?_|refine zc1 ?_|refine zc2 ?_|refine zc6 ?_|refine zI ?_)|exact x_le)
     exact h5 _ hcode
    rw [if_neg a65] at hv
    have d6:=rnumber_v (T:=TS) (n:=59) (W:=6) (s:=s) hs (by omega) (by omega)
    generalize hma:bitsN s 59 6=ma at *
    repeat' (first|refine zt ?_|(refine isR ?_;first|refine zo ?_|refine x_m [0] [] (d4 _) ?_ (hst:=.cons (.same rfl) .nil)|refine x_m [0] [] (d5 _) ?_ (hst:=.cons (.same rfl) .nil)|refine x_m [0] [] (d6 _) ?_ (hst:=.cons (.same rfl) .nil)|refine x_bs tb_ok ?_|refine zA ?_|refine zc1 ?_|refine zc2 ?_|refine zc6 ?_|refine zI ?_)|exact x_le)
    refine awp_whileM (α:=Nat × Nat × List Nat) (fun x=>stC s x.2.1 g (purp (tbits s)) x.2.2 [(47,natV ma),(48,natV x.1)]) (fun x=>x.1≤ma∧x.2.1≤8*s.length∧x.2.2.length≤64*x.1∧(runsP (ma-x.1) ((tbits s).drop x.2.1)).map (x.2.2 ++ ·)=vends (tbits s)) (fun x=>ma-x.1) (0,65,[]) ?_ ⟨Nat.zero_le _,by dsimp only;omega,by simp,?_⟩ ?_
    ·exact (by exact x_len [0,1,2])
    ·rw [hv]
     dsimp only
     rw [Nat.sub_zero]
     cases runsP ma ((tbits s).drop 65)<;>rfl
    clear d4 d5 d6 hv
    rintro ⟨j,pos,acc⟩ ⟨hj,hpos,hacc,hrun⟩
    dsimp only at hj hpos hacc hrun ⊢
    by_cases hj2:j<ma
    ·obtain ⟨m,hm⟩:∃ m,ma-j=m+1:=⟨ma-j-1,by omega⟩
     rw [hm] at hrun
     obtain ⟨o1,o2,o3,o4⟩:=runs_out hrun hpos
     clear hrun
     by_cases b1:8*s.length<pos+1
     ·have p:=rmark_p (T:=TS) (n:=pos) (s:=s) hs (by omega) (by omega)
      have hcode:=hnone (o1 (by omega))
      repeat' (first|refine awp_regionP (id:=19) 1 ?_|(refine r_end ?_;refine p_call [0] (p _) ?_)|refine zt ?_|(refine isR ?_;first|refine zo ?_|refine x_bs tb_ok ?_|refine zA ?_|refine zc1 ?_|refine zc2 ?_|refine zc6 ?_|refine zI ?_)|exact x_le)
      exact h5 _ hcode
     have e1:=rmark_v (T:=TS) (n:=pos) (s:=s) hs (by omega)
     by_cases b7:8*s.length<pos+7
     ·have p:=rnumber_p (T:=TS) (n:=pos+1) (W:=6) (s:=s) hs (by omega) (by omega)
      have hcode:=hnone (o1 (by omega))
      repeat' (first|refine awp_regionP (id:=20) 1 ?_|(refine r_end ?_;refine p_call [0] (p _) ?_)|refine zt ?_|(refine isR ?_;first|refine zo ?_|refine x_m [0] [] (e1 _) ?_ (hst:=.cons (.same rfl) .nil)|refine x_bs tb_ok ?_|refine zA ?_|refine zc1 ?_|refine zc2 ?_|refine zc6 ?_|refine zI ?_)|exact x_le)
      exact h5 _ hcode
     have e2:=rnumber_v (T:=TS) (n:=pos+1) (W:=6) (s:=s) hs (by omega) (by omega)
     have hf:=bits_lt s (pos+1) 6
     have hto:=bits_lt s (pos+7) 6
     by_cases bm:bitsN s pos 1=1
     ·rw [decide_eq_true bm] at e1
      by_cases b13:8*s.length<pos+13
      ·have p:=rnumber_p (T:=TS) (n:=pos+1+6) (W:=6) (s:=s) hs (by omega) (by omega)
       have hcode:=hnone (o2 bm (by omega))
       repeat' (first|refine awp_regionP (id:=23) 1 ?_|(refine r_end ?_;refine p_call [0] (p _) ?_)|refine zt ?_|(refine isR ?_;first|refine zo ?_|refine x_m [0] [] (e1 _) ?_ (hst:=.cons (.same rfl) .nil)|refine x_m [0] [] (e2 _) ?_ (hst:=.cons (.same rfl) .nil)|refine x_bs tb_ok ?_|refine zA ?_|refine zc1 ?_|refine zc2 ?_|refine zc6 ?_|refine zI ?_)|exact x_le)
       exact h5 _ hcode
      have e3:=rnumber_v (T:=TS) (n:=pos+1+6) (W:=6) (s:=s) hs (by omega) (by omega)
      have o3:=o3 bm (by omega)
      have hp7:pos+1+6=pos+7:=by omega
      have hp13:pos+7+6=pos+13:=by omega
      rw [hp7,hp13] at e3
      clear o1 o2 o4
      generalize bitsN s (pos+1) 6=fi at *
      generalize bitsN s (pos+7) 6=tw at *
      rw [hp7] at e2
      have hcnt:(spanV fi tw).length≤64:=span_len _ _ (by omega)
      repeat' (first|refine zt ?_|(refine isR ?_;first|refine zo ?_|refine x_m [0] [] (e1 _) ?_ (hst:=.cons (.same rfl) .nil)|refine x_m [0] [] (e2 _) ?_ (hst:=.cons (.same rfl) .nil)|refine x_m [0] [] (e3 _) ?_ (hst:=.cons (.same rfl) .nil)|refine x_bs tb_ok ?_|refine zA ?_|refine zc1 ?_|refine zc2 ?_|refine zc6 ?_|refine zI ?_)|exact x_le)
      refine awp_whileM (fun i:Nat=>stC s (pos+13) g (purp (tbits s)) (acc++List.range' fi i) [(47,natV ma),(48,natV j),(8,natV tw),(9,.int .i64 ((fi:Int)+(i:Int)))]) (fun i=>i≤tw+1-fi) (fun i=>tw+1-fi-i) 0 ?_ (Nat.zero_le _) ?_
      ·rw [show acc++List.range' fi 0=acc from by simp]
       exact (by exact x_len [0,1,2])
      intro i hi
      by_cases hi2:i<tw+1-fi
      ·have hst:acc++List.range' fi (i+1)=(acc++List.range' fi i)++[fi+i]:=by rw [List.range'_concat,List.append_assoc];simp
       have hvv:natV (fi+i) = .int .i64 ((fi:Int)+(i:Int)):=rfl
       have hal:(acc++List.range' fi i).length≤5000:=by rw [List.length_append,List.length_range'];omega
       have hi1:((fi:Int)+((i+1:Nat):Int))=(fi:Int)+(i:Int)+1:=by omega
       generalize hE:acc++List.range' fi (i+1)=E1 at *
       generalize acc++List.range' fi i=E at *
       subst hst
       repeat' (first|refine zt ?_|(refine isR ?_;first|refine zo ?_|refine x_app natV (a1:=(fi+i)) tb_ok ?_|refine x_bs tb_ok ?_|refine zA ?_|refine zc1 ?_|refine zc2 ?_|refine zc6 ?_|refine zI ?_)|exact x_le)
       refine ⟨i+1,by omega,by omega,?_⟩
       rw [hE,hi1]
       exact (by exact x_len [0,1,3])
      ·obtain rfl:i=tw+1-fi:=by omega
       rw [show List.range' fi (tw+1-fi)=spanV fi tw from rfl]
       have hal:(acc++spanV fi tw).length≤64*(j+1):=by rw [List.length_append];omega
       have hni:¬ (fi:Int)+((tw+1-fi:Nat):Int)≤(tw:Int):=by omega
       rw [show m=ma-(j+1) from by omega] at o3
       generalize acc++spanV fi tw=E at *
       repeat' (first|refine zt ?_|(refine isR ?_;first|refine zo ?_|refine x_bs tb_ok ?_|refine zA ?_|refine zc1 ?_|refine zc2 ?_|refine zc6 ?_|refine zI ?_)|exact x_le)
       refine ⟨(j+1,pos+13,E),⟨by dsimp only;omega,by dsimp only;omega,hal,o3⟩,by dsimp only;omega,?_⟩
       exact (by exact x_len [0,1,2])
     ·rw [decide_eq_false bm] at e1
      have o4:=o4 bm (by omega)
      have hp7:pos+1+6=pos+7:=by omega
      clear o1 o2 o3
      generalize bitsN s (pos+1) 6=fi at *
      rw [hp7] at e2
      repeat' (first|refine zt ?_|(refine isR ?_;first|refine zo ?_|refine x_m [0] [] (e1 _) ?_ (hst:=.cons (.same rfl) .nil)|refine x_m [0] [] (e2 _) ?_ (hst:=.cons (.same rfl) .nil)|refine x_bs tb_ok ?_|refine zA ?_|refine zc1 ?_|refine zc2 ?_|refine zc6 ?_|refine zI ?_)|exact x_le)
      refine awp_whileM (fun i:Nat=>stC s (pos+7) g (purp (tbits s)) (acc++List.range' fi i) [(47,natV ma),(48,natV j),(8,natV fi),(9,.int .i64 ((fi:Int)+(i:Int)))]) (fun i=>i≤1) (fun i=>1-i) 0 ?_ (Nat.zero_le _) ?_
      ·rw [show acc++List.range' fi 0=acc from by simp]
       exact (by exact x_len [0,1,2])
      intro i hi
      by_cases hi2:i<1
      ·have hst:acc++List.range' fi (i+1)=(acc++List.range' fi i)++[fi+i]:=by rw [List.range'_concat,List.append_assoc];simp
       have hvv:natV (fi+i) = .int .i64 ((fi:Int)+(i:Int)):=rfl
       have hal:(acc++List.range' fi i).length≤5000:=by rw [List.length_append,List.length_range'];omega
       have hi1:((fi:Int)+((i+1:Nat):Int))=(fi:Int)+(i:Int)+1:=by omega
       generalize hE:acc++List.range' fi (i+1)=E1 at *
       generalize acc++List.range' fi i=E at *
       subst hst
       repeat' (first|refine zt ?_|(refine isR ?_;first|refine zo ?_|refine x_app natV (a1:=(fi+i)) tb_ok ?_|refine x_bs tb_ok ?_|refine zA ?_|refine zc1 ?_|refine zc2 ?_|refine zc6 ?_|refine zI ?_)|exact x_le)
       refine ⟨i+1,by omega,by omega,?_⟩
       rw [hE,hi1]
       exact (by exact x_len [0,1,3])
      ·obtain rfl:i=1:=by omega
       have hspan:List.range' fi 1=spanV fi fi:=by unfold spanV;rw [show fi+1-fi=1 from by omega]
       rw [hspan]
       have hal:(acc++spanV fi fi).length≤64*(j+1):=by rw [List.length_append,← hspan];simp;omega
       have hni:¬ (fi:Int)+((1:Nat):Int)≤(fi:Int):=by omega
       rw [show m=ma-(j+1) from by omega] at o4
       generalize acc++spanV fi fi=E at *
       repeat' (first|refine zt ?_|(refine isR ?_;first|refine zo ?_|refine x_bs tb_ok ?_|refine zA ?_|refine zc1 ?_|refine zc2 ?_|refine zc6 ?_|refine zI ?_)|exact x_le)
       refine ⟨(j+1,pos+7,E),⟨by dsimp only;omega,by dsimp only;omega,hal,o4⟩,by dsimp only;omega,?_⟩
       exact (by exact x_len [0,1,2])
    ·obtain rfl:j=ma:=by omega
     have hV:vends (tbits s)=some acc:=by
      rw [← hrun,Nat.sub_self]
      simp [runsP]
     have hcode:=hsome _ hV
     refine awp_freezeR 1 11 2 rfl (fun _=>rfl) ?_
     repeat' (first|refine hret acc _ hcode hV ?_|refine zt ?_|(refine isR ?_;first|refine zo ?_|refine x_bs tb_ok ?_|refine zA ?_|refine zc1 ?_|refine zc2 ?_|refine zc6 ?_|refine zI ?_)|refine x_mret [0] ?_ ?_|exact x_le)
     ·rfl
     ·exact .no .nil
   ·have hv:=vends_each (s:=s) (by omega) ar
    rw [decide_eq_false ar] at d5
    clear hsh d1 d2
    generalize hla:bitsN s 52 6=la at *
    repeat' (first|refine zt ?_|(refine isR ?_;first|refine zo ?_|refine x_m [0] [] (d4 _) ?_ (hst:=.cons (.same rfl) .nil)|refine x_m [0] [] (d5 _) ?_ (hst:=.cons (.same rfl) .nil)|refine x_bs tb_ok ?_|refine zA ?_|refine zc1 ?_|refine zc2 ?_|refine zc6 ?_|refine zI ?_)|exact x_le)
    refine awp_whileM (fun i:Nat=>stC s (59+i) g (purp (tbits s)) (eachP i ((tbits s).drop 59)) [(4,natV la),(5,.int .i64 ((i:Int)+1))]) (fun i=>i≤la∧59+i≤8*s.length) (fun i=>la-i) 0 ?_ ⟨Nat.zero_le _,by omega⟩ ?_
    ·exact (by exact x_len [0,1,2])
    rintro i ⟨hi,hi3⟩
    have hel:=eachP_len i ((tbits s).drop 59)
    by_cases hi2:i<la
    ·by_cases am:8*s.length<59+i+1
     ·have p:=rmark_p (T:=TS) (n:=59+i) (s:=s) hs (by omega) (by omega)
      rw [if_pos (by omega)] at hv
      have hcode:=hnone hv
      repeat' (first|refine awp_regionP (id:=14) 1 ?_|(refine r_end ?_;refine p_call [0] (p _) ?_)|refine zt ?_|(refine isR ?_;first|refine zo ?_|refine x_bs tb_ok ?_|refine zA ?_|refine zc1 ?_|refine zc2 ?_|refine zc6 ?_|refine zI ?_)|exact x_le)
      exact h5 _ hcode
     ·have d6:=rmark_v (T:=TS) (n:=59+i) (s:=s) hs (by omega)
      have hbit:bitsN s (59+i) 1=((tbits s).drop 59).getD i 0:=by
       rw [← one_bit (by rw [List.length_drop,hl];omega),List.drop_drop]
      have hst:=eachP_succ i ((tbits s).drop 59)
      rw [← hbit] at hst
      have hA:59+(i+1)=59+i+1:=by omega
      have hi1:(((i+1:Nat):Int)+1)=(i:Int)+1+1:=by omega
      generalize hE:eachP (i+1) ((tbits s).drop 59)=E1 at *
      generalize eachP i ((tbits s).drop 59)=E at *
      generalize 59+i=A at *
      by_cases ab:bitsN s A 1=1
      ·rw [decide_eq_true ab] at d6
       rw [if_pos ab] at hst
       subst hst
       repeat' (first|refine zt ?_|(refine isR ?_;first|refine zo ?_|refine x_m [0] [] (d6 _) ?_ (hst:=.cons (.same rfl) .nil)|refine x_app natV (a1:=(i+1)) tb_ok ?_|refine x_bs tb_ok ?_|refine zA ?_|refine zc1 ?_|refine zc2 ?_|refine zc6 ?_|refine zI ?_)|exact x_le)
       refine ⟨i+1,⟨by omega,by omega⟩,by omega,?_⟩
       rw [hA,hE,hi1]
       exact (by exact x_len [0,1,3])
      ·rw [decide_eq_false ab] at d6
       rw [if_neg ab,List.append_nil] at hst
       subst hst
       repeat' (first|refine zt ?_|(refine isR ?_;first|refine zo ?_|refine x_m [0] [] (d6 _) ?_ (hst:=.cons (.same rfl) .nil)|refine x_bs tb_ok ?_|refine zA ?_|refine zc1 ?_|refine zc2 ?_|refine zc6 ?_|refine zI ?_)|exact x_le)
       refine ⟨i+1,⟨by omega,by omega⟩,by omega,?_⟩
       rw [hA,hE,hi1]
       exact (by exact x_len [0,1,2])
    ·obtain rfl:i=la:=by omega
     rw [if_neg (by omega)] at hv
     have hcode:=hsome _ hv
     generalize eachP i ((tbits s).drop 59)=E at *
     refine awp_freezeR 1 11 2 rfl (fun _=>rfl) ?_
     repeat' (first|refine hret E _ hcode hv ?_|refine zt ?_|(refine isR ?_;first|refine zo ?_|refine x_bs tb_ok ?_|refine zA ?_|refine zc1 ?_|refine zc2 ?_|refine zc6 ?_|refine zI ?_)|refine x_mret [0] ?_ ?_|exact x_le)
     ·rfl
     ·exact .no .nil
 ·have hcode:codeP (tbits s)=7:=by
   unfold codeP
   rw [if_neg (by omega),if_pos (show num ((tbits s).take 6)≠1 from a7)]
  have a7':(bitsN s 0 6:Int)≠1:=by omega
  generalize bitsN s 0 6=z at *
  repeat' (first|refine awp_regionP (id:=2) 2 ?_|(refine r_end ?_;refine p_panic ?_)|refine zt ?_|(refine isR ?_;first|refine zo ?_|refine x_m [0] [] (d1 _) ?_ (hst:=.cons (.same rfl) .nil)|refine x_bs tb_ok ?_|refine zA ?_|refine zc1 ?_|refine zc2 ?_|refine zc6 ?_|refine zI ?_)|exact x_le)
  exact h7 _ hcode
end
end Go.Proofs.YtlfdjpgghiemfaaGreatDoor.ConV
end
