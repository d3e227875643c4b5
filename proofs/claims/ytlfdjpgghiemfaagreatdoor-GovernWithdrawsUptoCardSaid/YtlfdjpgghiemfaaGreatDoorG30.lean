/- Texts of the proof, joined: GovA, GovB. -/
import Derived.Test.YtlfdjpgghiemfaaGreatDoorG14
import Derived.Test.YtlfdjpgghiemfaaGreatDoorG24
import Derived.Test.YtlfdjpgghiemfaaGreatDoorG29
set_option maxHeartbeats 4000000
set_option maxRecDepth 100000
section
namespace Go.Proofs.YtlfdjpgghiemfaaGreatDoor.GovA
open Go.RowKit Mem Abs Globs HostP HostC PathT Rdy Scan JarP JarQ JarA JarB JarC JarE JarL JarM PolP PolA PolB PurA RjP GovP LineB LineA
open ConC (conI intsV)
abbrev stC (S:List Suffix) (L:List Cookie) (nx:Int) (p:Pol) (g:Int) (P:Nat→Bool) (U:List Int) (t:Int):List Abs.V:=[.fro (S.map Suffix.v),.fro (L.map Cookie.v),.int .i64 nx,.fro (p.rules.map Rule.v),.int .i64 p.dflt,.int .i64 (p.caps 0),.int .i64 (p.caps 1),.int .i64 (p.caps 2),.int .i64 (p.caps 3),.int .i64 (p.caps 4),.int .i64 (p.caps 5),.int .i64 (p.caps 6),.int .i64 (p.caps 7),.int .i64 (p.caps 8),.int .i64 (p.caps 9),.int .i64 (p.caps 10),.int .i64 g,.bool (P 0),.bool (P 1),.bool (P 2),.bool (P 3),.bool (P 4),.bool (P 5),.bool (P 6),.bool (P 7),.bool (P 8),.bool (P 9),intsV U,.int .i64 t]
abbrev stV (S:List Suffix) (L:List Cookie) (nx:Int) (p:Pol) (g:Int) (P:Nat→Bool) (U:List Int) (t:Int):Abs.V:=.agg (stC S L nx p g P U t)
theorem fro_len {α:Type} {f:α→Abs.V} {L:List α}:Abs.V.fro (List.take L.length (List.drop 0 (L.map f))) = .fro (L.map f):=by rw [List.drop_zero,List.take_of_length_le (by simp)]
theorem one_row {α:Type} {f:α→Abs.V} {F T sz:Nat} {L:List α} (hf:∀ a,(f a).names=[]) (h:MCalls Tryz.prog F [.fro (L.map f)] [] (.own 0 0 L.length) [some (.els T sz (L.map f))]):ACalls Tryz.prog F [.fro (L.map f)] (.fro (L.map f)):=fun g=>by
 refine mcallsG_frz (bs:=[.els T sz (L.map f)]) (h g) ?_ ⟨frz_row hf,by simp⟩
 show some (Abs.V.fro (List.take L.length (List.drop 0 (L.map f))))=_
 rw [fro_len]
theorem cloneC_v {L:List Cookie} (hb:L.length*112≤140737488355328):ACalls Tryz.prog 78 [.fro (L.map Cookie.v)] (.fro (L.map Cookie.v)):=one_row (fun _=>rfl) (clone_v hb)
theorem cloneS_m {L:List Suffix} (hb:L.length≤1000):MCalls Tryz.prog 77 [.fro (L.map Suffix.v)] [] (.own 0 0 L.length) [some (.els 108 2 (L.map Suffix.v))]:=by
 refine mfun tb_ok Tryz.func77 rfl Tryz.ntmps77 Tryz.results77 rfl rfl rfl rfl fun N pl=>?_
 repeat' (first|refine awp_nilq tb_ok (fun b hq=>?_)|(with_reducible refine awp_name (c:=Code.ret) (t:=2) 108 2 (by decide) rfl rfl ?_)|refine x_mret [1] ?_ ?_|refine zt ?_|(refine isR ?_;first|refine x_far [5] tb_ok rfl ?_|refine zn ?_|refine x_appK Suffix.v (L:=[]) (K':=L) tb_ok ?_|refine x_bsO 5 tb_ok ?_)|refine awp_split rfl (fun hb=>?_) (fun hb=>?_)|refine x_mret [0] ?_ ?_|exact x_le)
 all_goals first
  | (have hn:=hq hb;simp only [List.map_eq_nil_iff] at hn;subst hn;first|rfl|exact .on (.same rfl) .nil)
  | rfl
  | exact .on (.same (nl_map fun _=>rfl)) .nil
theorem cloneR_m {L:List Rule} (hb:L.length≤1000):MCalls Tryz.prog 79 [.fro (L.map Rule.v)] [] (.own 0 0 L.length) [some (.els 110 4 (L.map Rule.v))]:=by
 refine mfun tb_ok Tryz.func79 rfl Tryz.ntmps79 Tryz.results79 rfl rfl rfl rfl fun N pl=>?_
 repeat' (first|refine awp_nilq tb_ok (fun b hq=>?_)|(with_reducible refine awp_name (c:=Code.ret) (t:=2) 110 4 (by decide) rfl rfl ?_)|refine x_mret [1] ?_ ?_|refine zt ?_|(refine isR ?_;first|refine x_far [5] tb_ok rfl ?_|refine zn ?_|refine x_appK Rule.v (L:=[]) (K':=L) tb_ok ?_|refine x_bsO 5 tb_ok ?_)|refine awp_split rfl (fun hb=>?_) (fun hb=>?_)|refine x_mret [0] ?_ ?_|exact x_le)
 all_goals first
  | (have hn:=hq hb;simp only [List.map_eq_nil_iff] at hn;subst hn;first|rfl|exact .on (.same rfl) .nil)
  | rfl
  | exact .on (.same (nl_map fun _=>rfl)) .nil
theorem cloneI_m {L:List Int} (hb:L.length≤1000):MCalls Tryz.prog 80 [.fro (L.map (Abs.V.int .i64))] [] (.own 0 0 L.length) [some (.els 3 1 (L.map (Abs.V.int .i64)))]:=by
 refine mfun tb_ok Tryz.func80 rfl Tryz.ntmps80 Tryz.results80 rfl rfl rfl rfl fun N pl=>?_
 repeat' (first|refine awp_nilq tb_ok (fun b hq=>?_)|(with_reducible refine awp_name (c:=Code.ret) (t:=2) 3 1 (by decide) rfl rfl ?_)|refine x_mret [1] ?_ ?_|refine zt ?_|(refine isR ?_;first|refine x_far [5] tb_ok rfl ?_|refine zn ?_|refine x_appK (Abs.V.int .i64) (L:=[]) (K':=L) tb_ok ?_|refine x_bsO 5 tb_ok ?_)|refine awp_split rfl (fun hb=>?_) (fun hb=>?_)|refine x_mret [0] ?_ ?_|exact x_le)
 all_goals first
  | (have hn:=hq hb;simp only [List.map_eq_nil_iff] at hn;subst hn;first|rfl|exact .on (.same rfl) .nil)
  | rfl
  | exact .on (.same (nl_map fun _=>rfl)) .nil
theorem own_v {S:List Suffix} {L:List Cookie} {nx:Int} {p:Pol} {g:Int} {P:Nat→Bool} {U:List Int} {t:Int} (h1:S.length≤1000) (h2:L.length≤1000) (h3:p.rules.length≤1000) (h4:U.length≤1000):ACalls Tryz.prog 44 [stV S L nx p g P U t] (stV S L nx p g P U t):=by
 have c1:=one_row (fun _=>rfl) (cloneS_m h1)
 have c2:=cloneC_v (L:=L) (by omega)
 have c3:=one_row (fun _=>rfl) (cloneR_m h3)
 have c4:=one_row (fun _=>rfl) (cloneI_m h4)
 refine fun1 tb_ok Tryz.func44 rfl Tryz.ntmps44 Tryz.results44 rfl fun N=>?_
 repeat' (first|refine zt ?_|(refine isR ?_;first|refine x_far [1] tb_ok rfl ?_|refine zn ?_|refine zk c1 ?_|refine zk c2 ?_|refine zk c3 ?_|refine zk c4 ?_)|refine zr ?_|exact x_le)
 all_goals rfl
theorem equal_v {L K:List Cookie} (hL:L.length≤1000):ACalls Tryz.prog 38 [.fro (L.map Cookie.v),.fro (K.map Cookie.v)] (.bool (decide (L=K))):=by
 have hml:(L.map Cookie.v).length=L.length:=List.length_map _
 have hmk:(K.map Cookie.v).length=K.length:=List.length_map _
 by_cases h0:L.length=K.length
 ·generalize hR:decide (L=K)=R
  refine fun2 tb_ok Tryz.func38 rfl Tryz.ntmps38 Tryz.results38 rfl fun N=>?_
  repeat' (first|refine zt ?_|(refine isR ?_;first|refine zo ?_|refine zA ?_|refine zL ?_|refine zc1 ?_|refine zc6 ?_|refine zI ?_)|refine awp_split rfl (fun hb=>?_) (fun hb=>?_)|refine zr ?_|exact x_le)
  all_goals first|(exfalso;omega)|skip
  refine awp_for (fun k=>⟨[(0,.fro (L.map Cookie.v)),(1,.fro (K.map Cookie.v)),(12,nV L.length),(13,nV k)],[],0,26⟩) (fun k=>k≤L.length∧∀ j,j<k→L[j]? = K[j]?) L.length 0 (by exact x_le) ⟨Nat.zero_le _,fun j h=>by omega⟩ ?_
  rintro k ⟨hk,hd⟩
  by_cases hk2:k<L.length
  ·have hx:L[k]? = some L[k]:=by simp [hk2]
   have hy:K[k]? = some (K[k]'(by omega)):=by simp [show k<K.length by omega]
   have hno:L[k]≠K[k]'(by omega)→R=false:=fun h=>by
    rw [← hR,decide_eq_false]
    rintro rfl
    exact h rfl
   generalize L[k]=a at *
   generalize K[k]'(by omega)=b at *
   have hm:=at_map (f:=Cookie.v) hx
   have hm2:=at_map (f:=Cookie.v) hy
   have he:=eq_cookie a b
   by_cases e:a=b
   ·rw [decide_eq_true e] at he
    repeat' (first|refine zt ?_|(refine isR ?_;first|refine zo ?_|refine zA ?_|refine zL ?_|refine zc1 ?_|refine zc6 ?_|refine zI ?_)|refine awp_split rfl (fun hb=>?_) (fun hb=>?_)|refine zr ?_|exact x_le)
    all_goals first|(exfalso;exact absurd ((congrArg not he).symm.trans hb) (by decide))|skip
    refine ⟨⟨by omega,fun j hj=>?_⟩,hk2,(by exact x_le)⟩
    by_cases ej:j=k
    ·subst ej;rw [hx,hy,e]
    ·exact hd j (by omega)
   ·rw [decide_eq_false e] at he
    rw [hno e]
    repeat' (first|refine zt ?_|(refine isR ?_;first|refine zo ?_|refine zA ?_|refine zL ?_|refine zc1 ?_|refine zc6 ?_|refine zI ?_)|refine awp_split rfl (fun hb=>?_) (fun hb=>?_)|refine zr ?_|exact x_le)
    all_goals first|rfl|(exfalso;exact absurd ((congrArg not he).symm.trans hb) (by decide))
  ·obtain rfl:k=L.length:=by omega
   have:R=true:=by
    rw [← hR,decide_eq_true_iff]
    apply List.ext_getElem?
    intro i
    by_cases hi:i<L.length
    ·exact hd i hi
    ·rw [List.getElem?_eq_none (by omega),List.getElem?_eq_none (by omega)]
   subst this
   repeat' (first|refine zt ?_|(refine isR ?_;first|refine zo ?_|refine zA ?_|refine zL ?_|refine zc1 ?_|refine zc6 ?_|refine zI ?_)|refine awp_split rfl (fun hb=>?_) (fun hb=>?_)|refine zr ?_|exact x_le)
   all_goals rfl
 ·have:decide (L=K)=false:=decide_eq_false (fun e=>h0 (by rw [e]))
  rw [this]
  refine fun2 tb_ok Tryz.func38 rfl Tryz.ntmps38 Tryz.results38 rfl fun N=>?_
  repeat' (first|refine zt ?_|(refine isR ?_;first|refine zo ?_|refine zA ?_|refine zL ?_|refine zc1 ?_|refine zc6 ?_|refine zI ?_)|refine awp_split rfl (fun hb=>?_) (fun hb=>?_)|refine zr ?_|exact x_le)
  all_goals first|rfl|(exfalso;omega)
theorem raw_v {p:Pol} {g:Int} {P:Nat→Bool} {U:List Int} {now nx:Int} {L:List Cookie} (h:OkP p) (hL:L.length≤12) (hd:∀ c∈L,c.domain.length≤4398046511104) (hc:∀ c∈L,isJ c.created=true):ACallsG Tryz.prog gStr 68 [jarV L nx,polV p,conI g P U,.int .i64 now] (jarV (keptF p P U now L) nx):=by
 refine mcallsG_frz (bs:=[rC (keptF p P U now L)]) (raw_m h hL hd hc) ?_ ?_
 ·show some (Abs.V.agg [.fro (List.take (keptF p P U now L).length (List.drop 0 ((keptF p P U now L).map Cookie.v))),.int .i64 nx])=_
  rw [fro_len]
 ·repeat' first|exact trivial|exact rfl|(simp;done)|exact frz_map (fun _=>rfl)|constructor
theorem purged_v {S:List Suffix} {L:List Cookie} {nx:Int} {p:Pol} {g:Int} {P:Nat→Bool} {U:List Int} {t:Int} (h:OkP p) (hL:L.length≤12) (hd:∀ c∈L,c.domain.length≤4398046511104) (hc:∀ c∈L,isJ c.created=true):ACallsG Tryz.prog gStr 39 [stV S L nx p g P U t] (jarV (keptF p P U t L) nx):=by
 have c1:=raw_v (g:=g) (P:=P) (U:=U) (now:=t) (nx:=nx) h hL hd hc
 generalize keptF p P U t L=K at *
 refine funG1 tb_ok Tryz.func39 rfl Tryz.ntmps39 Tryz.results39 rfl fun N=>?_
 repeat' (first|refine zt ?_|(refine isR ?_;first|refine zo ?_|refine zk c1 ?_)|refine zr ?_|exact x_le)
 all_goals rfl
theorem chk1_v {S:List Suffix} {L:List Cookie} {nx:Int} {p:Pol} {g:Int} {P:Nat→Bool} {U:List Int} {t:Int}:ACallsG Tryz.prog gStr 29 [.fp (stC S L nx p g P U t) 0] (.int .i64 (SufP.checkF S:Nat)):=by
 have c1:=SufW.check_v (L:=S)
 generalize SufP.checkF S=z at *
 refine funG1 tb_ok Tryz.func29 rfl Tryz.ntmps29 Tryz.results29 rfl fun N=>?_
 repeat' (first|refine zt ?_|(refine isR ?_;first|refine zo ?_|refine zk c1 ?_)|refine zr ?_|exact x_le)
 all_goals rfl
theorem chk2_v {S:List Suffix} {L:List Cookie} {nx:Int} {p:Pol} {g:Int} {P:Nat→Bool} {U:List Int} {t:Int}:ACalls Tryz.prog 31 [.fp (stC S L nx p g P U t) 0] (.int .i64 (checkJ L nx:Nat)):=by
 have c1:=jcheck_v (L:=L) (nx:=nx)
 generalize checkJ L nx=z at *
 refine fun1 tb_ok Tryz.func31 rfl Tryz.ntmps31 Tryz.results31 rfl fun N=>?_
 repeat' (first|refine zt ?_|(refine isR ?_;first|refine zo ?_|refine zk c1 ?_)|refine zr ?_|exact x_le)
 all_goals rfl
theorem chk3_v {S:List Suffix} {L:List Cookie} {nx:Int} {p:Pol} {g:Int} {P:Nat→Bool} {U:List Int} {t:Int}:ACalls Tryz.prog 33 [.fp (stC S L nx p g P U t) 0] (.int .i64 (checkP p:Nat)):=by
 have c1:=pcheck_v (p:=p)
 generalize checkP p=z at *
 refine fun1 tb_ok Tryz.func33 rfl Tryz.ntmps33 Tryz.results33 rfl fun N=>?_
 repeat' (first|refine zt ?_|(refine isR ?_;first|refine zo ?_|refine zk c1 ?_)|refine zr ?_|exact x_le)
 all_goals rfl
theorem chk4_v {S:List Suffix} {L:List Cookie} {nx:Int} {p:Pol} {g:Int} {P:Nat→Bool} {U:List Int} {t:Int}:ACalls Tryz.prog 35 [.fp (stC S L nx p g P U t) 0] (.int .i64 (GrantP.check g U:Nat)):=by
 have c1:=ConC.check_v (g:=g) (P:=P) (L:=U)
 generalize GrantP.check g U=z at *
 refine fun1 tb_ok Tryz.func35 rfl Tryz.ntmps35 Tryz.results35 rfl fun N=>?_
 repeat' (first|refine zt ?_|(refine isR ?_;first|refine zo ?_|refine zk c1 ?_)|refine zr ?_|exact x_le)
 all_goals rfl
theorem mom_of {L:List Cookie} {nx:Int} (h:Rj L nx):∀ c∈L,isJ c.created=true:=fun c hc=>by
 have:=h.mom c hc
 unfold badM at this
 cases hq:isJ c.created with
 | true=>rfl
 | false=>rw [hq] at this;cases this
theorem gcheck_v {S:List Suffix} {L:List Cookie} {nx:Int} {p:Pol} {g:Int} {P:Nat→Bool} {U:List Int} {t:Int} (hd:∀ c∈L,c.domain.length≤4398046511104):ACallsG Tryz.prog gStr 12 [stV S L nx p g P U t] (.int .i64 ((codeS S L nx p g P U t:Nat):Int)):=by
 have c1:=chk1_v (S:=S) (L:=L) (nx:=nx) (p:=p) (g:=g) (P:=P) (U:=U) (t:=t)
 have c2:=chk2_v (S:=S) (L:=L) (nx:=nx) (p:=p) (g:=g) (P:=P) (U:=U) (t:=t)
 have c3:=chk3_v (S:=S) (L:=L) (nx:=nx) (p:=p) (g:=g) (P:=P) (U:=U) (t:=t)
 have c4:=chk4_v (S:=S) (L:=L) (nx:=nx) (p:=p) (g:=g) (P:=P) (U:=U) (t:=t)
 have c5:=is_v (n:=t)
 unfold codeS
 by_cases h1:SufP.checkF S=0
 ·rw [if_neg (by rw [h1];simp)]
  rw [h1] at c1
  by_cases h2:checkJ L nx=0
  ·rw [if_neg (by rw [h2];simp)]
   rw [h2] at c2
   by_cases h3:checkP p=0
   ·rw [if_neg (by rw [h3];simp)]
    rw [h3] at c3
    by_cases h4:GrantP.check g U=0
    ·rw [if_neg (by rw [h4];simp)]
     rw [h4] at c4
     by_cases h5:isJ t=false
     ·rw [if_pos h5]
      rw [h5] at c5
      refine funG1 tb_ok Tryz.func12 rfl Tryz.ntmps12 Tryz.results12 rfl fun N=>?_
      repeat' (first|with_reducible refine rounds_on ?_|with_reducible refine awp_rounds 5 ?_|refine zt ?_|(refine isR ?_;first|refine zo ?_|refine x_callv (c1 _) ?_|refine x_callv (c1) ?_|refine x_callv (c2 _) ?_|refine x_callv (c2) ?_|refine x_callv (c3 _) ?_|refine x_callv (c3) ?_|refine x_callv (c4 _) ?_|refine x_callv (c4) ?_|refine zk c5 ?_|refine zA ?_|refine zc1 ?_|refine zc6 ?_|refine zI ?_)|refine zr ?_|exact x_le)
      all_goals first|rfl|(exfalso;omega)
     ·rw [if_neg h5]
      have h5:isJ t=true:=by simpa using h5
      rw [h5] at c5
      have hr:Rj L nx:=check_zero.1 h2
      have hlen:=hr.len
      have c6:=purged_v (S:=S) (nx:=nx) (g:=g) (P:=P) (U:=U) (t:=t) (check_ok h3) hr.len hd (mom_of hr)
      have hk:=kept_len (p:=p) (P:=P) (U:=U) (now:=t) L
      have c7:=equal_v (L:=keptF p P U t L) (K:=L) (by omega)
      generalize keptF p P U t L=K at *
      by_cases h6:K=L
      ·rw [if_pos h6]
       rw [decide_eq_true h6] at c7
       refine funG1 tb_ok Tryz.func12 rfl Tryz.ntmps12 Tryz.results12 rfl fun N=>?_
       repeat' (first|with_reducible refine rounds_on ?_|with_reducible refine awp_rounds 5 ?_|refine zt ?_|(refine isR ?_;first|refine zo ?_|refine x_callv (c1 _) ?_|refine x_callv (c1) ?_|refine x_callv (c2 _) ?_|refine x_callv (c2) ?_|refine x_callv (c3 _) ?_|refine x_callv (c3) ?_|refine x_callv (c4 _) ?_|refine x_callv (c4) ?_|refine zk c5 ?_|refine zk c6 ?_|refine zk c7 ?_|refine zA ?_|refine zc1 ?_|refine zc6 ?_|refine zI ?_)|refine zr ?_|exact x_le)
       all_goals first|rfl|(exfalso;omega)
      ·rw [if_neg h6]
       rw [decide_eq_false h6] at c7
       refine funG1 tb_ok Tryz.func12 rfl Tryz.ntmps12 Tryz.results12 rfl fun N=>?_
       repeat' (first|with_reducible refine rounds_on ?_|with_reducible refine awp_rounds 5 ?_|refine zt ?_|(refine isR ?_;first|refine zo ?_|refine x_callv (c1 _) ?_|refine x_callv (c1) ?_|refine x_callv (c2 _) ?_|refine x_callv (c2) ?_|refine x_callv (c3 _) ?_|refine x_callv (c3) ?_|refine x_callv (c4 _) ?_|refine x_callv (c4) ?_|refine zk c5 ?_|refine zk c6 ?_|refine zk c7 ?_|refine zA ?_|refine zc1 ?_|refine zc6 ?_|refine zI ?_)|refine zr ?_|exact x_le)
       all_goals first|rfl|(exfalso;omega)
    ·rw [if_pos h4]
     generalize GrantP.check g U=z at *
     refine funG1 tb_ok Tryz.func12 rfl Tryz.ntmps12 Tryz.results12 rfl fun N=>?_
     repeat' (first|with_reducible refine rounds_on ?_|with_reducible refine awp_rounds 5 ?_|refine zt ?_|(refine isR ?_;first|refine zo ?_|refine x_callv (c1 _) ?_|refine x_callv (c1) ?_|refine x_callv (c2 _) ?_|refine x_callv (c2) ?_|refine x_callv (c3 _) ?_|refine x_callv (c3) ?_|refine x_callv (c4 _) ?_|refine x_callv (c4) ?_|refine zA ?_|refine zc1 ?_|refine zc6 ?_|refine zI ?_)|refine zr ?_|exact x_le)
     all_goals first|rfl|(exfalso;omega)
   ·rw [if_pos h3]
    generalize checkP p=z at *
    refine funG1 tb_ok Tryz.func12 rfl Tryz.ntmps12 Tryz.results12 rfl fun N=>?_
    repeat' (first|with_reducible refine rounds_on ?_|with_reducible refine awp_rounds 5 ?_|refine zt ?_|(refine isR ?_;first|refine zo ?_|refine x_callv (c1 _) ?_|refine x_callv (c1) ?_|refine x_callv (c2 _) ?_|refine x_callv (c2) ?_|refine x_callv (c3 _) ?_|refine x_callv (c3) ?_|refine zA ?_|refine zc1 ?_|refine zc6 ?_|refine zI ?_)|refine zr ?_|exact x_le)
    all_goals first|rfl|(exfalso;omega)
  ·rw [if_pos h2]
   generalize checkJ L nx=z at *
   refine funG1 tb_ok Tryz.func12 rfl Tryz.ntmps12 Tryz.results12 rfl fun N=>?_
   repeat' (first|with_reducible refine rounds_on ?_|with_reducible refine awp_rounds 5 ?_|refine zt ?_|(refine isR ?_;first|refine zo ?_|refine x_callv (c1 _) ?_|refine x_callv (c1) ?_|refine x_callv (c2 _) ?_|refine x_callv (c2) ?_|refine zA ?_|refine zc1 ?_|refine zc6 ?_|refine zI ?_)|refine zr ?_|exact x_le)
   all_goals first|rfl|(exfalso;omega)
 ·rw [if_pos h1]
  generalize SufP.checkF S=z at *
  refine funG1 tb_ok Tryz.func12 rfl Tryz.ntmps12 Tryz.results12 rfl fun N=>?_
  repeat' (first|with_reducible refine rounds_on ?_|with_reducible refine awp_rounds 5 ?_|refine zt ?_|(refine isR ?_;first|refine zo ?_|refine x_callv (c1 _) ?_|refine x_callv (c1) ?_|refine zA ?_|refine zc1 ?_|refine zc6 ?_|refine zI ?_)|refine zr ?_|exact x_le)
  all_goals first|rfl|(exfalso;omega)
end Go.Proofs.YtlfdjpgghiemfaaGreatDoor.GovA
end
section
namespace Go.Proofs.YtlfdjpgghiemfaaGreatDoor.GovB
open Go.RowKit Mem Abs Globs HostP HostC PathT Rdy Scan JarP JarQ JarA JarB JarC JarE JarL JarM PolP PolA PolB PurA RjP GovP GovA LineP LineB
open ConC (conI intsV)
abbrev zeros:List Abs.V:=[.int .i64 0,.int .i64 0,.int .i64 0,.int .i64 0,.int .i64 0,.int .i64 0,.int .i64 0,.int .i64 0,.int .i64 0,.int .i64 0,.int .i64 0,.int .i64 0]
abbrev evC (r:Abs.V) (k now:Int) (s:List UInt8) (f:From):List Abs.V:=[.int .i64 k,.int .i64 now,strT s,strT f.host,strT f.path,.bool f.secure,.bool f.script,.bool f.abroad,r,.int .i64 0,.int .i64 0,.int .i64 0,.int .i64 0,.int .i64 0,.int .i64 0,.int .i64 0,.int .i64 0,.int .i64 0,.int .i64 0,.int .i64 0,.int .i64 0]
abbrev evV (k now:Int) (s:List UInt8) (f:From):Abs.V:=.agg (evC (.fro []) k now s f)
abbrev evN (k now:Int) (s:List UInt8) (f:From):Abs.V:=.agg (evC .nils k now s f)
abbrev f0:From:=⟨[],[],false,false,false⟩
theorem named1_v {now:Int} {s:List UInt8} {f:From}:ACalls Tryz.prog 74 [evV 1 now s f] (evN 1 now s f):=by
 refine fun1 tb_ok Tryz.func74 rfl Tryz.ntmps74 Tryz.results74 rfl fun N=>?_
 repeat' (first|refine zt ?_|(refine isR ?_;first|refine zo ?_|refine zc5 ?_)|refine zr ?_|exact x_le)
 all_goals rfl
theorem named2_v {now:Int} {f:From}:ACalls Tryz.prog 74 [evV 2 now [] f] (evN 2 now [] f):=by
 refine fun1 tb_ok Tryz.func74 rfl Tryz.ntmps74 Tryz.results74 rfl fun N=>?_
 repeat' (first|refine zt ?_|(refine isR ?_;first|refine zo ?_|refine zc5 ?_)|refine zr ?_|exact x_le)
 all_goals rfl
theorem named3_v {now:Int} {s:List UInt8}:ACalls Tryz.prog 74 [evV 3 now s f0] (evN 3 now s f0):=by
 refine fun1 tb_ok Tryz.func74 rfl Tryz.ntmps74 Tryz.results74 rfl fun N=>?_
 repeat' (first|refine zt ?_|(refine isR ?_;first|refine zo ?_|refine zc5 ?_)|refine zr ?_|exact x_le)
 all_goals rfl
theorem named5_v {now:Int}:ACalls Tryz.prog 74 [evV 5 now [] f0] (evN 5 now [] f0):=by
 refine fun1 tb_ok Tryz.func74 rfl Tryz.ntmps74 Tryz.results74 rfl fun N=>?_
 repeat' (first|refine zt ?_|(refine isR ?_;first|refine zo ?_|refine zc5 ?_)|refine zr ?_|exact x_le)
 all_goals rfl
theorem equalR_v:ACalls Tryz.prog 104 [.fro [],.fro []] (.bool true):=by
 have hz:([]:List Abs.V).length=0:=rfl
 refine fun2 tb_ok Tryz.func104 rfl Tryz.ntmps104 Tryz.results104 rfl fun N=>?_
 repeat' (first|with_reducible refine rounds_on ?_|with_reducible refine awp_rounds 2 ?_|refine zt ?_|(refine isR ?_;first|refine zo ?_|refine zL ?_|refine zc1 ?_|refine zc6 ?_)|refine zr ?_|exact x_le)
 all_goals rfl
def ekF:Ty:=(nth tb 37).get rfl
theorem eq_from (f:From):eqF f.v.cells f.v.cells ekF.flds=true:=by
 have h:eqF f.v.cells f.v.cells ekF.flds=(eqS (strT f.host) (strT f.host)&&(eqS (strT f.path) (strT f.path)&&(eqS (.bool f.secure) (.bool f.secure)&&(eqS (.bool f.script) (.bool f.script)&&(eqS (.bool f.abroad) (.bool f.abroad)&&true))))):=rfl
 rw [h]
 simp [eqS_str,eqS_bool]
theorem same_v {k now:Int} {s:List UInt8} {f:From}:ACalls Tryz.prog 73 [evV k now s f,evV k now s f] (.bool true):=by
 have c1:=equalR_v
 have hq:=eq_from f
 refine fun2 tb_ok Tryz.func73 rfl Tryz.ntmps73 Tryz.results73 rfl fun N=>?_
 repeat' (first|refine zt ?_|(refine isR ?_;first|refine zo ?_|refine x_eqlR tb_ok ?_|refine zk c1 ?_|refine zc5 ?_)|refine zr ?_|exact x_le)
 all_goals first|rfl|(exfalso;omega)|(exfalso;simp_all;done)
theorem long_v {s:List UInt8}:ACalls Tryz.prog 72 [strT s] (.bool (decide (400<s.length))):=by
 by_cases h:400<s.length
 ·rw [decide_eq_true h]
  refine fun1 tb_ok Tryz.func72 rfl Tryz.ntmps72 Tryz.results72 rfl fun N=>?_
  repeat' (first|refine zt ?_|(refine isR ?_;first|refine zo ?_|refine zL ?_|refine zc3 ?_)|refine zr ?_|exact x_le)
  all_goals first|rfl|(exfalso;omega)
 ·rw [decide_eq_false h]
  refine fun1 tb_ok Tryz.func72 rfl Tryz.ntmps72 Tryz.results72 rfl fun N=>?_
  repeat' (first|refine zt ?_|(refine isR ?_;first|refine zo ?_|refine zL ?_|refine zc3 ?_)|refine zr ?_|exact x_le)
  all_goals first|rfl|(exfalso;omega)
abbrev fnL:Abs.V:=.fn (.func 76) [] [.fp [.fn (.func 72) [] []] 0]
theorem idxR_v:ACalls Tryz.prog 105 [.fro [],fnL] (.int .i64 (-1)):=by
 have hz:([]:List Abs.V).length=0:=rfl
 refine fun2 tb_ok Tryz.func105 rfl Tryz.ntmps105 Tryz.results105 rfl fun N=>?_
 repeat' (first|with_reducible refine rounds_on ?_|with_reducible refine awp_rounds 2 ?_|refine zt ?_|(refine isR ?_;first|refine zo ?_|refine zL ?_|refine zc1 ?_)|refine zr ?_|exact x_le)
 all_goals rfl
theorem anyR_v:ACalls Tryz.prog 75 [.fro [],fnL] (.bool false):=by
 have c1:=idxR_v
 refine fun2 tb_ok Tryz.func75 rfl Tryz.ntmps75 Tryz.results75 rfl fun N=>?_
 repeat' (first|refine zt ?_|(refine isR ?_;first|refine zo ?_|refine zk c1 ?_|refine zc4 ?_)|refine zr ?_|exact x_le)
 all_goals rfl
def codeE (s:List UInt8) (f:From):Nat:=if 400<s.length∨400<f.host.length∨400<f.path.length then 2 else 0
theorem echeck_v {k now:Int} {s:List UInt8} {f:From} (cn:ACalls Tryz.prog 74 [evV k now s f] (evN k now s f)) (h1:1≤k) (h2:k≤5):ACalls Tryz.prog 43 [evV k now s f] (.int .i64 ((codeE s f:Nat):Int)):=by
 have cs:ACalls Tryz.prog 73 [evV k now s f,evN k now s f] (.bool true):=same_v.nf rfl
 have l1:=long_v (s:=s)
 have l2:=long_v (s:=f.host)
 have l3:=long_v (s:=f.path)
 have c1:=anyR_v
 unfold codeE
 by_cases e1:400<s.length
 ·rw [if_pos (.inl e1)]
  rw [decide_eq_true e1] at l1
  refine fun1 tb_ok Tryz.func43 rfl Tryz.ntmps43 Tryz.results43 rfl fun N=>?_
  repeat' (first|refine zt ?_|(refine isR ?_;first|refine zo ?_|refine zk cn ?_|refine zk cs ?_|refine x_callv (l1 _) ?_|refine x_callv (l1) ?_|refine zL ?_|refine zc1 ?_|refine zc3 ?_)|refine zr ?_|exact x_le)
  all_goals first|rfl|(exfalso;omega)
 rw [decide_eq_false e1] at l1
 by_cases e2:400<f.host.length
 ·rw [if_pos (.inr (.inl e2))]
  rw [decide_eq_true e2] at l2
  refine fun1 tb_ok Tryz.func43 rfl Tryz.ntmps43 Tryz.results43 rfl fun N=>?_
  repeat' (first|refine zt ?_|(refine isR ?_;first|refine zo ?_|refine zk cn ?_|refine zk cs ?_|refine x_callv (l1 _) ?_|refine x_callv (l1) ?_|refine x_callv (l2 _) ?_|refine x_callv (l2) ?_|refine zL ?_|refine zc1 ?_|refine zc3 ?_)|refine zr ?_|exact x_le)
  all_goals first|rfl|(exfalso;omega)
 rw [decide_eq_false e2] at l2
 by_cases e3:400<f.path.length
 ·rw [if_pos (.inr (.inr e3))]
  rw [decide_eq_true e3] at l3
  refine fun1 tb_ok Tryz.func43 rfl Tryz.ntmps43 Tryz.results43 rfl fun N=>?_
  repeat' (first|refine zt ?_|(refine isR ?_;first|refine zo ?_|refine zk cn ?_|refine zk cs ?_|refine x_callv (l1 _) ?_|refine x_callv (l1) ?_|refine x_callv (l2 _) ?_|refine x_callv (l2) ?_|refine x_callv (l3 _) ?_|refine x_callv (l3) ?_|refine zL ?_|refine zc1 ?_|refine zc3 ?_)|refine zr ?_|exact x_le)
  all_goals first|rfl|(exfalso;omega)
 rw [decide_eq_false e3] at l3
 rw [if_neg (fun h=>h.elim e1 fun h=>h.elim e2 e3)]
 have hz:([]:List Abs.V).length=0:=rfl
 refine fun1 tb_ok Tryz.func43 rfl Tryz.ntmps43 Tryz.results43 rfl fun N=>?_
 repeat' (first|refine zt ?_|(refine isR ?_;first|refine zo ?_|refine zk cn ?_|refine zk cs ?_|refine x_callv (l1 _) ?_|refine x_callv (l1) ?_|refine x_callv (l2 _) ?_|refine x_callv (l2) ?_|refine x_callv (l3 _) ?_|refine x_callv (l3) ?_|refine x_callz [0] (c1 _) ?_|refine x_callz [0] (c1) ?_|refine zL ?_|refine zc1 ?_|refine zc3 ?_)|refine zr ?_|exact x_le)
 all_goals first|rfl|(exfalso;omega)
abbrev TG:Nat:=93
abbrev rG (S:List Suffix) (L:List Cookie) (nx:Int) (p:Pol) (g:Int) (P:Nat→Bool) (U:List Int) (t:Int) (s:List UInt8):Blk:=.els TG 30 [.agg (stC S L nx p g P U t++[strT s])]
theorem askOk_m {Γ:Glob} {S:List Suffix} {L L2 Z:List Cookie} {nx:Int} {p:Pol} {g:Int} {P:Nat→Bool} {U:List Int} {t now:Int} {s T:List UInt8} {f:From} (cg:ACallsG Tryz.prog Γ 110 [jarV L nx,f.v,.int .i64 now] (.tup [jarV L2 nx,.fro (Z.map Cookie.v),.int .i64 0])) (cw:ACalls Tryz.prog 111 [.fro (Z.map Cookie.v)] (strT T)) :
  MCallsG Tryz.prog Γ 83 [.loc 0 0 0,evV 2 now [] f] [rG S L nx p g P U t s] (.int .i64 0) [some (rG S L2 nx p g P U t T)]:=by
 refine mfunG tb_ok Tryz.func83 rfl Tryz.ntmps83 Tryz.results83 rfl rfl rfl rfl fun N pl=>?_
 repeat' (first|refine zt ?_|(refine isR ?_;first|refine zo ?_|refine zk cg ?_|refine zk cw ?_|refine zc5 ?_)|refine x_mret [0] ?_ ?_|exact x_le)
 all_goals first|rfl|exact .on (.ren rfl) .nil
theorem askNo_m {Γ:Glob} {S:List Suffix} {L:List Cookie} {nx:Int} {p:Pol} {g:Int} {P:Nat→Bool} {U:List Int} {t now e:Int} {s:List UInt8} {f:From} (cg:ACallsG Tryz.prog Γ 110 [jarV L nx,f.v,.int .i64 now] (.tup [noJ,.nils,.int .i64 e])) (he:e≠0) :
  MCallsG Tryz.prog Γ 83 [.loc 0 0 0,evV 2 now [] f] [rG S L nx p g P U t s] (.int .i64 e) [some (rG S L nx p g P U t s)]:=by
 refine mfunG tb_ok Tryz.func83 rfl Tryz.ntmps83 Tryz.results83 rfl rfl rfl rfl fun N pl=>?_
 repeat' (first|refine zt ?_|(refine isR ?_;first|refine zo ?_|refine zk cg ?_|refine zc5 ?_)|refine x_mret [0] ?_ ?_|exact x_le)
 all_goals first|rfl|exact .on (.ren rfl) .nil|(exfalso;omega)
theorem do2_m {Γ:Glob} {S:List Suffix} {L K L2:List Cookie} {nx:Int} {p:Pol} {g:Int} {P:Nat→Bool} {U:List Int} {t now e:Int} {s T:List UInt8} {f:From} (cp:ACallsG Tryz.prog Γ 39 [stV S L nx p g P U now] (jarV K nx)) (ca:MCallsG Tryz.prog Γ 83 [.loc 0 0 0,evV 2 now [] f] [rG S K nx p g P U now s] (.int .i64 e) [some (rG S L2 nx p g P U now T)]) :
  MCallsG Tryz.prog Γ 45 [.loc 0 0 0,evV 2 now [] f] [rG S L nx p g P U t s] (.int .i64 e) [some (rG S L2 nx p g P U now T)]:=by
 refine mfunG tb_ok Tryz.func45 rfl Tryz.ntmps45 Tryz.results45 rfl rfl rfl rfl fun N pl=>?_
 repeat' (first|refine zt ?_|(refine isR ?_;first|refine zo ?_|refine zk cp ?_|refine x_mv [0] [] (ca _) ?_|refine x_mv [0] [] (ca) ?_|refine zI ?_)|refine x_mret [0] ?_ ?_|exact x_le)
 all_goals first|rfl|exact .on (.ren rfl) .nil
theorem tick_v {now:Int}:ACalls Tryz.prog 81 [evV 5 now [] f0] (.int .i64 0):=by
 refine fun1 tb_ok Tryz.func81 rfl Tryz.ntmps81 Tryz.results81 rfl fun N=>?_
 repeat' (first|refine zt ?_|(refine isR ?_;first|refine zo ?_)|refine zr ?_|exact x_le)
 all_goals rfl
theorem do5_m {Γ:Glob} {S:List Suffix} {L K:List Cookie} {nx:Int} {p:Pol} {g:Int} {P:Nat→Bool} {U:List Int} {t now:Int} {s:List UInt8} (cp:ACallsG Tryz.prog Γ 39 [stV S L nx p g P U now] (jarV K nx)) :
  MCallsG Tryz.prog Γ 45 [.loc 0 0 0,evV 5 now [] f0] [rG S L nx p g P U t s] (.int .i64 0) [some (rG S K nx p g P U now s)]:=by
 have c1:=tick_v (now:=now)
 refine mfunG tb_ok Tryz.func45 rfl Tryz.ntmps45 Tryz.results45 rfl rfl rfl rfl fun N pl=>?_
 repeat' (first|refine zt ?_|(refine isR ?_;first|refine zo ?_|refine zk cp ?_|refine x_callv (c1 _) ?_|refine x_callv (c1) ?_|refine zI ?_)|refine x_mret [0] ?_ ?_|exact x_le)
 all_goals first|rfl|exact .on (.ren rfl) .nil
abbrev st0:Abs.V:=.agg [.nils,.nils,.int .i64 0,.nils,.int .i64 0,.int .i64 0,.int .i64 0,.int .i64 0,.int .i64 0,.int .i64 0,.int .i64 0,.int .i64 0,.int .i64 0,.int .i64 0,.int .i64 0,.int .i64 0,.int .i64 0,.bool false,.bool false,.bool false,.bool false,.bool false,.bool false,.bool false,.bool false,.bool false,.bool false,.nils,.int .i64 0]
theorem apply_ok {Γ:Glob} {S S2:List Suffix} {L L2:List Cookie} {nx nx2:Int} {p p2:Pol} {g g2:Int} {P P2:Nat→Bool} {U U2:List Int} {t t2 now k:Int} {s T:List UInt8} {f:From} (ce:ACalls Tryz.prog 43 [evV k now s f] (.int .i64 0)) (hn:isJ now=true) (ht:t≤now) (co:ACalls Tryz.prog 44 [stV S L nx p g P U t] (stV S L nx p g P U t))
  (cd:MCallsG Tryz.prog Γ 45 [.loc 0 0 0,evV k now s f] [rG S L nx p g P U t []] (.int .i64 0) [some (rG S2 L2 nx2 p2 g2 P2 U2 t2 T)]) :
  ACallsG Tryz.prog Γ 16 [stV S L nx p g P U t,evV k now s f] (.tup [stV S2 L2 nx2 p2 g2 P2 U2 t2,strT T,.int .i64 0]):=by
 have c1:=is_v (n:=now)
 rw [hn] at c1
 refine funG2 tb_ok Tryz.func16 rfl Tryz.ntmps16 Tryz.results16 rfl fun N=>?_
 repeat' (first|refine zt ?_|(refine isR ?_;first|refine x_far [28] tb_ok rfl ?_|refine zn ?_|refine zk ce ?_|refine zk c1 ?_|refine zk co ?_|refine x_m [1] [] (cd _) ?_|refine x_m [1] [] (cd) ?_|refine zc1 ?_|refine zc5 ?_|refine zc6 ?_)|refine zr ?_|exact x_le)
 all_goals first|rfl|(exfalso;omega)
theorem apply_bad {Γ:Glob} {S S2:List Suffix} {L L2:List Cookie} {nx nx2:Int} {p p2:Pol} {g g2:Int} {P P2:Nat→Bool} {U U2:List Int} {t t2 now k e:Int} {s T:List UInt8} {f:From} (ce:ACalls Tryz.prog 43 [evV k now s f] (.int .i64 0)) (hn:isJ now=true) (ht:t≤now) (co:ACalls Tryz.prog 44 [stV S L nx p g P U t] (stV S L nx p g P U t))
  (cd:MCallsG Tryz.prog Γ 45 [.loc 0 0 0,evV k now s f] [rG S L nx p g P U t []] (.int .i64 e) [some (rG S2 L2 nx2 p2 g2 P2 U2 t2 T)]) (he:e≠0) :
  ACallsG Tryz.prog Γ 16 [stV S L nx p g P U t,evV k now s f] (.tup [st0,strT [],.int .i64 e]):=by
 have c1:=is_v (n:=now)
 rw [hn] at c1
 refine funG2 tb_ok Tryz.func16 rfl Tryz.ntmps16 Tryz.results16 rfl fun N=>?_
 repeat' (first|refine zt ?_|(refine isR ?_;first|refine x_far [28] tb_ok rfl ?_|refine zn ?_|refine zk ce ?_|refine zk c1 ?_|refine zk co ?_|refine x_m [1] [] (cd _) ?_|refine x_m [1] [] (cd) ?_|refine zc1 ?_|refine zc5 ?_|refine zc6 ?_)|refine zr ?_|exact x_le)
 all_goals first|rfl|(exfalso;omega)
theorem apply_no1 {S:List Suffix} {L:List Cookie} {nx:Int} {p:Pol} {g:Int} {P:Nat→Bool} {U:List Int} {t now k e:Int} {s:List UInt8} {f:From} (ce:ACalls Tryz.prog 43 [evV k now s f] (.int .i64 e)) (he:e≠0) (co:ACalls Tryz.prog 44 [stV S L nx p g P U t] (stV S L nx p g P U t)) :
  ACalls Tryz.prog 16 [stV S L nx p g P U t,evV k now s f] (.tup [st0,strT [],.int .i64 e]):=by
 refine fun2 tb_ok Tryz.func16 rfl Tryz.ntmps16 Tryz.results16 rfl fun N=>?_
 repeat' (first|refine zt ?_|(refine isR ?_;first|refine x_far [28] tb_ok rfl ?_|refine zn ?_|refine zk ce ?_|refine zk co ?_|refine zc5 ?_|refine zc6 ?_)|refine zr ?_|exact x_le)
 all_goals first|rfl|(exfalso;omega)
theorem apply_no2 {S:List Suffix} {L:List Cookie} {nx:Int} {p:Pol} {g:Int} {P:Nat→Bool} {U:List Int} {t now k:Int} {s:List UInt8} {f:From} (ce:ACalls Tryz.prog 43 [evV k now s f] (.int .i64 0)) (hn:isJ now=false) (co:ACalls Tryz.prog 44 [stV S L nx p g P U t] (stV S L nx p g P U t)) :
  ACalls Tryz.prog 16 [stV S L nx p g P U t,evV k now s f] (.tup [st0,strT [],.int .i64 3]):=by
 have c1:=is_v (n:=now)
 rw [hn] at c1
 refine fun2 tb_ok Tryz.func16 rfl Tryz.ntmps16 Tryz.results16 rfl fun N=>?_
 repeat' (first|refine zt ?_|(refine isR ?_;first|refine x_far [28] tb_ok rfl ?_|refine zn ?_|refine zk ce ?_|refine zk c1 ?_|refine zk co ?_|refine zc5 ?_|refine zc6 ?_)|refine zr ?_|exact x_le)
 all_goals first|rfl|(exfalso;omega)
theorem apply_no3 {S:List Suffix} {L:List Cookie} {nx:Int} {p:Pol} {g:Int} {P:Nat→Bool} {U:List Int} {t now k:Int} {s:List UInt8} {f:From} (ce:ACalls Tryz.prog 43 [evV k now s f] (.int .i64 0)) (hn:isJ now=true) (ht:now<t) (co:ACalls Tryz.prog 44 [stV S L nx p g P U t] (stV S L nx p g P U t)) :
  ACalls Tryz.prog 16 [stV S L nx p g P U t,evV k now s f] (.tup [st0,strT [],.int .i64 4]):=by
 have c1:=is_v (n:=now)
 rw [hn] at c1
 refine fun2 tb_ok Tryz.func16 rfl Tryz.ntmps16 Tryz.results16 rfl fun N=>?_
 repeat' (first|refine zt ?_|(refine isR ?_;first|refine x_far [28] tb_ok rfl ?_|refine zn ?_|refine zk ce ?_|refine zk c1 ?_|refine zk co ?_|refine zc1 ?_|refine zc5 ?_|refine zc6 ?_)|refine zr ?_|exact x_le)
 all_goals first|rfl|(exfalso;omega)
theorem Apply_ok {Γ:Glob} {S S2:List Suffix} {L L2:List Cookie} {nx nx2:Int} {p p2:Pol} {g g2:Int} {P P2:Nat→Bool} {U U2:List Int} {t t2 now k:Int} {s T:List UInt8} {f:From} (c1:ACallsG Tryz.prog Γ 12 [stV S L nx p g P U t] (.int .i64 0)) (c2:ACallsG Tryz.prog Γ 16 [stV S L nx p g P U t,evV k now s f] (.tup [stV S2 L2 nx2 p2 g2 P2 U2 t2,strT T,.int .i64 0])) :
  ACallsG Tryz.prog Γ 6 [stV S L nx p g P U t,evV k now s f] (.tup [stV S2 L2 nx2 p2 g2 P2 U2 t2,strT T,.int .i64 0]):=by
 refine funG2 tb_ok Tryz.func6 rfl Tryz.ntmps6 Tryz.results6 rfl fun N=>?_
 repeat' (first|refine zt ?_|(refine isR ?_;first|refine zo ?_|refine zk c1 ?_|refine zk c2 ?_|refine zc6 ?_)|refine zr ?_|exact x_le)
 all_goals first|rfl|(exfalso;omega)
theorem Apply_bad {Γ:Glob} {S:List Suffix} {L:List Cookie} {nx:Int} {p:Pol} {g:Int} {P:Nat→Bool} {U:List Int} {t now k e:Int} {s:List UInt8} {f:From} (c1:ACallsG Tryz.prog Γ 12 [stV S L nx p g P U t] (.int .i64 0)) (c2:ACallsG Tryz.prog Γ 16 [stV S L nx p g P U t,evV k now s f] (.tup [st0,strT [],.int .i64 e])) :
  ACallsG Tryz.prog Γ 6 [stV S L nx p g P U t,evV k now s f] (.tup [st0,strT [],.int .i64 e]):=by
 refine funG2 tb_ok Tryz.func6 rfl Tryz.ntmps6 Tryz.results6 rfl fun N=>?_
 repeat' (first|refine zt ?_|(refine isR ?_;first|refine zo ?_|refine zk c1 ?_|refine zk c2 ?_|refine zc6 ?_)|refine zr ?_|exact x_le)
 all_goals first|rfl|(exfalso;omega)
theorem Apply_no {Γ:Glob} {S:List Suffix} {L:List Cookie} {nx:Int} {p:Pol} {g:Int} {P:Nat→Bool} {U:List Int} {t now k e:Int} {s:List UInt8} {f:From} (c1:ACallsG Tryz.prog Γ 12 [stV S L nx p g P U t] (.int .i64 e)) (he:e≠0) :
  ACallsG Tryz.prog Γ 6 [stV S L nx p g P U t,evV k now s f] (.tup [st0,strT [],.int .i64 e]):=by
 refine funG2 tb_ok Tryz.func6 rfl Tryz.ntmps6 Tryz.results6 rfl fun N=>?_
 repeat' (first|refine zt ?_|(refine isR ?_;first|refine zo ?_|refine zk c1 ?_|refine zc6 ?_)|refine zr ?_|exact x_le)
 all_goals first|rfl|(exfalso;omega)
end Go.Proofs.YtlfdjpgghiemfaaGreatDoor.GovB
end
