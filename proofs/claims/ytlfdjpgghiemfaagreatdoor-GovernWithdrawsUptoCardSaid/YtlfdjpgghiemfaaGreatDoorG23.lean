/- Texts of the proof, joined: SortN, LineA, LineP, LineB. -/
import Derived.Test.YtlfdjpgghiemfaaGreatDoorG22
import Derived.Test.YtlfdjpgghiemfaaGreatDoorG14
import Derived.Lib.SliceRun
import Derived.Test.YtlfdjpgghiemfaaGreatDoorG15
set_option maxHeartbeats 4000000
set_option maxRecDepth 100000
section
namespace Go.Proofs.YtlfdjpgghiemfaaGreatDoor.SortN
open Go.RowKit Mem Abs SortP SortW SortM
abbrev SymC (len f:Nat):Prop:=∀ (L:List Cookie) (a m b:Nat),L.length=len→a<m→m<b→b≤len→b-a≤f→MCalls Tryz.prog 256 [.own 0 0 len,.int .i64 (a:Int),.int .i64 (m:Int),.int .i64 (b:Int),fnC] [rowC L] (.tup []) [some (rowC (symF ckLt f L a m b))]
theorem sym3_v {L:List Cookie} {a m b len:Nat} (f:Nat) (hl:L.length=len) (hL:len≤140737488355328) (h1:a<m) (h2:m<b) (h3:b≤len) (hf:b-a≤f+1) (hc:¬ m-a=1) (hd:¬ b-m=1) (ih:SymC len f):MCalls Tryz.prog 256 [.own 0 0 len,.int .i64 (a:Int),.int .i64 (m:Int),.int .i64 (b:Int),fnC] [rowC L] (.tup []) [some (rowC (symF ckLt (f+1) L a m b))]:=by
 rw [symF,if_neg hc,if_neg hd]
 have hs0:s0F a m b=if (a+b)/2<m then (a+b)/2+m-b else a:=rfl
 have hr0:rF a m b=if (a+b)/2<m then (a+b)/2 else m:=rfl
 have hp:∀ c x y,L[(a+b)/2+m-1-c]? = some y→L[c]? = some x→(fun c => !ltAt ckLt L ((a+b)/2+m-1-c) c) c = !decide (cz y x<0):=fun c x y hy hx=>congrArg (!·) (ltAt_of hy hx)
 have hT:bs (fun c => !ltAt ckLt L ((a+b)/2+m-1-c) c) (rF a m b-s0F a m b) (s0F a m b) (rF a m b)=sF ckLt L a m b:=rfl
 generalize (fun c => !ltAt ckLt L ((a+b)/2+m-1-c) c)=p at *
 generalize s0F a m b=s0 at *
 generalize rF a m b=r0 at *
 generalize sF ckLt L a m b=T at *
 obtain ⟨w1,w2,w3,w4⟩:=half (i:=a) (j:=b) (by omega)
 have hmid:a<(a+b)/2∧(a+b)/2<b∧a+b≤2*((a+b)/2)+1∧2*((a+b)/2)≤a+b:=by omega
 generalize (a+b)/2=mid at *
 have hsr:s0≤r0∧a≤s0∧r0≤m∧r0≤mid∧mid+m≤s0+b:=by rw [hs0,hr0];split<;>omega
 have hb:=bs_spec p (r0-s0) s0 r0 hsr.1 (Nat.le_refl _)
 rw [hT] at hb
 have i0:mid<m→(s0:Int)=(mid:Int)+(m:Int)-(b:Int)∧r0=mid:=fun h=>by rw [if_pos h] at hs0 hr0;omega
 have i1:¬ mid<m→s0=a∧r0=m:=fun h=>by rw [if_neg h] at hs0 hr0;omega
 clear hs0 hr0
 dsimp only
 have ee:((mid+m-T:Nat):Int)=(mid:Int)+(m:Int)-(T:Int):=by omega
 have n1:¬ (T<m∧m<mid+m-T)→rotOr L T m (mid+m-T)=L:=fun h=>if_neg h
 have c1:T<m→m<mid+m-T→MCalls Tryz.prog 267 [.own 0 0 len,.int .i64 (T:Int),.int .i64 (m:Int),.int .i64 ((mid:Int)+(m:Int)-(T:Int)),fnC] [rowC L] (.tup []) [some (rowC (rotOr L T m (mid+m-T)))]:=fun x y=>by
  unfold rotOr
  rw [if_pos ⟨x,y⟩,← ee]
  exact rot_v hl hL x y (by omega)
 have l1:(rotOr L T m (mid+m-T)).length=len:=rotOr_len.trans hl
 generalize rotOr L T m (mid+m-T)=L1 at *
 have n2:¬ (a<T∧T<mid)→(if a<T∧T<mid then symF ckLt f L1 a T mid else L1)=L1:=fun h=>if_neg h
 have c2:a<T→T<mid→MCalls Tryz.prog 256 [.own 0 0 len,.int .i64 (a:Int),.int .i64 (T:Int),.int .i64 (mid:Int),fnC] [rowC L1] (.tup []) [some (rowC (if a<T∧T<mid then symF ckLt f L1 a T mid else L1))]:=fun x y=>by
  rw [if_pos ⟨x,y⟩]
  exact ih L1 a T mid l1 x y (by omega) (by omega)
 have l2:(if a<T∧T<mid then symF ckLt f L1 a T mid else L1).length=len:=by
  split
  ·exact (symF_len _ _ _ _ _).trans l1
  ·exact l1
 generalize (if a<T∧T<mid then symF ckLt f L1 a T mid else L1)=L2 at *
 have n3:¬ (mid<mid+m-T∧mid+m-T<b)→(if mid<mid+m-T∧mid+m-T<b then symF ckLt f L2 mid (mid+m-T) b else L2)=L2:=fun h=>if_neg h
 have c3:mid<mid+m-T→mid+m-T<b→MCalls Tryz.prog 256 [.own 0 0 len,.int .i64 (mid:Int),.int .i64 ((mid:Int)+(m:Int)-(T:Int)),.int .i64 (b:Int),fnC] [rowC L2] (.tup []) [some (rowC (if mid<mid+m-T∧mid+m-T<b then symF ckLt f L2 mid (mid+m-T) b else L2))]:=fun x y=>by
  rw [if_pos ⟨x,y⟩,← ee]
  exact ih L2 mid (mid+m-T) b l2 x y h3 (by omega)
 generalize (if mid<mid+m-T∧mid+m-T<b then symF ckLt f L2 mid (mid+m-T) b else L2)=L3 at *
 clear ih
 refine mfun tb_ok Tryz.func256 rfl Tryz.ntmps256 Tryz.results256 rfl rfl rfl rfl fun N pl=>?_
 repeat' (first
   | refine awp_cutR (id:=27) ((stM len a m b L [(18,.int .i64 (mid:Int)),(19,.int .i64 ((mid:Int)+(m:Int))),(20,.int .i64 (s0:Int)),(21,.int .i64 (r0:Int))])) ?_ ?_
   | with_reducible first|refine awp_seq ?_|refine awp_region ?_|refine awp_draw mixed ?_|refine then_n ?_|refine awp_skip ?_|refine awp_block ?_|refine awp_exit ?_|refine awp_ret ?_|refine awp_label ?_|refine then_exit ?_|refine then_ret ?_|refine blk_n ?_|refine blk_ret ?_|refine blk_exit ?_|refine blk_other rfl ?_|refine then_k ?_
   | refine awp_true rfl ?_
   | refine awp_false rfl ?_
   | refine awp_split rfl (fun hb=>?_) (fun hb=>?_)
   | (refine isR ?_;first|refine x_far [] tb_ok rfl ?_|refine r_nil ?_|refine r_nild (by kernel_rfl) ?_|refine x_cv .u64 tb_ok ?_|refine x_shr1 ?_|refine x_cv .i64 tb_ok ?_|refine x_addE ?_|refine x_add ?_|refine x_subE ?_|refine x_sub ?_|refine x_cat ?_|refine x_lssT ?_|refine x_lssF ?_|refine x_lss (fun hc=>?_) (fun hc=>?_)|refine x_gtrT ?_|refine x_gtrF ?_|refine x_gtr (fun hc=>?_) (fun hc=>?_)|refine x_eqlT ?_|refine x_eqlF ?_|refine x_eql (fun hc=>?_) (fun hc=>?_)|refine x_eqlB ?_|refine x_eqlST ?_|refine x_eqlSF ?_|refine x_eqlS (fun hc=>?_) (fun hc=>?_)|refine x_eqlI ?_|refine x_eqlN ?_|refine x_iaF tb_ok ?_|refine x_iaO tb_ok ?_|refine x_iaA tb_ok ?_|refine x_iaAF tb_ok ?_|refine x_bytes tb_ok ?_|refine x_cv64 tb_ok ?_|refine x_eqlA tb_ok ?_|refine x_eqlAS tb_ok (fun hc=>?_) (fun hc=>?_))
   | refine x_ret ?_
   | refine x_nor ?_)
 ·refine awp_while (α:=Nat × Nat) (fun x=>stM len a m b L [(18,.int .i64 (mid:Int)),(19,.int .i64 ((mid:Int)+(m:Int))),(20,.int .i64 (x.1:Int)),(21,.int .i64 (x.2:Int)),(22,.int .i64 ((mid:Int)+(m:Int)-1))]) (fun x=>s0≤x.1∧x.1≤x.2∧x.2≤r0∧∃ f,x.2-x.1≤f∧bs p f x.1 x.2=T) (fun x=>x.2-x.1) (s0,r0) (by exact x_le) ⟨Nat.le_refl _,hsr.1,Nat.le_refl _,r0-s0,Nat.le_refl _,hT⟩ ?_
  rintro ⟨i,j⟩ ⟨g1,g2,g3,q,g4,g5⟩
  dsimp only at g1 g2 g3 g4 g5 ⊢
  by_cases hij:i<j
  ·clear c1 c2 c3 n1 n2 n3 i0 i1 hb w1 w2 w3 w4 ee l1 l2 hT
   obtain ⟨q,rfl,hq⟩:=bs_on (p:=p) hij g4
   rw [hq] at g5
   obtain ⟨x,e1⟩:∃ x,L[(i+j)/2]? = some x:=⟨_,List.getElem?_eq_getElem (by omega)⟩
   obtain ⟨y,e2⟩:∃ y,L[mid+m-1-(i+j)/2]? = some y:=⟨_,List.getElem?_eq_getElem (by omega)⟩
   rw [hp _ x y e2 e1] at g5
   obtain ⟨v1,v2,v3,v4⟩:=half (i:=i) (j:=j) (by omega)
   have hh:i≤(i+j)/2∧(i+j)/2<j:=by omega
   generalize (i+j)/2=h at *
   have c4:=cmp_v (x:=y) (y:=x)
   by_cases hz:cz y x<0
   ·rw [if_neg (by simpa using hz)] at g5
    repeat' (first
      | with_reducible first|refine awp_seq ?_|refine awp_region ?_|refine awp_draw mixed ?_|refine then_n ?_|refine awp_skip ?_|refine awp_block ?_|refine awp_exit ?_|refine awp_ret ?_|refine awp_label ?_|refine then_exit ?_|refine then_ret ?_|refine blk_n ?_|refine blk_ret ?_|refine blk_exit ?_|refine blk_other rfl ?_|refine then_k ?_
      | refine awp_true rfl ?_
      | refine awp_false rfl ?_
      | refine awp_split rfl (fun hb=>?_) (fun hb=>?_)
      | (refine isR ?_;first|refine x_far [] tb_ok rfl ?_|refine r_nil ?_|refine r_nild (by kernel_rfl) ?_|refine x_cv .u64 tb_ok ?_|refine x_shr1 ?_|refine x_cv .i64 tb_ok ?_|refine x_ldI Cookie.v (mid+m-1-h) tb_ok ?_|refine x_ldI Cookie.v h tb_ok ?_|refine x_callv (c4 _) ?_|refine x_callv (c4) ?_|refine x_addE ?_|refine x_add ?_|refine x_subE ?_|refine x_sub ?_|refine x_cat ?_|refine x_lssT ?_|refine x_lssF ?_|refine x_lss (fun hc=>?_) (fun hc=>?_)|refine x_gtrT ?_|refine x_gtrF ?_|refine x_gtr (fun hc=>?_) (fun hc=>?_)|refine x_eqlT ?_|refine x_eqlF ?_|refine x_eql (fun hc=>?_) (fun hc=>?_)|refine x_eqlB ?_|refine x_eqlST ?_|refine x_eqlSF ?_|refine x_eqlS (fun hc=>?_) (fun hc=>?_)|refine x_eqlI ?_|refine x_eqlN ?_|refine x_iaF tb_ok ?_|refine x_iaO tb_ok ?_|refine x_iaA tb_ok ?_|refine x_iaAF tb_ok ?_|refine x_bytes tb_ok ?_|refine x_cv64 tb_ok ?_|refine x_eqlA tb_ok ?_|refine x_eqlAS tb_ok (fun hc=>?_) (fun hc=>?_))
      | refine x_ret ?_
      | refine x_nor ?_
      | exact x_le)
    refine ⟨(i,h),⟨g1,by dsimp only;omega,by dsimp only;omega,q,by dsimp only;omega,g5⟩,by dsimp only;omega,?_⟩
    exact (by exact x_le)
   ·rw [if_pos (by simpa using hz)] at g5
    repeat' (first
      | with_reducible first|refine awp_seq ?_|refine awp_region ?_|refine awp_draw mixed ?_|refine then_n ?_|refine awp_skip ?_|refine awp_block ?_|refine awp_exit ?_|refine awp_ret ?_|refine awp_label ?_|refine then_exit ?_|refine then_ret ?_|refine blk_n ?_|refine blk_ret ?_|refine blk_exit ?_|refine blk_other rfl ?_|refine then_k ?_
      | refine awp_true rfl ?_
      | refine awp_false rfl ?_
      | refine awp_split rfl (fun hb=>?_) (fun hb=>?_)
      | (refine isR ?_;first|refine x_far [] tb_ok rfl ?_|refine r_nil ?_|refine r_nild (by kernel_rfl) ?_|refine x_cv .u64 tb_ok ?_|refine x_shr1 ?_|refine x_cv .i64 tb_ok ?_|refine x_ldI Cookie.v (mid+m-1-h) tb_ok ?_|refine x_ldI Cookie.v h tb_ok ?_|refine x_callv (c4 _) ?_|refine x_callv (c4) ?_|refine x_addE ?_|refine x_add ?_|refine x_subE ?_|refine x_sub ?_|refine x_cat ?_|refine x_lssT ?_|refine x_lssF ?_|refine x_lss (fun hc=>?_) (fun hc=>?_)|refine x_gtrT ?_|refine x_gtrF ?_|refine x_gtr (fun hc=>?_) (fun hc=>?_)|refine x_eqlT ?_|refine x_eqlF ?_|refine x_eql (fun hc=>?_) (fun hc=>?_)|refine x_eqlB ?_|refine x_eqlST ?_|refine x_eqlSF ?_|refine x_eqlS (fun hc=>?_) (fun hc=>?_)|refine x_eqlI ?_|refine x_eqlN ?_|refine x_iaF tb_ok ?_|refine x_iaO tb_ok ?_|refine x_iaA tb_ok ?_|refine x_iaAF tb_ok ?_|refine x_bytes tb_ok ?_|refine x_cv64 tb_ok ?_|refine x_eqlA tb_ok ?_|refine x_eqlAS tb_ok (fun hc=>?_) (fun hc=>?_))
      | refine x_ret ?_
      | refine x_nor ?_
      | exact x_le)
    refine ⟨(h+1,j),⟨by dsimp only;omega,by dsimp only;omega,g3,q,by dsimp only;omega,g5⟩,by dsimp only;omega,?_⟩
    exact (by exact x_le)
  ·rw [bs_end hij] at g5
   subst g5
   clear hp hT hb i0 i1 w1 w2 w3 w4 l1 l2 hl g4
   have k1:i≤m∧i≤mid:=by omega
   clear g1 g2 g3 hsr
   repeat' (first
     | refine awp_cutR (id:=39) ((stM len a m b L1 [(18,.int .i64 (mid:Int)),(20,.int .i64 (i:Int)),(24,.int .i64 ((mid:Int)+(m:Int)-(i:Int)))])) ?_ ?_
     | refine awp_cutR (id:=41) ((stM len a m b L2 [(18,.int .i64 (mid:Int)),(24,.int .i64 ((mid:Int)+(m:Int)-(i:Int)))])) ?_ ?_
     | with_reducible first|refine awp_seq ?_|refine awp_region ?_|refine awp_draw mixed ?_|refine then_n ?_|refine awp_skip ?_|refine awp_block ?_|refine awp_exit ?_|refine awp_ret ?_|refine awp_label ?_|refine then_exit ?_|refine then_ret ?_|refine blk_n ?_|refine blk_ret ?_|refine blk_exit ?_|refine blk_other rfl ?_|refine then_k ?_
     | refine awp_true rfl ?_
     | refine awp_false rfl ?_
     | refine awp_split rfl (fun hb=>?_) (fun hb=>?_)
     | (refine isR ?_;first|refine x_far [] tb_ok rfl ?_|refine r_nil ?_|refine r_nild (by kernel_rfl) ?_|refine x_m [0] [] (c1 (by omega) (by omega) _) ?_|refine x_m0 [0] [] (c1 (by omega) (by omega) _) ?_|refine x_m [0] [] (c1 (by omega) (by omega)) ?_|refine x_m0 [0] [] (c1 (by omega) (by omega)) ?_|refine x_m [0] [] (c2 (by omega) (by omega) _) ?_|refine x_m0 [0] [] (c2 (by omega) (by omega) _) ?_|refine x_m [0] [] (c2 (by omega) (by omega)) ?_|refine x_m0 [0] [] (c2 (by omega) (by omega)) ?_|refine x_m [0] [] (c3 (by omega) (by omega) _) ?_|refine x_m0 [0] [] (c3 (by omega) (by omega) _) ?_|refine x_m [0] [] (c3 (by omega) (by omega)) ?_|refine x_m0 [0] [] (c3 (by omega) (by omega)) ?_|refine x_addE ?_|refine x_add ?_|refine x_subE ?_|refine x_sub ?_|refine x_cat ?_|refine x_lssT ?_|refine x_lssF ?_|refine x_lss (fun hc=>?_) (fun hc=>?_)|refine x_gtrT ?_|refine x_gtrF ?_|refine x_gtr (fun hc=>?_) (fun hc=>?_)|refine x_eqlT ?_|refine x_eqlF ?_|refine x_eql (fun hc=>?_) (fun hc=>?_)|refine x_eqlB ?_|refine x_eqlST ?_|refine x_eqlSF ?_|refine x_eqlS (fun hc=>?_) (fun hc=>?_)|refine x_eqlI ?_|refine x_eqlN ?_|refine x_iaF tb_ok ?_|refine x_iaO tb_ok ?_|refine x_iaA tb_ok ?_|refine x_iaAF tb_ok ?_|refine x_bytes tb_ok ?_|refine x_cv64 tb_ok ?_|refine x_eqlA tb_ok ?_|refine x_eqlAS tb_ok (fun hc=>?_) (fun hc=>?_))
     | refine x_mret [0] ?_ ?_
     | refine x_mnor [0] ?_ ?_
     | refine x_ret ?_
     | refine x_nor ?_)
   all_goals first
    | rfl
    | exact .on (.same (nl_map fun _=>rfl)) .nil
    | (rw [n3 (by omega)];exact .on (.same (nl_map fun _=>rfl)) .nil)
    | (rw [n2 (by omega)];exact (by exact x_le))
    | (rw [n1 (by omega)];exact (by exact x_le))
    | exact (by exact x_le)
 ·obtain ⟨k1,k2⟩:=i0 (by omega)
  rw [k1,k2]
  exact (by exact x_le)
 ·obtain ⟨k1,k2⟩:=i1 (by omega)
  rw [k1,k2]
  exact (by exact x_le)
theorem sym_v {len:Nat} (hL:len≤140737488355328):∀ f,SymC len f
 | 0=>fun L a m b hl h1 h2 h3 hf=>by omega
 | f+1=>fun L a m b hl h1 h2 h3 hf=>by
  by_cases hc:m-a=1
  ·exact sym1_v f hl hL h1 h2 h3 hc
  ·by_cases hd:b-m=1
   ·exact sym2_v f hl hL h1 h2 h3 hc hd
   ·exact sym3_v f hl hL h1 h2 h3 hf hc hd (sym_v hL f)
theorem ins_v {L:List Cookie} {a b len:Nat} (hl:L.length=len) (hL:len≤140737488355328) (h1:a≤b) (h2:b≤len):MCalls Tryz.prog 255 [.own 0 0 len,.int .i64 (a:Int),.int .i64 (b:Int),fnC] [rowC L] (.tup []) [some (rowC (ins ckLt L a b))]:=by
 unfold ins
 refine mfun tb_ok Tryz.func255 rfl Tryz.ntmps255 Tryz.results255 rfl rfl rfl rfl fun N pl=>?_
 repeat' (first
   | with_reducible first|refine awp_seq ?_|refine awp_region ?_|refine awp_draw mixed ?_|refine then_n ?_|refine awp_skip ?_|refine awp_block ?_|refine awp_exit ?_|refine awp_ret ?_|refine awp_label ?_|refine then_exit ?_|refine then_ret ?_|refine blk_n ?_|refine blk_ret ?_|refine blk_exit ?_|refine blk_other rfl ?_|refine then_k ?_
   | refine awp_true rfl ?_
   | refine awp_false rfl ?_
   | refine awp_split rfl (fun hb=>?_) (fun hb=>?_)
   | (refine isR ?_;first|refine x_far [] tb_ok rfl ?_|refine r_nil ?_|refine r_nild (by kernel_rfl) ?_|refine x_addE ?_|refine x_add ?_|refine x_subE ?_|refine x_sub ?_|refine x_cat ?_|refine x_lssT ?_|refine x_lssF ?_|refine x_lss (fun hc=>?_) (fun hc=>?_)|refine x_gtrT ?_|refine x_gtrF ?_|refine x_gtr (fun hc=>?_) (fun hc=>?_)|refine x_iaF tb_ok ?_|refine x_iaO tb_ok ?_|refine x_iaA tb_ok ?_|refine x_iaAF tb_ok ?_)
   | refine x_ret ?_
   | refine x_nor ?_
   | exact x_le)
 refine awp_while (α:=Nat × List Cookie) (fun x=>⟨[(0,.own 0 0 len),(1,.int .i64 (a:Int)),(2,.int .i64 (b:Int)),(3,fnC),(8,.int .i64 (x.1:Int))],[(0,some (rowC x.2))],1,53⟩) (fun x=>a<x.1∧x.1≤len+1∧x.2.length=len∧insI ckLt a (b-x.1) x.1 x.2=insI ckLt a (b-(a+1)) (a+1) L) (fun x=>b-x.1) (a+1,L) ?h0 ⟨by dsimp only;omega,by dsimp only;omega,hl,rfl⟩ ?_
 case h0=>exact (by exact x_le)
 rintro ⟨i,M⟩ ⟨g1,g2,g3,g4⟩
 dsimp only at g1 g2 g3 g4 ⊢
 by_cases hi:i<b
 ·skip
  repeat' (first
    | with_reducible first|refine awp_seq ?_|refine awp_region ?_|refine awp_draw mixed ?_|refine then_n ?_|refine awp_skip ?_|refine awp_block ?_|refine awp_exit ?_|refine awp_ret ?_|refine awp_label ?_|refine then_exit ?_|refine then_ret ?_|refine blk_n ?_|refine blk_ret ?_|refine blk_exit ?_|refine blk_other rfl ?_|refine then_k ?_
    | refine awp_true rfl ?_
    | refine awp_false rfl ?_
    | refine awp_split rfl (fun hb=>?_) (fun hb=>?_)
    | (refine isR ?_;first|refine x_far [] tb_ok rfl ?_|refine r_nil ?_|refine r_nild (by kernel_rfl) ?_|refine x_addE ?_|refine x_add ?_|refine x_subE ?_|refine x_sub ?_|refine x_cat ?_|refine x_lssT ?_|refine x_lssF ?_|refine x_lss (fun hc=>?_) (fun hc=>?_)|refine x_gtrT ?_|refine x_gtrF ?_|refine x_gtr (fun hc=>?_) (fun hc=>?_)|refine x_iaF tb_ok ?_|refine x_iaO tb_ok ?_|refine x_iaA tb_ok ?_|refine x_iaAF tb_ok ?_)
    | refine x_ret ?_
    | refine x_nor ?_
    | exact x_le)
  refine awp_while (α:=Nat × List Cookie) (fun x=>⟨[(0,.own 0 0 len),(1,.int .i64 (a:Int)),(2,.int .i64 (b:Int)),(3,fnC),(8,.int .i64 (i:Int)),(9,.int .i64 (x.1:Int))],[(0,some (rowC x.2))],1,53⟩) (fun x=>x.1≤i∧x.2.length=len∧insJ ckLt a x.1 x.2=insJ ckLt a i M) (fun x=>x.1) (i,M) (by exact x_le) ⟨Nat.le_refl _,g3,rfl⟩ ?_
  rintro ⟨j,W⟩ ⟨k1,k2,k3⟩
  dsimp only at k1 k2 k3 ⊢
  by_cases hj:a<j
  ·obtain ⟨j,rfl⟩:∃ q,j=q+1:=⟨j-1,by omega⟩
   obtain ⟨x,y,z,m1,m2,m3,m4⟩:=two (M:=W) (i:=j+1) (j:=j) (by omega) (by omega)
   have c1:=cmp_v (x:=x) (y:=y)
   have ek:((j:Nat):Int)=((j+1:Nat):Int)-1:=by omega
   rw [insJ,ltAt_of m1 m2] at k3
   by_cases hz:cz x y<0
   ·rw [if_pos ⟨hj,by simpa using hz⟩] at k3
    repeat' (first
      | with_reducible first|refine awp_seq ?_|refine awp_region ?_|refine awp_draw mixed ?_|refine then_n ?_|refine awp_skip ?_|refine awp_block ?_|refine awp_exit ?_|refine awp_ret ?_|refine awp_label ?_|refine then_exit ?_|refine then_ret ?_|refine blk_n ?_|refine blk_ret ?_|refine blk_exit ?_|refine blk_other rfl ?_|refine then_k ?_
      | refine awp_true rfl ?_
      | refine awp_false rfl ?_
      | refine awp_split rfl (fun hb=>?_) (fun hb=>?_)
      | (refine isR ?_;first|refine x_far [] tb_ok rfl ?_|refine r_nil ?_|refine r_nild (by kernel_rfl) ?_|refine x_ldI Cookie.v (j+1) tb_ok ?_|refine x_ldI Cookie.v j tb_ok ?_|refine x_callv (c1 _) ?_|refine x_callv (c1) ?_|refine x_stI Cookie.v (a1:=y) (j+1) tb_ok ?_|refine x_stI Cookie.v (a1:=x) j tb_ok ?_|refine x_addE ?_|refine x_add ?_|refine x_subE ?_|refine x_sub ?_|refine x_cat ?_|refine x_lssT ?_|refine x_lssF ?_|refine x_lss (fun hc=>?_) (fun hc=>?_)|refine x_gtrT ?_|refine x_gtrF ?_|refine x_gtr (fun hc=>?_) (fun hc=>?_)|refine x_iaF tb_ok ?_|refine x_iaO tb_ok ?_|refine x_iaA tb_ok ?_|refine x_iaAF tb_ok ?_)
      | refine x_ret ?_
      | refine x_nor ?_
      | exact x_le)
    refine ⟨(j,(W.set (j+1) y).set j x),⟨by dsimp only;omega,by simp [k2],?_⟩,by dsimp only;omega,?_⟩
    ·show insJ ckLt a j _=_
     rw [← k3,← m4]
    ·dsimp only
     rw [ek]
     exact (by exact x_le)
   ·rw [if_neg (fun h=>hz (by simpa using h.2))] at k3
    repeat' (first
      | with_reducible first|refine awp_seq ?_|refine awp_region ?_|refine awp_draw mixed ?_|refine then_n ?_|refine awp_skip ?_|refine awp_block ?_|refine awp_exit ?_|refine awp_ret ?_|refine awp_label ?_|refine then_exit ?_|refine then_ret ?_|refine blk_n ?_|refine blk_ret ?_|refine blk_exit ?_|refine blk_other rfl ?_|refine then_k ?_
      | refine awp_true rfl ?_
      | refine awp_false rfl ?_
      | refine awp_split rfl (fun hb=>?_) (fun hb=>?_)
      | (refine isR ?_;first|refine x_far [] tb_ok rfl ?_|refine r_nil ?_|refine r_nild (by kernel_rfl) ?_|refine x_ldI Cookie.v (j+1) tb_ok ?_|refine x_ldI Cookie.v j tb_ok ?_|refine x_callv (c1 _) ?_|refine x_callv (c1) ?_|refine x_addE ?_|refine x_add ?_|refine x_subE ?_|refine x_sub ?_|refine x_cat ?_|refine x_lssT ?_|refine x_lssF ?_|refine x_lss (fun hc=>?_) (fun hc=>?_)|refine x_gtrT ?_|refine x_gtrF ?_|refine x_gtr (fun hc=>?_) (fun hc=>?_)|refine x_iaF tb_ok ?_|refine x_iaO tb_ok ?_|refine x_iaA tb_ok ?_|refine x_iaAF tb_ok ?_)
      | refine x_ret ?_
      | refine x_nor ?_
      | exact x_le)
    refine ⟨(i+1,W),⟨by dsimp only;omega,by dsimp only;omega,k2,?_⟩,by dsimp only;omega,?_⟩
    ·show insI ckLt a (b-(i+1)) (i+1) W=_
     rw [← g4,show b-i=(b-(i+1))+1 by omega,insI,← k3]
    ·exact (by exact x_le)
  ·have h0:insJ ckLt a j W=W:=by
    cases j with
    | zero=>rfl
    | succ j=>rw [insJ,if_neg (fun h=>hj h.1)]
   rw [h0] at k3
   repeat' (first
     | with_reducible first|refine awp_seq ?_|refine awp_region ?_|refine awp_draw mixed ?_|refine then_n ?_|refine awp_skip ?_|refine awp_block ?_|refine awp_exit ?_|refine awp_ret ?_|refine awp_label ?_|refine then_exit ?_|refine then_ret ?_|refine blk_n ?_|refine blk_ret ?_|refine blk_exit ?_|refine blk_other rfl ?_|refine then_k ?_
     | refine awp_true rfl ?_
     | refine awp_false rfl ?_
     | refine awp_split rfl (fun hb=>?_) (fun hb=>?_)
     | (refine isR ?_;first|refine x_far [] tb_ok rfl ?_|refine r_nil ?_|refine r_nild (by kernel_rfl) ?_|refine x_addE ?_|refine x_add ?_|refine x_subE ?_|refine x_sub ?_|refine x_cat ?_|refine x_lssT ?_|refine x_lssF ?_|refine x_lss (fun hc=>?_) (fun hc=>?_)|refine x_gtrT ?_|refine x_gtrF ?_|refine x_gtr (fun hc=>?_) (fun hc=>?_)|refine x_iaF tb_ok ?_|refine x_iaO tb_ok ?_|refine x_iaA tb_ok ?_|refine x_iaAF tb_ok ?_)
     | refine x_ret ?_
     | refine x_nor ?_
     | exact x_le)
   refine ⟨(i+1,W),⟨by dsimp only;omega,by dsimp only;omega,k2,?_⟩,by dsimp only;omega,?_⟩
   ·show insI ckLt a (b-(i+1)) (i+1) W=_
    rw [← g4,show b-i=(b-(i+1))+1 by omega,insI,← k3]
   ·exact (by exact x_le)
 ·rw [show b-i=0 by omega,insI] at g4
  rw [← g4]
  repeat' (first
    | with_reducible first|refine awp_seq ?_|refine awp_region ?_|refine awp_draw mixed ?_|refine then_n ?_|refine awp_skip ?_|refine awp_block ?_|refine awp_exit ?_|refine awp_ret ?_|refine awp_label ?_|refine then_exit ?_|refine then_ret ?_|refine blk_n ?_|refine blk_ret ?_|refine blk_exit ?_|refine blk_other rfl ?_|refine then_k ?_
    | refine awp_true rfl ?_
    | refine awp_false rfl ?_
    | refine awp_split rfl (fun hb=>?_) (fun hb=>?_)
    | (refine isR ?_;first|refine x_far [] tb_ok rfl ?_|refine r_nil ?_|refine r_nild (by kernel_rfl) ?_|refine x_addE ?_|refine x_add ?_|refine x_subE ?_|refine x_sub ?_|refine x_cat ?_|refine x_lssT ?_|refine x_lssF ?_|refine x_lss (fun hc=>?_) (fun hc=>?_)|refine x_gtrT ?_|refine x_gtrF ?_|refine x_gtr (fun hc=>?_) (fun hc=>?_)|refine x_iaF tb_ok ?_|refine x_iaO tb_ok ?_|refine x_iaA tb_ok ?_|refine x_iaAF tb_ok ?_)
    | refine x_mret [0] ?_ ?_
    | refine x_mnor [0] ?_ ?_
    | refine x_ret ?_
    | refine x_nor ?_
    | exact x_le)
  ·rfl
  ·exact .on (.same (nl_map fun _=>rfl)) .nil
end Go.Proofs.YtlfdjpgghiemfaaGreatDoor.SortN
end
section
namespace Go.Proofs.YtlfdjpgghiemfaaGreatDoor.Abs
open Go.RowKit Mem Facts
section
variable {P:Program} {tb:List Ty} {N:Env} {Q:Exit→S→Prop} {s:S}
theorem fro_slice2 {X A:Nat→Prop} {φ:Nat→Pl} {w:World} {xs:List V} {v:Value} (h:Rep X A φ w (.fro xs) v):∃ a n c,v = .slice a n c∧(a=none→xs=[]):=by
 cases h with
 | fz h=>cases h with
  | fro0 h=>exact ⟨_,_,_,rfl,fun _=>rfl⟩
  | fro c h1=>exact ⟨_,_,_,rfl,fun h=>by cases h⟩
theorem awp_nilq {id d1 d2 T el:Nat} {T':TypeId} {x:Operand} {o1 o2:Oper} {xs:List V} {e:Ty} (htb:TbOk P tb) (k:∀ b,(b=true→xs=[])→Q .normal ⟨(d2,.bool b)::(d1,.fro xs)::s.tm,s.st,s.nx,s.nt⟩)
  (ho1:o1.op = .move x:=by rfl) (hx:s.ev x=some (.fro xs):=by rfl) (hg1:o1.guard=none:=by rfl) (hd1:o1.dst=some d1:=by rfl) (l1:Nat.blt d1 s.nt=true:=by rfl)
  (ho2:o2.op = .binOp .eql T (.tmp d1) (.const (.slice none 0 0)) T':=by rfl) (hg2:o2.guard=none:=by rfl) (hd2:o2.dst=some d2:=by rfl) (l2:Nat.blt d2 s.nt=true:=by rfl)
  (hT:nth tb T=some e:=by rfl) (hs:e.sl=some el:=by rfl):AWp P N (.region id #[o1,o2] false) Q s:=fun M φ a w hr=>by
 refine wp_region_lit (l:=[o1,o2]) (wpList_step fun K hK=>?_)
 rw [if_pos (guard_wanted (s:=s) (b:=true) (by unfold guardV;rw [hg1]) hr)]
 have hv:=hr.ev hx
 have r1:(execOp a.eval o1).run P w = .ok (.value (a.eval x)) w:=by unfold execOp;simp only [ho1];rfl
 unfold Oper.wp
 rw [r1]
 refine hK _ _ (wpList_step fun K2 hK2=>?_)
 have hr1:Rel N M (· < s.nx) φ (s.eff o1.dst (.fro xs) [] s.nx) (a.put o1.dst (a.eval x)) w:=rel_dst hr hv fun d h=>by rw [hd1] at h;cases h;exact blt_lt l1
 rw [if_pos (guard_wanted (s:=s.eff o1.dst (.fro xs) [] s.nx) (b:=true) (by unfold guardV;rw [hg2]) hr1)]
 have hv1:Rep (fun b=>M b∨N b) (· < s.nx) φ w (.fro xs) ((a.put o1.dst (a.eval x)).eval (.tmp d1)):=hr1.ev (by rw [hd1];simp [S.ev,S.eff,lk])
 obtain ⟨A,n,c,he,hA⟩:=fro_slice2 hv1
 obtain ⟨ti,d,ht⟩:=ty_at htb hT
 have r2:(execOp (a.put o1.dst (a.eval x)).eval o2).run P w = .ok (.value (.bool A.isNone)) w:=by
  have hq:=Lib.run_eql_slice_nil (P:=P) w T el A n c 0 0 (slOf_und ht hs)
  have hc:(a.put o1.dst (a.eval x)).eval (.const (.slice none 0 0)) = .slice none 0 0:=rfl
  unfold execOp
  simp only [ho2,he,hc,eqGuard]
  simp only [Sem.run_bind,Bool.not_true,Bool.false_eq_true,if_false,Sem.run_pure,Result.andThen_ok,hq]
 unfold Oper.wp
 rw [r2]
 refine hK2 _ _ (wpList_nil ⟨M,φ,_,.refl _ w,fun _ _ h=>h,?_,k A.isNone fun h=>hA (by simpa using h)⟩)
 have hr2:=rel_dst hr1 (dst:=o2.dst) (v:=.bool A.isNone) (x:=.bool A.isNone) (nx:=s.nx) (.fz .bool) fun d h=>by rw [hd2] at h;cases h;exact blt_lt l2
 exact hr2.as (fun t=>by rw [hd1,hd2];rfl) (fun _=>rfl) rfl
end
end Go.Proofs.YtlfdjpgghiemfaaGreatDoor.Abs
namespace Go.Proofs.YtlfdjpgghiemfaaGreatDoor.LineA
open Go.RowKit Mem Abs SortP SortW SortM SortN
theorem stable_v {L:List Cookie} {len:Nat} (hl:L.length=len) (hL:len≤140737488355328):MCalls Tryz.prog 235 [.own 0 0 len,.int .i64 (len:Int),fnC] [rowC L] (.tup []) [some (rowC (sortF ckLt L))]:=by
 unfold sortF
 rw [hl]
 have hi:=insP_len (lt:=ckLt) (n:=len) (len+1) 0 L
 rw [hl] at hi
 generalize hI:insP ckLt len (len+1) 0 L=L1 at *
 refine mfun tb_ok Tryz.func235 rfl Tryz.ntmps235 Tryz.results235 rfl rfl rfl rfl fun N pl=>?_
 repeat' (first|refine zt ?_|(refine isR ?_;first|refine zo ?_|refine zA ?_|refine zc1 ?_|refine zc2 ?_)|exact x_le)
 refine awp_while (α:=Nat × List Cookie) (fun x=>⟨[(0,.own 0 0 len),(1,.int .i64 (len:Int)),(2,fnC),(6,.int .i64 20),(7,.int .i64 (x.1:Int)),(8,.int .i64 ((x.1:Int)+20))],[(0,some (rowC x.2))],1,63⟩) (fun x=>x.1≤len∧x.2.length=len∧∃ f,len-x.1<f∧insP ckLt len f x.1 x.2=L1) (fun x=>len-x.1) (0,L) (by exact x_le) ⟨Nat.zero_le _,hl,len+1,by dsimp only;omega,hI⟩ ?_
 rintro ⟨a,M⟩ ⟨g1,g2,f,g3,g4⟩
 dsimp only at g1 g2 g3 g4 ⊢
 obtain ⟨f,rfl⟩:∃ q,f=q+1:=⟨f-1,by omega⟩
 rw [insP] at g4
 by_cases ha:a+20≤len
 ·rw [if_pos ha] at g4
  have c1:=ins_v (L:=M) (a:=a) (b:=a+20) g2 hL (by omega) ha
  have e1:((a+20:Nat):Int)=(a:Int)+20:=by omega
  rw [e1] at c1
  repeat' (first|refine zt ?_|(refine isR ?_;first|refine zo ?_|refine x_m [0] [] (c1 _) ?_|refine x_m [0] [] (c1) ?_|refine zA ?_|refine zc1 ?_|refine zc2 ?_)|exact x_le)
  refine ⟨(a+20,ins ckLt M a (a+20)),⟨ha,ins_len.trans g2,f,by dsimp only;omega,g4⟩,by dsimp only;omega,?_⟩
  dsimp only
  rw [e1]
  exact (by exact x_le)
 ·rw [if_neg ha] at g4
  have c1:=ins_v (L:=M) (a:=a) (b:=len) g2 hL g1 (Nat.le_refl _)
  rw [g4] at c1
  repeat' (first|refine zt ?_|(refine isR ?_;first|refine zo ?_|refine x_m [0] [] (c1 _) ?_|refine x_m [0] [] (c1) ?_|refine zA ?_|refine zc1 ?_|refine zc2 ?_)|exact x_le)
  generalize hO:outF ckLt len len 20 L1=L2 at *
  refine awp_while (α:=Nat × List Cookie) (fun x=>⟨[(0,.own 0 0 len),(1,.int .i64 (len:Int)),(2,fnC),(6,.int .i64 (x.1:Int))],[(0,some (rowC x.2))],1,63⟩) (fun x=>0<x.1∧x.1≤2*len+20∧x.2.length=len∧∃ f,len≤x.1+f∧outF ckLt len f x.1 x.2=L2) (fun x=>len-x.1) (20,L1) ?h0 ⟨by dsimp only;omega,by dsimp only;omega,hi,len,by dsimp only;omega,hO⟩ ?_
  case h0=>exact (by exact x_le)
  rintro ⟨k,W⟩ ⟨k1,k2,k3,q,k4,k5⟩
  dsimp only at k1 k2 k3 k4 k5 ⊢
  by_cases hk:k<len
  ·obtain ⟨q,rfl⟩:∃ z,q=z+1:=⟨q-1,by omega⟩
   rw [outF,if_pos hk] at k5
   have hp:=passF_len (lt:=ckLt) (n:=len) (k:=k) (len+1) 0 W
   generalize hP:passF ckLt len k (len+1) 0 W=W1 at *
   repeat' (first|refine zt ?_|(refine isR ?_;first|refine zo ?_|refine zA ?_|refine zc1 ?_|refine zc2 ?_)|exact x_le)
   refine awp_while (α:=Nat × List Cookie) (fun x=>⟨[(0,.own 0 0 len),(1,.int .i64 (len:Int)),(2,fnC),(6,.int .i64 (k:Int)),(7,.int .i64 (x.1:Int)),(8,.int .i64 ((x.1:Int)+2*(k:Int)))],[(0,some (rowC x.2))],1,63⟩) (fun x=>x.1≤len∧x.2.length=len∧∃ f,len-x.1<f∧passF ckLt len k f x.1 x.2=W1) (fun x=>len-x.1) (0,W) ?h1 ⟨Nat.zero_le _,k3,len+1,by dsimp only;omega,hP⟩ ?_
   case h1 =>
    have e0:2*(k:Int)=(((0:Nat):Int))+2*(k:Int):=by omega
    dsimp only
    rw [← e0]
    exact (by exact x_le)
   rintro ⟨a,V⟩ ⟨m1,m2,f,m3,m4⟩
   dsimp only at m1 m2 m3 m4 ⊢
   obtain ⟨f,rfl⟩:∃ z,f=z+1:=⟨f-1,by omega⟩
   rw [passF] at m4
   have e2:((a+k:Nat):Int)=(a:Int)+(k:Int):=by omega
   have e3:((a+2*k:Nat):Int)=(a:Int)+2*(k:Int):=by omega
   by_cases hb:a+2*k≤len
   ·rw [if_pos hb] at m4
    have d1:=sym_v hL (2*k) V a (a+k) (a+2*k) m2 (by omega) (by omega) hb (by omega)
    rw [e2,e3] at d1
    clear c1 g4 hI hO hP
    repeat' (first|refine zt ?_|(refine isR ?_;first|refine zo ?_|refine x_m [0] [] (d1 _) ?_|refine x_m [0] [] (d1) ?_|refine zA ?_|refine zc1 ?_|refine zc2 ?_)|exact x_le)
    refine ⟨(a+2*k,symF ckLt (2*k) V a (a+k) (a+2*k)),⟨hb,(symF_len _ _ _ _ _).trans m2,f,by dsimp only;omega,m4⟩,by dsimp only;omega,?_⟩
    dsimp only
    rw [e3]
    exact (by exact x_le)
   ·rw [if_neg hb] at m4
    have e4:((2*k:Nat):Int)=(k:Int)*2:=by omega
    by_cases hc:a+k<len
    ·rw [if_pos hc] at m4
     have d1:=sym_v hL (len-a) V a (a+k) len m2 (by omega) hc (Nat.le_refl _) (Nat.le_refl _)
     rw [e2,m4] at d1
     clear c1 g4 hI hO hP
     repeat' (first|refine zt ?_|(refine isR ?_;first|refine zo ?_|refine x_m [0] [] (d1 _) ?_|refine x_m [0] [] (d1) ?_|refine zA ?_|refine zc1 ?_|refine zc2 ?_)|exact x_le)
     refine ⟨(2*k,W1),⟨by dsimp only;omega,by dsimp only;omega,by dsimp only;omega,q,by dsimp only;omega,k5⟩,by dsimp only;omega,?_⟩
     dsimp only
     rw [e4]
     exact (by exact x_le)
    ·rw [if_neg hc] at m4
     clear c1 g4 hI hO hP
     subst m4
     repeat' (first|refine zt ?_|(refine isR ?_;first|refine zo ?_|refine zA ?_|refine zc1 ?_|refine zc2 ?_)|exact x_le)
     refine ⟨(2*k,V),⟨by dsimp only;omega,by dsimp only;omega,m2,q,by dsimp only;omega,k5⟩,by dsimp only;omega,?_⟩
     dsimp only
     rw [e4]
     exact (by exact x_le)
  ·have e5:outF ckLt len q k W=W:=by
    cases q with
    | zero=>rfl
    | succ q=>rw [outF,if_neg hk]
   rw [e5] at k5
   subst k5
   clear c1 g4 hI hO
   repeat' (first|refine zt ?_|(refine isR ?_;first|refine zo ?_|refine zA ?_|refine zc1 ?_|refine zc2 ?_)|refine x_mret [0] ?_ ?_|exact x_le)
   ·rfl
   ·exact .on (.same (nl_map fun _=>rfl)) .nil
theorem sortStable_v {L:List Cookie} {len:Nat} (hl:L.length=len) (hL:len≤140737488355328):MCalls Tryz.prog 193 [.own 0 0 len,fnC] [rowC L] (.tup []) [some (rowC (sortF ckLt L))]:=by
 have c1:=stable_v hl hL
 generalize sortF ckLt L=L1 at *
 refine mfun tb_ok Tryz.func193 rfl Tryz.ntmps193 Tryz.results193 rfl rfl rfl rfl fun N pl=>?_
 repeat' (first|refine zt ?_|(refine isR ?_;first|refine zo ?_|refine x_m [0] [] (c1 _) ?_|refine x_m [0] [] (c1) ?_|refine zL ?_)|refine x_mret [0] ?_ ?_|exact x_le)
 ·rfl
 ·exact .on (.same (nl_map fun _=>rfl)) .nil
theorem clone_v {L:List Cookie} (hb:L.length*112≤140737488355328):MCalls Tryz.prog 78 [.fro (L.map Cookie.v)] [] (.own 0 0 L.length) [some (rowC L)]:=by
 have hl:L.length≤140737488355328:=by omega
 refine mfun tb_ok Tryz.func78 rfl Tryz.ntmps78 Tryz.results78 rfl rfl rfl rfl fun N pl=>?_
 repeat' (first|refine awp_nilq tb_ok (fun b hq=>?_)|(with_reducible refine awp_name (c:=Code.ret) (t:=2) CK 13 (by decide) rfl rfl ?_)|refine x_mret [1] ?_ ?_|refine zt ?_|(refine isR ?_;first|refine x_far [5] tb_ok rfl ?_|refine zn ?_|refine x_appK Cookie.v (L:=[]) (K':=L) tb_ok ?_|refine x_bsO 5 tb_ok ?_)|refine awp_split rfl (fun hb=>?_) (fun hb=>?_)|refine x_mret [0] ?_ ?_|exact x_le)
 all_goals first
  | (have hn:=hq hb;simp only [List.map_eq_nil_iff] at hn;subst hn;first|rfl|exact .on (.same rfl) .nil)
  | rfl
  | exact .on (.same (nl_map fun _=>rfl)) .nil
theorem lineSort_v {L:List Cookie} (hb:L.length*112≤140737488355328):ACalls Tryz.prog 145 [.fro (L.map Cookie.v)] (.fro ((sortF ckLt L).map Cookie.v)):=by
 have c1:=clone_v hb
 have c2:=sortStable_v (L:=L) rfl (by omega)
 have hl:(sortF ckLt L).length=L.length:=sortF_len
 generalize sortF ckLt L=M at *
 rw [← hl] at c1 c2
 refine fun1 tb_ok Tryz.func145 rfl Tryz.ntmps145 Tryz.results145 rfl fun N=>?_
 repeat' (first|refine zt ?_|(refine isR ?_;first|refine zo ?_|refine x_m [] [0] (c1 _) ?_|refine x_m [] [0] (c1) ?_|refine x_m [0] [] (c2 _) ?_|refine x_m [0] [] (c2) ?_)|refine zr ?_|exact x_le)
 show V.fro (List.take M.length (List.drop 0 (M.map Cookie.v)))=_
 rw [List.drop_zero,List.take_of_length_le (by simp)]
end Go.Proofs.YtlfdjpgghiemfaaGreatDoor.LineA
end
section
namespace Go.Proofs.YtlfdjpgghiemfaaGreatDoor.LineP
open Go.RowKit Mem Abs SortP SortW TreeW WordS PathT
theorem ck_iff (x y:Cookie):ckLt x y=true↔y.path.length<x.path.length∨y.path.length=x.path.length∧(x.created<y.created∨x.created=y.created∧x.no<y.no):=by
 unfold ckLt cz orI cmpI
 rw [decide_eq_true_iff]
 repeat' split
 all_goals omega
theorem ck_no (x y:Cookie):ckLt x y=false↔¬ (y.path.length<x.path.length∨y.path.length=x.path.length∧(x.created<y.created∨x.created=y.created∧x.no<y.no)):=by
 rw [← ck_iff,Bool.not_eq_true]
theorem ck_weak:Weak ckLt where
 asymm x y h:=by rw [ck_iff] at h;rw [ck_no];omega
 neg x y z h:=by rw [ck_iff] at h;rw [ck_iff,ck_iff];omega
def ahB (p q:Cookie × Nat):Bool:=ckLt p.1 q.1||(!ckLt q.1 p.1&&decide (p.2<q.2))
def rank (L:List Cookie) (x:Cookie) (i:Nat):Nat:=L.zipIdx.countP fun p=>ahB p (x,i)
def ckT (c:Cookie):List UInt8:=(c.name++[61])++c.value
def lineT:List Cookie→List UInt8
 | []=>[]
 | [c]=>ckT c
 | c::r=>ckT c++([59,32]++lineT r)
theorem lineT_cons (c:Cookie) {r:List Cookie} (h:r≠[]):lineT (c::r)=ckT c++([59,32]++lineT r):=by
 cases r with
 | nil=>exact absurd rfl h
 | cons=>rfl
theorem lineT_snoc:∀ (r:List Cookie) (c:Cookie),lineT (r++[c])=if r=[] then ckT c else (lineT r++[59,32])++ckT c
 | [],c=>by simp [lineT]
 | [d],c=>by simp [lineT]
 | d::e::r,c=>by
  have h:=lineT_snoc (e::r) c
  rw [if_neg (by simp)] at h ⊢
  rw [List.cons_append,lineT_cons d (by simp),h,lineT_cons d (by simp)]
  simp
theorem ckT_ne (c:Cookie):ckT c≠[]:=by unfold ckT;simp
theorem lineT_ne {r:List Cookie} (h:r≠[]):lineT r≠[]:=by
 cases r with
 | nil=>exact absurd rfl h
 | cons c r =>
  cases r with
  | nil=>exact ckT_ne c
  | cons d r=>rw [lineT_cons c (by simp)];simp [ckT_ne]
def SmallC (L:List Cookie):Prop:=L.length≤1048576∧∀ c∈L,c.name.length≤1048576∧c.value.length≤1048576
theorem lineT_len:∀ {L:List Cookie},(∀ c∈L,c.name.length≤1048576∧c.value.length≤1048576)→(lineT L).length≤L.length*2097155
 | [],_=>by simp [lineT]
 | [c],h=>by
  have:=h c (by simp)
  simp [lineT,ckT];omega
 | c::d::r,h=>by
  have h1:=h c (by simp)
  have h2:=lineT_len (L:=d::r) fun x hx=>h x (by simp [hx])
  rw [lineT_cons c (by simp)]
  simp only [List.length_append,List.length_cons,List.length_nil,ckT] at h2 ⊢
  omega
def pieceF (i:Nat) (p:List UInt8):Option Attr :=
 if (0<i∧(cutP p [32]).2=false)∨(cutF 61 (if 0<i then (cutP p [32]).1 else p)).2.2=false∨(cutF 61 (if 0<i then (cutP p [32]).1 else p)).1=[] then none
 else some ⟨(cutF 61 (if 0<i then (cutP p [32]).1 else p)).1,(cutF 61 (if 0<i then (cutP p [32]).1 else p)).2.1⟩
def goF:Nat→List (List UInt8)→List Attr→Option (List Attr)
 | _,[],out=>some out
 | i,p::r,out=>match pieceF i p with
  | none=>none
  | some a=>goF (i+1) r (out++[a])
def resF (r:Option (List Attr)):List Attr × Int:=match r with
 | some l=>(l,0)
 | none=>([],1)
def pairsF (s:List UInt8):List Attr × Int:=if 8000<s.length then ([],2) else if s=[] then ([],0) else resF (goF 0 (split 59 s) [])
def attrC (c:Cookie):Attr:=⟨c.name,c.value⟩
def FairC (c:Cookie):Prop:=c.name≠[]∧c.name.contains 59=false∧c.name.contains 61=false∧c.value.contains 59=false
theorem split_line:∀ {c:Cookie} {r:List Cookie},(∀ x∈c::r,FairC x)→split 59 (lineT (c::r))=ckT c::r.map fun x=>32::ckT x:=by
 have fair:∀ {x:Cookie},FairC x→(ckT x).contains 59=false:=fun {x} h=>by
  obtain ⟨_,h1,_,h2⟩:=h
  unfold ckT
  rw [List.contains_append,List.contains_append,h1,h2];rfl
 intro c r
 induction r generalizing c with
 | nil=>intro h;exact split_none 59 _ (fair (h c (by simp)))
 | cons d r ih =>
  intro h
  rw [lineT_cons c (by simp),show ckT c++([59,32]++lineT (d::r))=ckT c++59::(32::lineT (d::r)) by simp,split_app 59 _ _ (fair (h c (by simp)))]
  have h2:=ih (c:=d) fun x hx=>h x (by simp [List.mem_cons.1 hx])
  have h3:∀ (a:UInt8) (t:List UInt8) (b:List UInt8) (q:List (List UInt8)),a≠59→split 59 t=b::q→split 59 (a::t)=(a::b)::q:=fun a t b q ha e=>by
   rcases first_at 59 t with hn|⟨u,v,rfl,hu⟩
   ·rw [split_none 59 t hn] at e
    rw [← (List.cons.inj e).1,← (List.cons.inj e).2]
    exact split_none 59 _ (by rw [List.contains_cons,hn,Bool.or_false];simpa using (Ne.symm ha))
   ·rw [split_app 59 u v hu] at e
    rw [← (List.cons.inj e).1,← (List.cons.inj e).2]
    have:=split_app 59 (a::u) v (by rw [List.contains_cons,hu,Bool.or_false];simpa using (Ne.symm ha))
    simpa using this
  rw [h3 32 _ _ _ (by decide) h2]
  rfl
theorem piece_fair {c:Cookie} (h:FairC c) (i:Nat):pieceF i (if 0<i then 32::ckT c else ckT c)=some (attrC c):=by
 have e1:cutF 61 (ckT c)=(c.name,c.value,true):=by
  rw [show ckT c=c.name++61::c.value by simp [ckT]]
  exact cutF_at h.2.2.1
 have e2:cutP (32::ckT c) [32]=(ckT c,true):=by
  unfold cutP
  rw [if_pos (show pre (32::ckT c) [32]=true by unfold pre;exact decide_eq_true rfl)]
  rfl
 unfold pieceF
 by_cases hi:0<i
 ·simp only [if_pos hi,e2,e1]
  rw [if_neg (by simp [h.1])];rfl
 ·simp only [if_neg hi,e1]
  rw [if_neg (by simp [h.1,hi])];rfl
theorem go_fair:∀ (r:List Cookie) (i:Nat) (out:List Attr),0<i→(∀ x∈r,FairC x)→goF i (r.map fun x=>32::ckT x) out=some (out++r.map attrC)
 | [],i,out,_,_=>by simp [goF]
 | c::r,i,out,hi,h=>by
  have e:=piece_fair (h c (by simp)) i
  rw [if_pos hi] at e
  rw [List.map_cons,goF,e]
  dsimp only
  rw [go_fair r (i+1) _ (by omega) fun x hx=>h x (by simp [hx])]
  simp
theorem line_back {L:List Cookie} (h:∀ x∈L,FairC x):pairsF (lineT L)=([],2)∨pairsF (lineT L)=(L.map attrC,0):=by
 unfold pairsF
 by_cases h1:8000<(lineT L).length
 ·rw [if_pos h1];exact .inl rfl
 ·rw [if_neg h1]
  cases L with
  | nil=>exact .inr rfl
  | cons c r =>
   rw [if_neg (lineT_ne (by simp)),split_line h]
   have e:=piece_fair (h c (by simp)) 0
   rw [if_neg (by omega)] at e
   rw [goF,e]
   dsimp only
   rw [go_fair r 1 _ (by omega) fun x hx=>h x (by simp [hx])]
   exact .inr rfl
end Go.Proofs.YtlfdjpgghiemfaaGreatDoor.LineP
end
section
namespace Go.Proofs.YtlfdjpgghiemfaaGreatDoor.LineB
open Go.RowKit Mem Abs TreeW SortP SortW SortM SortN LineA LineP
instance:DecidableEq Attr:=fun a b=>if h:a.name=b.name∧a.value=b.value then isTrue (by cases a;cases b;cases h.1;cases h.2;rfl) else isFalse (fun e=>h (by rw [e];exact ⟨rfl,rfl⟩))
def ekA:Ty:=(nth tb 60).get rfl
def ckP (c:Cookie):(List UInt8 × List UInt8 × List UInt8 × List UInt8) × (Bool × Bool × Bool × Bool) × (Int × Int × Int × Int × Int):=((c.name,c.value,c.domain,c.path),(c.hostOnly,c.secure,c.httpOnly,c.lasting),(c.site,c.expiry,c.created,c.used,c.no))
theorem ckP_inj {a b:Cookie} (h:ckP a=ckP b):a=b:=by
 obtain ⟨a1,a2,a3,a4,a5,a6,a7,a8,a9,a10,a11,a12,a13⟩:=a
 obtain ⟨b1,b2,b3,b4,b5,b6,b7,b8,b9,b10,b11,b12,b13⟩:=b
 simp only [ckP,Prod.mk.injEq] at h
 obtain ⟨⟨rfl,rfl,rfl,rfl⟩,⟨rfl,rfl,rfl,rfl⟩,⟨rfl,rfl,rfl,rfl,rfl⟩⟩:=h
 rfl
instance:DecidableEq Cookie:=fun a b=>if h:((a.name=b.name∧a.value=b.value∧a.domain=b.domain∧a.path=b.path)∧(a.hostOnly=b.hostOnly∧a.secure=b.secure∧a.httpOnly=b.httpOnly∧a.lasting=b.lasting))∧(a.site=b.site∧a.expiry=b.expiry∧a.created=b.created∧a.used=b.used∧a.no=b.no) then isTrue (ckP_inj (by obtain ⟨⟨⟨h1,h2,h3,h4⟩,h5,h6,h7,h8⟩,h9,h10,h11,h12,h13⟩:=h;unfold ckP;rw [h1,h2,h3,h4,h5,h6,h7,h8,h9,h10,h11,h12,h13])) else isFalse (fun e=>h (by subst e;simp))
def ekC:Ty:=(nth tb 46).get rfl
theorem eqS_bool (a b:Bool):eqS (.bool a) (.bool b)=(a==b):=rfl
theorem eqS_int (a b:Int):eqS (.int .i64 a) (.int .i64 b)=(a==b):=rfl
theorem eq_cookie (a b:Cookie):eqK ekC a.v b.v=decide (a=b):=by
 have h:eqK ekC a.v b.v=(eqS (strT a.name) (strT b.name)&&(eqS (strT a.value) (strT b.value)&&(eqS (strT a.domain) (strT b.domain)&&(eqS (strT a.path) (strT b.path)&&(eqS (.bool a.hostOnly) (.bool b.hostOnly)&&(eqS (.bool a.secure) (.bool b.secure)&&(eqS (.bool a.httpOnly) (.bool b.httpOnly)&&(eqS (.bool a.lasting) (.bool b.lasting)&&(eqS (.int .i64 a.site) (.int .i64 b.site)&&(eqS (.int .i64 a.expiry) (.int .i64 b.expiry)&&(eqS (.int .i64 a.created) (.int .i64 b.created)&&(eqS (.int .i64 a.used) (.int .i64 b.used)&&(eqS (.int .i64 a.no) (.int .i64 b.no)&&true))))))))))))):=rfl
 rw [h]
 simp only [eqS_str,eqS_bool,eqS_int,Bool.and_true]
 rw [Bool.eq_iff_iff,decide_eq_true_iff]
 simp only [Bool.and_eq_true,beq_iff_eq,decide_eq_true_eq]
 refine ⟨fun h=>ckP_inj ?_,fun h=>by subst h;simp⟩
 obtain ⟨h1,h2,h3,h4,h5,h6,h7,h8,h9,h10,h11,h12,h13⟩:=h
 unfold ckP
 rw [h1,h2,h3,h4,h5,h6,h7,h8,h9,h10,h11,h12,h13]
def crumbC (n p:List UInt8) (cr no:Int):Cookie:=⟨n,[118],[],p,false,false,false,false,0,0,cr,0,no⟩
end Go.Proofs.YtlfdjpgghiemfaaGreatDoor.LineB
end
