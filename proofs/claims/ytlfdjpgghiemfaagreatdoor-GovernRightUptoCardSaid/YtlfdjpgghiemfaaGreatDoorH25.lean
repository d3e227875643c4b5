/- Texts of the proof, joined: SortN, LineA, LineP. -/
import Derived.Test.YtlfdjpgghiemfaaGreatDoorH24
set_option maxHeartbeats 4000000
set_option maxRecDepth 100000
namespace Go.Proofs.YtlfdjpgghiemfaaGreatDoor
namespace Pt
open Go.RowKit Mem Abs nH nR SortM
variable {L:List ai} {a len b:Nat}
abbrev acO (len f:Nat):Prop:=∀ (L:List ai) (a m b:Nat),L.length=len→a<m→m<b→b≤len→b-a≤f→aK Tryz.prog 256 [.own 0 0 len,.int .i64 (a:Int),.int .i64 (m:Int),.int .i64 (b:Int),fnC] [eG L] (.tup []) [some (eG (lD dR f L a m b))]
theorem abp {m:Nat} (f:Nat) (hl:L.length=len) (hL:len≤140737488355328) (h1:a<m) (h2:m<b) (h3:b≤len) (hf:b-a≤f+1) (hc:¬ m-a=1) (hd:¬ b-m=1) (ih:acO len f):aK Tryz.prog 256 [.own 0 0 len,.int .i64 (a:Int),.int .i64 (m:Int),.int .i64 (b:Int),fnC] [eG L] (.tup []) [some (eG (lD dR (f+1) L a m b))]:=by
 rw [lD,if_neg hc,if_neg hd]
 have hs0:s0F a m b=if (a+b)/2<m then (a+b)/2+m-b else a:=rfl
 have hr0:rF a m b=if (a+b)/2<m then (a+b)/2 else m:=rfl
 have hp:∀ c x y,L[(a+b)/2+m-1-c]? = some y→L[c]? = some x→(fun c => !qQ dR L ((a+b)/2+m-1-c) c) c = !decide (cz y x<0):=fun c x y hy hx=>congrArg (!·) (AL hy hx)
 have hT:bs (fun c => !qQ dR L ((a+b)/2+m-1-c) c) (rF a m b-s0F a m b) (s0F a m b) (rF a m b)=sF dR L a m b:=rfl
 generalize (fun c => !qQ dR L ((a+b)/2+m-1-c) c)=p at *
 generalize s0F a m b=s0 at *
 generalize rF a m b=r0 at *
 generalize sF dR L a m b=T at *
 obtain ⟨w1,w2,w3,w4⟩:=half (i:=a) (j:=b) (by omega)
 have hmid:a<(a+b)/2∧(a+b)/2<b∧a+b≤2*((a+b)/2)+1∧2*((a+b)/2)≤a+b:=by omega
 generalize (a+b)/2=mid at *
 have hsr:s0≤r0∧a≤s0∧r0≤m∧r0≤mid∧mid+m≤s0+b:=by rw [hs0,hr0];split<;>omega
 have hb:=xW p (r0-s0) s0 r0 hsr.1 (Nat.le_refl _)
 rw [hT] at hb
 have i0:mid<m→(s0:Int)=(mid:Int)+(m:Int)-(b:Int)∧r0=mid:=fun h=>by rw [if_pos h] at hs0 hr0;omega
 have i1:¬ mid<m→s0=a∧r0=m:=fun h=>by rw [if_neg h] at hs0 hr0;omega
 clear hs0 hr0
 dsimp only
 have ee:((mid+m-T:Nat):Int)=(mid:Int)+(m:Int)-(T:Int):=by omega
 have n1:¬ (T<m∧m<mid+m-T)→qF L T m (mid+m-T)=L:=fun h=>if_neg h
 have c1:T<m→m<mid+m-T→aK Tryz.prog 267 [.own 0 0 len,.int .i64 (T:Int),.int .i64 (m:Int),.int .i64 ((mid:Int)+(m:Int)-(T:Int)),fnC] [eG L] (.tup []) [some (eG (qF L T m (mid+m-T)))]:=fun x y=>by
  unfold qF
  rw [if_pos ⟨x,y⟩,← ee]
  exact ac1 hl hL x y (by omega)
 have l1:(qF L T m (mid+m-T)).length=len:=Fh.trans hl
 generalize qF L T m (mid+m-T)=L1 at *
 have n2:¬ (a<T∧T<mid)→(if a<T∧T<mid then lD dR f L1 a T mid else L1)=L1:=fun h=>if_neg h
 have c2:a<T→T<mid→aK Tryz.prog 256 [.own 0 0 len,.int .i64 (a:Int),.int .i64 (T:Int),.int .i64 (mid:Int),fnC] [eG L1] (.tup []) [some (eG (if a<T∧T<mid then lD dR f L1 a T mid else L1))]:=fun x y=>by
  rw [if_pos ⟨x,y⟩]
  exact ih L1 a T mid l1 x y (by omega) (by omega)
 have l2:(if a<T∧T<mid then lD dR f L1 a T mid else L1).length=len:=by
  split
  ·exact (sJ _ _ _ _ _).trans l1
  ·exact l1
 generalize (if a<T∧T<mid then lD dR f L1 a T mid else L1)=L2 at *
 have n3:¬ (mid<mid+m-T∧mid+m-T<b)→(if mid<mid+m-T∧mid+m-T<b then lD dR f L2 mid (mid+m-T) b else L2)=L2:=fun h=>if_neg h
 have c3:mid<mid+m-T→mid+m-T<b→aK Tryz.prog 256 [.own 0 0 len,.int .i64 (mid:Int),.int .i64 ((mid:Int)+(m:Int)-(T:Int)),.int .i64 (b:Int),fnC] [eG L2] (.tup []) [some (eG (if mid<mid+m-T∧mid+m-T<b then lD dR f L2 mid (mid+m-T) b else L2))]:=fun x y=>by
  rw [if_pos ⟨x,y⟩,← ee]
  exact ih L2 mid (mid+m-T) b l2 x y h3 (by omega)
 generalize (if mid<mid+m-T∧mid+m-T<b then lD dR f L2 mid (mid+m-T) b else L2)=L3 at *
 clear ih
 refine bP af Tryz.func256 rfl Tryz.ntmps256 Tryz.results256 rfl rfl rfl rfl fun N pl=>?_
 repeat' (first
  | refine wU (id:=27) ((stM len a m b L [(18,.int .i64 (mid:Int)),(19,.int .i64 ((mid:Int)+(m:Int))),(20,.int .i64 (s0:Int)),(21,.int .i64 (r0:Int))])) ?_ ?_
  | with_reducible first|refine iW ?_|refine eP ?_|refine iL mixed ?_|refine mE ?_|refine iH ?_|refine gB ?_|refine iM ?_|refine jr ?_|refine gY ?_|refine fM ?_|refine iC ?_|refine tJ ?_|refine jo ?_|refine iA ?_|refine gZ rfl ?_|refine mI ?_
  | refine iD rfl ?_
  | refine fZ rfl ?_
  | refine fT rfl (fun hb=>?_) (fun hb=>?_)
  | (refine isR ?_;first|refine dQ [] af rfl ?_|refine qJ ?_|refine kX (by kernel_rfl) ?_|refine ny .u64 af ?_|refine vN ?_|refine ny .i64 af ?_|refine mq ?_|refine rD ?_|refine mX ?_|refine sZ ?_|refine rV ?_|refine mG ?_|refine mF ?_|refine rf (fun hc=>?_) (fun hc=>?_)|refine l6 ?_|refine ng ?_|refine rT (fun hc=>?_) (fun hc=>?_)|refine BJ ?_|refine C8 ?_|refine Lv (fun hc=>?_) (fun hc=>?_)|refine Cb ?_|refine xD ?_|refine xC ?_|refine Bt (fun hc=>?_) (fun hc=>?_)|refine Hz ?_|refine IA ?_|refine sw af ?_|refine tF af ?_|refine qY af ?_|refine mM af ?_|refine xq af ?_|refine Em af ?_|refine Ci af ?_|refine AB af (fun hc=>?_) (fun hc=>?_))
  | refine sO ?_
  | refine uV ?_)
 ·refine dP (α:=Nat × Nat) (fun x=>stM len a m b L [(18,.int .i64 (mid:Int)),(19,.int .i64 ((mid:Int)+(m:Int))),(20,.int .i64 (x.1:Int)),(21,.int .i64 (x.2:Int)),(22,.int .i64 ((mid:Int)+(m:Int)-1))]) (fun x=>s0≤x.1∧x.1≤x.2∧x.2≤r0∧∃ f,x.2-x.1≤f∧bs p f x.1 x.2=T) (fun x=>x.2-x.1) (s0,r0) (by exact ah) ⟨Nat.le_refl _,hsr.1,Nat.le_refl _,r0-s0,Nat.le_refl _,hT⟩ ?_
  rintro ⟨i,j⟩ ⟨g1,g2,g3,q,g4,g5⟩
  dsimp only at g1 g2 g3 g4 g5 ⊢
  by_cases hij:i<j
  ·clear c1 c2 c3 n1 n2 n3 i0 i1 hb w1 w2 w3 w4 ee l1 l2 hT
   obtain ⟨q,rfl,hq⟩:=VU (p:=p) hij g4
   rw [hq] at g5
   obtain ⟨x,e1⟩:∃ x,L[(i+j)/2]? = some x:=⟨_,List.getElem?_eq_getElem (by omega)⟩
   obtain ⟨y,e2⟩:∃ y,L[mid+m-1-(i+j)/2]? = some y:=⟨_,List.getElem?_eq_getElem (by omega)⟩
   rw [hp _ x y e2 e1] at g5
   obtain ⟨v1,v2,v3,v4⟩:=half (i:=i) (j:=j) (by omega)
   have hh:i≤(i+j)/2∧(i+j)/2<j:=by omega
   generalize (i+j)/2=h at *
   have c4:=O9 (x:=y) (y:=x)
   by_cases hz:cz y x<0
   ·rw [if_neg (by simpa using hz)] at g5
    repeat' (first
     | with_reducible first|refine iW ?_|refine eP ?_|refine iL mixed ?_|refine mE ?_|refine iH ?_|refine gB ?_|refine iM ?_|refine jr ?_|refine gY ?_|refine fM ?_|refine iC ?_|refine tJ ?_|refine jo ?_|refine iA ?_|refine gZ rfl ?_|refine mI ?_
     | refine iD rfl ?_
     | refine fZ rfl ?_
     | refine fT rfl (fun hb=>?_) (fun hb=>?_)
     | (refine isR ?_;first|refine dQ [] af rfl ?_|refine qJ ?_|refine kX (by kernel_rfl) ?_|refine ny .u64 af ?_|refine vN ?_|refine ny .i64 af ?_|refine cZ ai.v (mid+m-1-h) af ?_|refine cZ ai.v h af ?_|refine ak (c4 _) ?_|refine ak (c4) ?_|refine mq ?_|refine rD ?_|refine mX ?_|refine sZ ?_|refine rV ?_|refine mG ?_|refine mF ?_|refine rf (fun hc=>?_) (fun hc=>?_)|refine l6 ?_|refine ng ?_|refine rT (fun hc=>?_) (fun hc=>?_)|refine BJ ?_|refine C8 ?_|refine Lv (fun hc=>?_) (fun hc=>?_)|refine Cb ?_|refine xD ?_|refine xC ?_|refine Bt (fun hc=>?_) (fun hc=>?_)|refine Hz ?_|refine IA ?_|refine sw af ?_|refine tF af ?_|refine qY af ?_|refine mM af ?_|refine xq af ?_|refine Em af ?_|refine Ci af ?_|refine AB af (fun hc=>?_) (fun hc=>?_))
     | refine sO ?_
     | refine uV ?_
     | exact ah)
    refine ⟨(i,h),⟨g1,by dsimp only;omega,by dsimp only;omega,q,by dsimp only;omega,g5⟩,by dsimp only;omega,?_⟩
    exact (by exact ah)
   ·rw [if_pos (by simpa using hz)] at g5
    repeat' (first
     | with_reducible first|refine iW ?_|refine eP ?_|refine iL mixed ?_|refine mE ?_|refine iH ?_|refine gB ?_|refine iM ?_|refine jr ?_|refine gY ?_|refine fM ?_|refine iC ?_|refine tJ ?_|refine jo ?_|refine iA ?_|refine gZ rfl ?_|refine mI ?_
     | refine iD rfl ?_
     | refine fZ rfl ?_
     | refine fT rfl (fun hb=>?_) (fun hb=>?_)
     | (refine isR ?_;first|refine dQ [] af rfl ?_|refine qJ ?_|refine kX (by kernel_rfl) ?_|refine ny .u64 af ?_|refine vN ?_|refine ny .i64 af ?_|refine cZ ai.v (mid+m-1-h) af ?_|refine cZ ai.v h af ?_|refine ak (c4 _) ?_|refine ak (c4) ?_|refine mq ?_|refine rD ?_|refine mX ?_|refine sZ ?_|refine rV ?_|refine mG ?_|refine mF ?_|refine rf (fun hc=>?_) (fun hc=>?_)|refine l6 ?_|refine ng ?_|refine rT (fun hc=>?_) (fun hc=>?_)|refine BJ ?_|refine C8 ?_|refine Lv (fun hc=>?_) (fun hc=>?_)|refine Cb ?_|refine xD ?_|refine xC ?_|refine Bt (fun hc=>?_) (fun hc=>?_)|refine Hz ?_|refine IA ?_|refine sw af ?_|refine tF af ?_|refine qY af ?_|refine mM af ?_|refine xq af ?_|refine Em af ?_|refine Ci af ?_|refine AB af (fun hc=>?_) (fun hc=>?_))
     | refine sO ?_
     | refine uV ?_
     | exact ah)
    refine ⟨(h+1,j),⟨by dsimp only;omega,by dsimp only;omega,g3,q,by dsimp only;omega,g5⟩,by dsimp only;omega,?_⟩
    exact (by exact ah)
  ·rw [NW hij] at g5
   subst g5
   clear hp hT hb i0 i1 w1 w2 w3 w4 l1 l2 hl g4
   have k1:i≤m∧i≤mid:=by omega
   clear g1 g2 g3 hsr
   repeat' (first
    | refine wU (id:=39) ((stM len a m b L1 [(18,.int .i64 (mid:Int)),(20,.int .i64 (i:Int)),(24,.int .i64 ((mid:Int)+(m:Int)-(i:Int)))])) ?_ ?_
    | refine wU (id:=41) ((stM len a m b L2 [(18,.int .i64 (mid:Int)),(24,.int .i64 ((mid:Int)+(m:Int)-(i:Int)))])) ?_ ?_
    | with_reducible first|refine iW ?_|refine eP ?_|refine iL mixed ?_|refine mE ?_|refine iH ?_|refine gB ?_|refine iM ?_|refine jr ?_|refine gY ?_|refine fM ?_|refine iC ?_|refine tJ ?_|refine jo ?_|refine iA ?_|refine gZ rfl ?_|refine mI ?_
    | refine iD rfl ?_
    | refine fZ rfl ?_
    | refine fT rfl (fun hb=>?_) (fun hb=>?_)
    | (refine isR ?_;first|refine dQ [] af rfl ?_|refine qJ ?_|refine kX (by kernel_rfl) ?_|refine x_m [0] [] (c1 (by omega) (by omega) _) ?_|refine Qm [0] [] (c1 (by omega) (by omega) _) ?_|refine x_m [0] [] (c1 (by omega) (by omega)) ?_|refine Qm [0] [] (c1 (by omega) (by omega)) ?_|refine x_m [0] [] (c2 (by omega) (by omega) _) ?_|refine Qm [0] [] (c2 (by omega) (by omega) _) ?_|refine x_m [0] [] (c2 (by omega) (by omega)) ?_|refine Qm [0] [] (c2 (by omega) (by omega)) ?_|refine x_m [0] [] (c3 (by omega) (by omega) _) ?_|refine Qm [0] [] (c3 (by omega) (by omega) _) ?_|refine x_m [0] [] (c3 (by omega) (by omega)) ?_|refine Qm [0] [] (c3 (by omega) (by omega)) ?_|refine mq ?_|refine rD ?_|refine mX ?_|refine sZ ?_|refine rV ?_|refine mG ?_|refine mF ?_|refine rf (fun hc=>?_) (fun hc=>?_)|refine l6 ?_|refine ng ?_|refine rT (fun hc=>?_) (fun hc=>?_)|refine BJ ?_|refine C8 ?_|refine Lv (fun hc=>?_) (fun hc=>?_)|refine Cb ?_|refine xD ?_|refine xC ?_|refine Bt (fun hc=>?_) (fun hc=>?_)|refine Hz ?_|refine IA ?_|refine sw af ?_|refine tF af ?_|refine qY af ?_|refine mM af ?_|refine xq af ?_|refine Em af ?_|refine Ci af ?_|refine AB af (fun hc=>?_) (fun hc=>?_))
    | refine aA [0] ?_ ?_
    | refine T9 [0] ?_ ?_
    | refine sO ?_
    | refine uV ?_)
   all_goals first
    | rfl
    | exact .on (.same (aT fun _=>rfl)) .nil
    | (rw [n3 (by omega)];exact .on (.same (aT fun _=>rfl)) .nil)
    | (rw [n2 (by omega)];exact (by exact ah))
    | (rw [n1 (by omega)];exact (by exact ah))
    | exact (by exact ah)
 ·obtain ⟨k1,k2⟩:=i0 (by omega)
  rw [k1,k2]
  exact (by exact ah)
 ·obtain ⟨k1,k2⟩:=i1 (by omega)
  rw [k1,k2]
  exact (by exact ah)
theorem Ur {len:Nat} (hL:len≤140737488355328):∀ f,acO len f
 | 0=>fun L a m b hl h1 h2 h3 hf=>by omega
 | f+1=>fun L a m b hl h1 h2 h3 hf=>by
  by_cases hc:m-a=1
  ·exact aa0 f hl hL h1 h2 h3 hc
  ·by_cases hd:b-m=1
   ·exact aa4 f hl hL h1 h2 h3 hc hd
   ·exact abp f hl hL h1 h2 h3 hf hc hd (Ur hL f)
theorem aau (hl:L.length=len) (hL:len≤140737488355328) (h1:a≤b) (h2:b≤len):aK Tryz.prog 255 [.own 0 0 len,.int .i64 (a:Int),.int .i64 (b:Int),fnC] [eG L] (.tup []) [some (eG (ins dR L a b))]:=by
 unfold ins
 refine bP af Tryz.func255 rfl Tryz.ntmps255 Tryz.results255 rfl rfl rfl rfl fun N pl=>?_
 repeat' (first
  | with_reducible first|refine iW ?_|refine eP ?_|refine iL mixed ?_|refine mE ?_|refine iH ?_|refine gB ?_|refine iM ?_|refine jr ?_|refine gY ?_|refine fM ?_|refine iC ?_|refine tJ ?_|refine jo ?_|refine iA ?_|refine gZ rfl ?_|refine mI ?_
  | refine iD rfl ?_
  | refine fZ rfl ?_
  | refine fT rfl (fun hb=>?_) (fun hb=>?_)
  | (refine isR ?_;first|refine dQ [] af rfl ?_|refine qJ ?_|refine kX (by kernel_rfl) ?_|refine mq ?_|refine rD ?_|refine mX ?_|refine sZ ?_|refine rV ?_|refine mG ?_|refine mF ?_|refine rf (fun hc=>?_) (fun hc=>?_)|refine l6 ?_|refine ng ?_|refine rT (fun hc=>?_) (fun hc=>?_)|refine sw af ?_|refine tF af ?_|refine qY af ?_|refine mM af ?_)
  | refine sO ?_
  | refine uV ?_
  | exact ah)
 refine dP (α:=Nat × List ai) (fun x=>⟨[(0,.own 0 0 len),(1,.int .i64 (a:Int)),(2,.int .i64 (b:Int)),(3,fnC),(8,.int .i64 (x.1:Int))],[(0,some (eG x.2))],1,53⟩) (fun x=>a<x.1∧x.1≤len+1∧x.2.length=len∧wW dR a (b-x.1) x.1 x.2=wW dR a (b-(a+1)) (a+1) L) (fun x=>b-x.1) (a+1,L) ?h0 ⟨by dsimp only;omega,by dsimp only;omega,hl,rfl⟩ ?_
 case h0=>exact (by exact ah)
 rintro ⟨i,M⟩ ⟨g1,g2,g3,g4⟩
 dsimp only at g1 g2 g3 g4 ⊢
 by_cases hi:i<b
 ·repeat' (first
   | with_reducible first|refine iW ?_|refine eP ?_|refine iL mixed ?_|refine mE ?_|refine iH ?_|refine gB ?_|refine iM ?_|refine jr ?_|refine gY ?_|refine fM ?_|refine iC ?_|refine tJ ?_|refine jo ?_|refine iA ?_|refine gZ rfl ?_|refine mI ?_
   | refine iD rfl ?_
   | refine fZ rfl ?_
   | refine fT rfl (fun hb=>?_) (fun hb=>?_)
   | (refine isR ?_;first|refine dQ [] af rfl ?_|refine qJ ?_|refine kX (by kernel_rfl) ?_|refine mq ?_|refine rD ?_|refine mX ?_|refine sZ ?_|refine rV ?_|refine mG ?_|refine mF ?_|refine rf (fun hc=>?_) (fun hc=>?_)|refine l6 ?_|refine ng ?_|refine rT (fun hc=>?_) (fun hc=>?_)|refine sw af ?_|refine tF af ?_|refine qY af ?_|refine mM af ?_)
   | refine sO ?_
   | refine uV ?_
   | exact ah)
  refine dP (α:=Nat × List ai) (fun x=>⟨[(0,.own 0 0 len),(1,.int .i64 (a:Int)),(2,.int .i64 (b:Int)),(3,fnC),(8,.int .i64 (i:Int)),(9,.int .i64 (x.1:Int))],[(0,some (eG x.2))],1,53⟩) (fun x=>x.1≤i∧x.2.length=len∧y9 dR a x.1 x.2=y9 dR a i M) (fun x=>x.1) (i,M) (by exact ah) ⟨Nat.le_refl _,g3,rfl⟩ ?_
  rintro ⟨j,W⟩ ⟨k1,k2,k3⟩
  dsimp only at k1 k2 k3 ⊢
  by_cases hj:a<j
  ·obtain ⟨j,rfl⟩:∃ q,j=q+1:=⟨j-1,by omega⟩
   obtain ⟨x,y,z,m1,m2,m3,m4⟩:=two (M:=W) (i:=j+1) (j:=j) (by omega) (by omega)
   have c1:=O9 (x:=x) (y:=y)
   have ek:((j:Nat):Int)=((j+1:Nat):Int)-1:=by omega
   rw [y9,AL m1 m2] at k3
   by_cases hz:cz x y<0
   ·rw [if_pos ⟨hj,by simpa using hz⟩] at k3
    repeat' (first
     | with_reducible first|refine iW ?_|refine eP ?_|refine iL mixed ?_|refine mE ?_|refine iH ?_|refine gB ?_|refine iM ?_|refine jr ?_|refine gY ?_|refine fM ?_|refine iC ?_|refine tJ ?_|refine jo ?_|refine iA ?_|refine gZ rfl ?_|refine mI ?_
     | refine iD rfl ?_
     | refine fZ rfl ?_
     | refine fT rfl (fun hb=>?_) (fun hb=>?_)
     | (refine isR ?_;first|refine dQ [] af rfl ?_|refine qJ ?_|refine kX (by kernel_rfl) ?_|refine cZ ai.v (j+1) af ?_|refine cZ ai.v j af ?_|refine ak (c1 _) ?_|refine ak (c1) ?_|refine kD ai.v (a1:=y) (j+1) af ?_|refine kD ai.v (a1:=x) j af ?_|refine mq ?_|refine rD ?_|refine mX ?_|refine sZ ?_|refine rV ?_|refine mG ?_|refine mF ?_|refine rf (fun hc=>?_) (fun hc=>?_)|refine l6 ?_|refine ng ?_|refine rT (fun hc=>?_) (fun hc=>?_)|refine sw af ?_|refine tF af ?_|refine qY af ?_|refine mM af ?_)
     | refine sO ?_
     | refine uV ?_
     | exact ah)
    refine ⟨(j,(W.set (j+1) y).set j x),⟨by dsimp only;omega,by simp [k2],?_⟩,by dsimp only;omega,?_⟩
    ·show y9 dR a j _=_
     rw [← k3,← m4]
    ·dsimp only
     rw [ek]
     exact (by exact ah)
   ·rw [if_neg (fun h=>hz (by simpa using h.2))] at k3
    repeat' (first
     | with_reducible first|refine iW ?_|refine eP ?_|refine iL mixed ?_|refine mE ?_|refine iH ?_|refine gB ?_|refine iM ?_|refine jr ?_|refine gY ?_|refine fM ?_|refine iC ?_|refine tJ ?_|refine jo ?_|refine iA ?_|refine gZ rfl ?_|refine mI ?_
     | refine iD rfl ?_
     | refine fZ rfl ?_
     | refine fT rfl (fun hb=>?_) (fun hb=>?_)
     | (refine isR ?_;first|refine dQ [] af rfl ?_|refine qJ ?_|refine kX (by kernel_rfl) ?_|refine cZ ai.v (j+1) af ?_|refine cZ ai.v j af ?_|refine ak (c1 _) ?_|refine ak (c1) ?_|refine mq ?_|refine rD ?_|refine mX ?_|refine sZ ?_|refine rV ?_|refine mG ?_|refine mF ?_|refine rf (fun hc=>?_) (fun hc=>?_)|refine l6 ?_|refine ng ?_|refine rT (fun hc=>?_) (fun hc=>?_)|refine sw af ?_|refine tF af ?_|refine qY af ?_|refine mM af ?_)
     | refine sO ?_
     | refine uV ?_
     | exact ah)
    refine ⟨(i+1,W),⟨by dsimp only;omega,by dsimp only;omega,k2,?_⟩,by dsimp only;omega,?_⟩
    ·show wW dR a (b-(i+1)) (i+1) W=_
     rw [← g4,show b-i=(b-(i+1))+1 by omega,wW,← k3]
    ·exact (by exact ah)
  ·have h0:y9 dR a j W=W:=by
    cases j with
    | zero=>rfl
    | succ j=>rw [y9,if_neg (fun h=>hj h.1)]
   rw [h0] at k3
   repeat' (first
    | with_reducible first|refine iW ?_|refine eP ?_|refine iL mixed ?_|refine mE ?_|refine iH ?_|refine gB ?_|refine iM ?_|refine jr ?_|refine gY ?_|refine fM ?_|refine iC ?_|refine tJ ?_|refine jo ?_|refine iA ?_|refine gZ rfl ?_|refine mI ?_
    | refine iD rfl ?_
    | refine fZ rfl ?_
    | refine fT rfl (fun hb=>?_) (fun hb=>?_)
    | (refine isR ?_;first|refine dQ [] af rfl ?_|refine qJ ?_|refine kX (by kernel_rfl) ?_|refine mq ?_|refine rD ?_|refine mX ?_|refine sZ ?_|refine rV ?_|refine mG ?_|refine mF ?_|refine rf (fun hc=>?_) (fun hc=>?_)|refine l6 ?_|refine ng ?_|refine rT (fun hc=>?_) (fun hc=>?_)|refine sw af ?_|refine tF af ?_|refine qY af ?_|refine mM af ?_)
    | refine sO ?_
    | refine uV ?_
    | exact ah)
   refine ⟨(i+1,W),⟨by dsimp only;omega,by dsimp only;omega,k2,?_⟩,by dsimp only;omega,?_⟩
   ·show wW dR a (b-(i+1)) (i+1) W=_
    rw [← g4,show b-i=(b-(i+1))+1 by omega,wW,← k3]
   ·exact (by exact ah)
 ·rw [show b-i=0 by omega,wW] at g4
  rw [← g4]
  repeat' (first
   | with_reducible first|refine iW ?_|refine eP ?_|refine iL mixed ?_|refine mE ?_|refine iH ?_|refine gB ?_|refine iM ?_|refine jr ?_|refine gY ?_|refine fM ?_|refine iC ?_|refine tJ ?_|refine jo ?_|refine iA ?_|refine gZ rfl ?_|refine mI ?_
   | refine iD rfl ?_
   | refine fZ rfl ?_
   | refine fT rfl (fun hb=>?_) (fun hb=>?_)
   | (refine isR ?_;first|refine dQ [] af rfl ?_|refine qJ ?_|refine kX (by kernel_rfl) ?_|refine mq ?_|refine rD ?_|refine mX ?_|refine sZ ?_|refine rV ?_|refine mG ?_|refine mF ?_|refine rf (fun hc=>?_) (fun hc=>?_)|refine l6 ?_|refine ng ?_|refine rT (fun hc=>?_) (fun hc=>?_)|refine sw af ?_|refine tF af ?_|refine qY af ?_|refine mM af ?_)
   | refine aA [0] ?_ ?_
   | refine T9 [0] ?_ ?_
   | refine sO ?_
   | refine uV ?_
   | exact ah)
  ·rfl
  ·exact .on (.same (aT fun _=>rfl)) .nil
end Pt
section
namespace Abs
open Go.RowKit Mem Facts
section
variable {P:Program} {tb:List Ty} {N:Env} {Q:Exit→S→Prop} {s:S}
variable {xs:List V}
theorem MJ {X A:Nat→Prop} {φ:Nat→Pl} {w:World} {v:Value} (h:Rep X A φ w (.fro xs) v):∃ a n c,v = .slice a n c∧(a=none→xs=[]):=by
 cases h with
 | fz h=>cases h with
  | fro0 h=>exact ⟨_,_,_,rfl,fun _=>rfl⟩
  | fro c h1=>exact ⟨_,_,_,rfl,fun h=>by cases h⟩
theorem yc {id d1 d2 T el:Nat} {T':TypeId} {x:Operand} {o1 o2:Oper} {e:Ty} (htb:aL P tb) (k:∀ b,(b=true→xs=[])→Q .normal ⟨(d2,.bool b)::(d1,.fro xs)::s.tm,s.st,s.nx,s.nt⟩) (ho1:o1.op = .move x:=by rfl) (hx:s.ev x=some (.fro xs):=by rfl) (hg1:o1.guard=none:=by rfl) (hd1:o1.dst=some d1:=by rfl) (l1:Nat.blt d1 s.nt=true:=by rfl) (ho2:o2.op = .binOp .eql T (.tmp d1) (.const (.slice none 0 0)) T':=by rfl) (hg2:o2.guard=none:=by rfl) (hd2:o2.dst=some d2:=by rfl) (l2:Nat.blt d2 s.nt=true:=by rfl) (hT:nth tb T=some e:=by rfl) (hs:e.sl=some el:=by rfl):AWp P N (.region id #[o1,o2] false) Q s:=fun M φ a w hr=>by
 refine wp_region_lit (l:=[o1,o2]) (wpList_step fun K hK=>?_)
 rw [if_pos (dX (s:=s) (b:=true) (by unfold ax;rw [hg1]) hr)]
 have hv:=hr.ev hx
 have r1:(execOp a.eval o1).run P w = .ok (.value (a.eval x)) w:=by unfold execOp;simp only [ho1];rfl
 unfold Oper.wp
 rw [r1]
 refine hK _ _ (wpList_step fun K2 hK2=>?_)
 have hr1:Rel N M (· < s.nx) φ (s.eff o1.dst (.fro xs) [] s.nx) (a.put o1.dst (a.eval x)) w:=eX hr hv fun d h=>by rw [hd1] at h;cases h;exact kV l1
 rw [if_pos (dX (s:=s.eff o1.dst (.fro xs) [] s.nx) (b:=true) (by unfold ax;rw [hg2]) hr1)]
 have hv1:Rep (fun b=>M b∨N b) (· < s.nx) φ w (.fro xs) ((a.put o1.dst (a.eval x)).eval (.tmp d1)):=hr1.ev (by rw [hd1];simp [S.ev,S.eff,lk])
 obtain ⟨A,n,c,he,hA⟩:=MJ hv1
 obtain ⟨ti,d,ht⟩:=aV htb hT
 have r2:(execOp (a.put o1.dst (a.eval x)).eval o2).run P w = .ok (.value (.bool A.isNone)) w:=by
  have hq:=Lib.run_eql_slice_nil (P:=P) w T el A n c 0 0 (dF ht hs)
  have hc:(a.put o1.dst (a.eval x)).eval (.const (.slice none 0 0)) = .slice none 0 0:=rfl
  unfold execOp
  simp only [ho2,he,hc,eqGuard]
  simp only [Sem.run_bind,Bool.not_true,Bool.false_eq_true,if_false,Sem.run_pure,Result.andThen_ok,hq]
 unfold Oper.wp
 rw [r2]
 refine hK2 _ _ (wpList_nil ⟨M,φ,_,.refl _ w,fun _ _ h=>h,?_,k A.isNone fun h=>hA (by simpa using h)⟩)
 have hr2:=eX hr1 (dst:=o2.dst) (v:=.bool A.isNone) (x:=.bool A.isNone) (nx:=s.nx) (.fz .bool) fun d h=>by rw [hd2] at h;cases h;exact kV l2
 exact hr2.as (fun t=>by rw [hd1,hd2];rfl) (fun _=>rfl) rfl
end
end Abs
namespace zP
open Go.RowKit Mem Abs nH nR SortM Pt
variable {L:List ai} {len:Nat}
theorem Uv (hl:L.length=len) (hL:len≤140737488355328):aK Tryz.prog 235 [.own 0 0 len,.int .i64 (len:Int),fnC] [eG L] (.tup []) [some (eG (nD dR L))]:=by
 unfold nD
 rw [hl]
 have hi:=Dm (lt:=dR) (n:=len) (len+1) 0 L
 rw [hl] at hi
 generalize hI:E5 dR len (len+1) 0 L=L1 at *
 refine bP af Tryz.func235 rfl Tryz.ntmps235 Tryz.results235 rfl rfl rfl rfl fun N pl=>?_
 repeat' (first|refine zt ?_|(refine isR ?_;first|refine zo ?_|refine zX ?_)|exact ah)
 refine dP (α:=Nat × List ai) (fun x=>⟨[(0,.own 0 0 len),(1,.int .i64 (len:Int)),(2,fnC),(6,.int .i64 20),(7,.int .i64 (x.1:Int)),(8,.int .i64 ((x.1:Int)+20))],[(0,some (eG x.2))],1,63⟩) (fun x=>x.1≤len∧x.2.length=len∧∃ f,len-x.1<f∧E5 dR len f x.1 x.2=L1) (fun x=>len-x.1) (0,L) (by exact ah) ⟨Nat.zero_le _,hl,len+1,by dsimp only;omega,hI⟩ ?_
 rintro ⟨a,M⟩ ⟨g1,g2,f,g3,g4⟩
 dsimp only at g1 g2 g3 g4 ⊢
 obtain ⟨f,rfl⟩:∃ q,f=q+1:=⟨f-1,by omega⟩
 rw [E5] at g4
 by_cases ha:a+20≤len
 ·rw [if_pos ha] at g4
  have c1:=aau (L:=M) (a:=a) (b:=a+20) g2 hL (by omega) ha
  have e1:((a+20:Nat):Int)=(a:Int)+20:=by omega
  rw [e1] at c1
  repeat' (first|refine zt ?_|(refine isR ?_;first|refine zo ?_|refine x_m [0] [] (c1 _) ?_|refine x_m [0] [] (c1) ?_|refine zX ?_)|exact ah)
  refine ⟨(a+20,ins dR M a (a+20)),⟨ha,Ia.trans g2,f,by dsimp only;omega,g4⟩,by dsimp only;omega,?_⟩
  dsimp only
  rw [e1]
  exact (by exact ah)
 ·rw [if_neg ha] at g4
  have c1:=aau (L:=M) (a:=a) (b:=len) g2 hL g1 (Nat.le_refl _)
  rw [g4] at c1
  repeat' (first|refine zt ?_|(refine isR ?_;first|refine zo ?_|refine x_m [0] [] (c1 _) ?_|refine x_m [0] [] (c1) ?_|refine zX ?_)|exact ah)
  generalize hO:jl dR len len 20 L1=L2 at *
  refine dP (α:=Nat × List ai) (fun x=>⟨[(0,.own 0 0 len),(1,.int .i64 (len:Int)),(2,fnC),(6,.int .i64 (x.1:Int))],[(0,some (eG x.2))],1,63⟩) (fun x=>0<x.1∧x.1≤2*len+20∧x.2.length=len∧∃ f,len≤x.1+f∧jl dR len f x.1 x.2=L2) (fun x=>len-x.1) (20,L1) ?h0 ⟨by dsimp only;omega,by dsimp only;omega,hi,len,by dsimp only;omega,hO⟩ ?_
  case h0=>exact (by exact ah)
  rintro ⟨k,W⟩ ⟨k1,k2,k3,q,k4,k5⟩
  dsimp only at k1 k2 k3 k4 k5 ⊢
  by_cases hk:k<len
  ·obtain ⟨q,rfl⟩:∃ z,q=z+1:=⟨q-1,by omega⟩
   rw [jl,if_pos hk] at k5
   have hp:=yN (lt:=dR) (n:=len) (k:=k) (len+1) 0 W
   generalize hP:uX dR len k (len+1) 0 W=W1 at *
   repeat' (first|refine zt ?_|(refine isR ?_;first|refine zo ?_|refine zX ?_)|exact ah)
   refine dP (α:=Nat × List ai) (fun x=>⟨[(0,.own 0 0 len),(1,.int .i64 (len:Int)),(2,fnC),(6,.int .i64 (k:Int)),(7,.int .i64 (x.1:Int)),(8,.int .i64 ((x.1:Int)+2*(k:Int)))],[(0,some (eG x.2))],1,63⟩) (fun x=>x.1≤len∧x.2.length=len∧∃ f,len-x.1<f∧uX dR len k f x.1 x.2=W1) (fun x=>len-x.1) (0,W) ?h1 ⟨Nat.zero_le _,k3,len+1,by dsimp only;omega,hP⟩ ?_
   case h1 =>
    have e0:2*(k:Int)=(((0:Nat):Int))+2*(k:Int):=by omega
    dsimp only
    rw [← e0]
    exact (by exact ah)
   rintro ⟨a,V⟩ ⟨m1,m2,f,m3,m4⟩
   dsimp only at m1 m2 m3 m4 ⊢
   obtain ⟨f,rfl⟩:∃ z,f=z+1:=⟨f-1,by omega⟩
   rw [uX] at m4
   have e2:((a+k:Nat):Int)=(a:Int)+(k:Int):=by omega
   have e3:((a+2*k:Nat):Int)=(a:Int)+2*(k:Int):=by omega
   by_cases hb:a+2*k≤len
   ·rw [if_pos hb] at m4
    have d1:=Ur hL (2*k) V a (a+k) (a+2*k) m2 (by omega) (by omega) hb (by omega)
    rw [e2,e3] at d1
    clear c1 g4 hI hO hP
    repeat' (first|refine zt ?_|(refine isR ?_;first|refine zo ?_|refine x_m [0] [] (d1 _) ?_|refine x_m [0] [] (d1) ?_|refine zX ?_)|exact ah)
    refine ⟨(a+2*k,lD dR (2*k) V a (a+k) (a+2*k)),⟨hb,(sJ _ _ _ _ _).trans m2,f,by dsimp only;omega,m4⟩,by dsimp only;omega,?_⟩
    dsimp only
    rw [e3]
    exact (by exact ah)
   ·rw [if_neg hb] at m4
    have e4:((2*k:Nat):Int)=(k:Int)*2:=by omega
    by_cases hc:a+k<len
    ·rw [if_pos hc] at m4
     have d1:=Ur hL (len-a) V a (a+k) len m2 (by omega) hc (Nat.le_refl _) (Nat.le_refl _)
     rw [e2,m4] at d1
     clear c1 g4 hI hO hP
     repeat' (first|refine zt ?_|(refine isR ?_;first|refine zo ?_|refine x_m [0] [] (d1 _) ?_|refine x_m [0] [] (d1) ?_|refine zX ?_)|exact ah)
     refine ⟨(2*k,W1),⟨by dsimp only;omega,by dsimp only;omega,by dsimp only;omega,q,by dsimp only;omega,k5⟩,by dsimp only;omega,?_⟩
     dsimp only
     rw [e4]
     exact (by exact ah)
    ·rw [if_neg hc] at m4
     clear c1 g4 hI hO hP
     subst m4
     repeat' (first|refine zt ?_|(refine isR ?_;first|refine zo ?_|refine zX ?_)|exact ah)
     refine ⟨(2*k,V),⟨by dsimp only;omega,by dsimp only;omega,m2,q,by dsimp only;omega,k5⟩,by dsimp only;omega,?_⟩
     dsimp only
     rw [e4]
     exact (by exact ah)
  ·have e5:jl dR len q k W=W:=by
    cases q with
    | zero=>rfl
    | succ q=>rw [jl,if_neg hk]
   rw [e5] at k5
   subst k5
   clear c1 g4 hI hO
   repeat' (first|refine zt ?_|(refine isR ?_;first|refine zo ?_|refine zX ?_)|refine aA [0] ?_ ?_|exact ah)
   ·rfl
   ·exact .on (.same (aT fun _=>rfl)) .nil
theorem GN (hl:L.length=len) (hL:len≤140737488355328):aK Tryz.prog 193 [.own 0 0 len,fnC] [eG L] (.tup []) [some (eG (nD dR L))]:=by
 have c1:=Uv hl hL
 generalize nD dR L=L1 at *
 refine bP af Tryz.func193 rfl Tryz.ntmps193 Tryz.results193 rfl rfl rfl rfl fun N pl=>?_
 repeat' (first|refine zt ?_|(refine isR ?_;first|refine zo ?_|refine x_m [0] [] (c1 _) ?_|refine x_m [0] [] (c1) ?_|refine zL ?_)|refine aA [0] ?_ ?_|exact ah)
 ·rfl
 ·exact .on (.same (aT fun _=>rfl)) .nil
theorem II (hb:L.length*112≤140737488355328):aK Tryz.prog 78 [.fro (L.map ai.v)] [] (.own 0 0 L.length) [some (eG L)]:=by
 have hl:L.length≤140737488355328:=by omega
 refine bP af Tryz.func78 rfl Tryz.ntmps78 Tryz.results78 rfl rfl rfl rfl fun N pl=>?_
 repeat' (first|refine yc af (fun b hq=>?_)|(with_reducible refine kP (c:=Code.ret) (t:=2) CK 13 (by decide) rfl rfl ?_)|refine aA [1] ?_ ?_|refine zt ?_|(refine isR ?_;first|refine dQ [5] af rfl ?_|refine zn ?_|refine Ic ai.v (L:=[]) (K':=L) af ?_|refine Pe 5 af ?_)|(refine zq ?_ ?_<;>intro hb)|refine aA [0] ?_ ?_|exact ah)
 all_goals first
  | (have hn:=hq hb;simp only [List.map_eq_nil_iff] at hn;subst hn;first|rfl|exact .on (.same rfl) .nil)
  | rfl
  | exact .on (.same (aT fun _=>rfl)) .nil
theorem ML (hb:L.length*112≤140737488355328):aj Tryz.prog 145 [.fro (L.map ai.v)] (.fro ((nD dR L).map ai.v)):=by
 have c1:=II hb
 have c2:=GN (L:=L) rfl (by omega)
 have hl:(nD dR L).length=L.length:=FV
 generalize nD dR L=M at *
 rw [← hl] at c1 c2
 refine aU af Tryz.func145 rfl Tryz.ntmps145 Tryz.results145 rfl fun N=>?_
 repeat' (first|refine zt ?_|(refine isR ?_;first|refine zo ?_|refine x_m [] [0] (c1 _) ?_|refine x_m [] [0] (c1) ?_|refine x_m [0] [] (c2 _) ?_|refine x_m [0] [] (c2) ?_)|refine zr ?_|exact ah)
 show V.fro (List.take M.length (List.drop 0 (M.map ai.v)))=_
 rw [List.drop_zero,List.take_of_length_le (by simp)]
end zP
end
namespace nA
open Go.RowKit Mem Abs nH nR bH dn dV
variable {r:List ai}
def ckT (c:ai):List UInt8:=(c.name++[61])++c.value
def fw:List ai→List UInt8
 | []=>[]
 | [c]=>ckT c
 | c::r=>ckT c++([59,32]++fw r)
theorem pW (c:ai) (h:r≠[]):fw (c::r)=ckT c++([59,32]++fw r):=by
 cases r with
 | nil=>exact absurd rfl h
 | cons=>rfl
theorem D8:∀ (r:List ai) (c:ai),fw (r++[c])=if r=[] then ckT c else (fw r++[59,32])++ckT c
 | [],c=>by simp [fw]
 | [d],c=>by simp [fw]
 | d::e::r,c=>by
  have h:=D8 (e::r) c
  rw [if_neg (by simp)] at h ⊢
  rw [List.cons_append,pW d (by simp),h,pW d (by simp)]
  simp
theorem SH (c:ai):ckT c≠[]:=by unfold ckT;simp
theorem Xb (h:r≠[]):fw r≠[]:=by
 cases r with
 | nil=>exact absurd rfl h
 | cons c r =>
  cases r with
  | nil=>exact SH c
  | cons d r=>rw [pW c (by simp)];simp [SH]
def Ml (L:List ai):Prop:=L.length≤1048576∧∀ c∈L,c.name.length≤1048576∧c.value.length≤1048576
theorem Fq:∀ {L:List ai},(∀ c∈L,c.name.length≤1048576∧c.value.length≤1048576)→(fw L).length≤L.length*2097155
 | [],_=>by simp [fw]
 | [c],h=>by
  have:=h c (by simp)
  simp [fw,ckT];omega
 | c::d::r,h=>by
  have h1:=h c (by simp)
  have h2:=Fq (L:=d::r) fun x hx=>h x (by simp [hx])
  rw [pW c (by simp)]
  simp only [List.length_append,List.length_cons,List.length_nil,ckT] at h2 ⊢
  omega
end nA
end Go.Proofs.YtlfdjpgghiemfaaGreatDoor
