/- Texts of the proof, joined: SortN, LineA, LineP, LineB. -/
import Derived.Test.YtlfdjpgghiemfaaGreatDoorG24
set_option maxHeartbeats 4000000
set_option maxRecDepth 100000
namespace Go.Proofs.YtlfdjpgghiemfaaGreatDoor
namespace OZ
open Go.RowKit Mem Abs nU oL SortM
variable {len:Nat} {L:List ah} {a b:Nat}
abbrev acX (len f:Nat):Prop:=∀ (L:List ah) (a m b:Nat),L.length=len→a<m→m<b→b≤len→b-a≤f→aK Tryz.prog 256 [.own 0 0 len,.int .i64 (a:Int),.int .i64 (m:Int),.int .i64 (b:Int),fnC] [dZ L] (.tup []) [some (dZ (jA dJ f L a m b))]
theorem ab0 {m:Nat} (f:Nat) (hl:L.length=len) (hL:len≤140737488355328) (h1:a<m) (h2:m<b) (h3:b≤len) (hf:b-a≤f+1) (hc:¬ m-a=1) (hd:¬ b-m=1) (ih:acX len f):aK Tryz.prog 256 [.own 0 0 len,.int .i64 (a:Int),.int .i64 (m:Int),.int .i64 (b:Int),fnC] [dZ L] (.tup []) [some (dZ (jA dJ (f+1) L a m b))]:=by
 rw [jA,if_neg hc,if_neg hd]
 have hs0:s0F a m b=if (a+b)/2<m then (a+b)/2+m-b else a:=rfl
 have hr0:rF a m b=if (a+b)/2<m then (a+b)/2 else m:=rfl
 have hp:∀ c x y,L[(a+b)/2+m-1-c]? = some y→L[c]? = some x→(fun c => !iN dJ L ((a+b)/2+m-1-c) c) c = !decide (cz y x<0):=fun c x y hy hx=>congrArg (!·) (Az hy hx)
 have hT:bs (fun c => !iN dJ L ((a+b)/2+m-1-c) c) (rF a m b-s0F a m b) (s0F a m b) (rF a m b)=sF dJ L a m b:=rfl
 generalize (fun c => !iN dJ L ((a+b)/2+m-1-c) c)=p at *
 generalize s0F a m b=s0 at *
 generalize rF a m b=r0 at *
 generalize sF dJ L a m b=T at *
 obtain ⟨w1,w2,w3,w4⟩:=half (i:=a) (j:=b) (by omega)
 have hmid:a<(a+b)/2∧(a+b)/2<b∧a+b≤2*((a+b)/2)+1∧2*((a+b)/2)≤a+b:=by omega
 generalize (a+b)/2=mid at *
 have hsr:s0≤r0∧a≤s0∧r0≤m∧r0≤mid∧mid+m≤s0+b:=by rw [hs0,hr0];split<;>omega
 have hb:=nE p (r0-s0) s0 r0 hsr.1 (Nat.le_refl _)
 rw [hT] at hb
 have i0:mid<m→(s0:Int)=(mid:Int)+(m:Int)-(b:Int)∧r0=mid:=fun h=>by rw [if_pos h] at hs0 hr0;omega
 have i1:¬ mid<m→s0=a∧r0=m:=fun h=>by rw [if_neg h] at hs0 hr0;omega
 clear hs0 hr0
 dsimp only
 have ee:((mid+m-T:Nat):Int)=(mid:Int)+(m:Int)-(T:Int):=by omega
 have n1:¬ (T<m∧m<mid+m-T)→nK L T m (mid+m-T)=L:=fun h=>if_neg h
 have c1:T<m→m<mid+m-T→aK Tryz.prog 267 [.own 0 0 len,.int .i64 (T:Int),.int .i64 (m:Int),.int .i64 ((mid:Int)+(m:Int)-(T:Int)),fnC] [dZ L] (.tup []) [some (dZ (nK L T m (mid+m-T)))]:=fun x y=>by
  unfold nK
  rw [if_pos ⟨x,y⟩,← ee]
  exact acz hl hL x y (by omega)
 have l1:(nK L T m (mid+m-T)).length=len:=FH.trans hl
 generalize nK L T m (mid+m-T)=L1 at *
 have n2:¬ (a<T∧T<mid)→(if a<T∧T<mid then jA dJ f L1 a T mid else L1)=L1:=fun h=>if_neg h
 have c2:a<T→T<mid→aK Tryz.prog 256 [.own 0 0 len,.int .i64 (a:Int),.int .i64 (T:Int),.int .i64 (mid:Int),fnC] [dZ L1] (.tup []) [some (dZ (if a<T∧T<mid then jA dJ f L1 a T mid else L1))]:=fun x y=>by
  rw [if_pos ⟨x,y⟩]
  exact ih L1 a T mid l1 x y (by omega) (by omega)
 have l2:(if a<T∧T<mid then jA dJ f L1 a T mid else L1).length=len:=by
  split
  ·exact (qK _ _ _ _ _).trans l1
  ·exact l1
 generalize (if a<T∧T<mid then jA dJ f L1 a T mid else L1)=L2 at *
 have n3:¬ (mid<mid+m-T∧mid+m-T<b)→(if mid<mid+m-T∧mid+m-T<b then jA dJ f L2 mid (mid+m-T) b else L2)=L2:=fun h=>if_neg h
 have c3:mid<mid+m-T→mid+m-T<b→aK Tryz.prog 256 [.own 0 0 len,.int .i64 (mid:Int),.int .i64 ((mid:Int)+(m:Int)-(T:Int)),.int .i64 (b:Int),fnC] [dZ L2] (.tup []) [some (dZ (if mid<mid+m-T∧mid+m-T<b then jA dJ f L2 mid (mid+m-T) b else L2))]:=fun x y=>by
  rw [if_pos ⟨x,y⟩,← ee]
  exact ih L2 mid (mid+m-T) b l2 x y h3 (by omega)
 generalize (if mid<mid+m-T∧mid+m-T<b then jA dJ f L2 mid (mid+m-T) b else L2)=L3 at *
 clear ih
 refine bL af Tryz.func256 rfl Tryz.ntmps256 Tryz.results256 rfl rfl rfl rfl fun N pl=>?_
 repeat' (first
   | refine xL (id:=27) ((stM len a m b L [(18,.int .i64 (mid:Int)),(19,.int .i64 ((mid:Int)+(m:Int))),(20,.int .i64 (s0:Int)),(21,.int .i64 (r0:Int))])) ?_ ?_
   | with_reducible first|refine iQ ?_|refine eD ?_|refine iB mixed ?_|refine mr ?_|refine iD ?_|refine fE ?_|refine iF ?_|refine jf ?_|refine gT ?_|refine fO ?_|refine iy ?_|refine rD ?_|refine jy ?_|refine ic ?_|refine gM rfl ?_|refine mg ?_
   | refine iC rfl ?_
   | refine fJ rfl ?_
   | refine dB rfl (fun hb=>?_) (fun hb=>?_)
   | (refine isR ?_;first|refine dP [] af rfl ?_|refine qz ?_|refine kP (by kernel_rfl) ?_|refine mZ .u64 af ?_|refine vR ?_|refine mZ .i64 af ?_|refine mQ ?_|refine sQ ?_|refine mF ?_|refine qQ ?_|refine qY ?_|refine l5 ?_|refine mq ?_|refine sM (fun hc=>?_) (fun hc=>?_)|refine lZ ?_|refine mM ?_|refine rE (fun hc=>?_) (fun hc=>?_)|refine DL ?_|refine Eo ?_|refine KD (fun hc=>?_) (fun hc=>?_)|refine Cw ?_|refine xW ?_|refine xU ?_|refine Dz (fun hc=>?_) (fun hc=>?_)|refine I9 ?_|refine G7 ?_|refine qO af ?_|refine rX af ?_|refine rq af ?_|refine mR af ?_|refine yg af ?_|refine BN af ?_|refine CZ af ?_|refine Ak af (fun hc=>?_) (fun hc=>?_))
   | refine rA ?_
   | refine uR ?_)
 ·refine dO (α:=Nat × Nat) (fun x=>stM len a m b L [(18,.int .i64 (mid:Int)),(19,.int .i64 ((mid:Int)+(m:Int))),(20,.int .i64 (x.1:Int)),(21,.int .i64 (x.2:Int)),(22,.int .i64 ((mid:Int)+(m:Int)-1))]) (fun x=>s0≤x.1∧x.1≤x.2∧x.2≤r0∧∃ f,x.2-x.1≤f∧bs p f x.1 x.2=T) (fun x=>x.2-x.1) (s0,r0) (by exact ai) ⟨Nat.le_refl _,hsr.1,Nat.le_refl _,r0-s0,Nat.le_refl _,hT⟩ ?_
  rintro ⟨i,j⟩ ⟨g1,g2,g3,q,g4,g5⟩
  dsimp only at g1 g2 g3 g4 g5 ⊢
  by_cases hij:i<j
  ·clear c1 c2 c3 n1 n2 n3 i0 i1 hb w1 w2 w3 w4 ee l1 l2 hT
   obtain ⟨q,rfl,hq⟩:=Tf (p:=p) hij g4
   rw [hq] at g5
   obtain ⟨x,e1⟩:∃ x,L[(i+j)/2]? = some x:=⟨_,List.getElem?_eq_getElem (by omega)⟩
   obtain ⟨y,e2⟩:∃ y,L[mid+m-1-(i+j)/2]? = some y:=⟨_,List.getElem?_eq_getElem (by omega)⟩
   rw [hp _ x y e2 e1] at g5
   obtain ⟨v1,v2,v3,v4⟩:=half (i:=i) (j:=j) (by omega)
   have hh:i≤(i+j)/2∧(i+j)/2<j:=by omega
   generalize (i+j)/2=h at *
   have c4:=Ov (x:=y) (y:=x)
   by_cases hz:cz y x<0
   ·rw [if_neg (by simpa using hz)] at g5
    repeat' (first
      | with_reducible first|refine iQ ?_|refine eD ?_|refine iB mixed ?_|refine mr ?_|refine iD ?_|refine fE ?_|refine iF ?_|refine jf ?_|refine gT ?_|refine fO ?_|refine iy ?_|refine rD ?_|refine jy ?_|refine ic ?_|refine gM rfl ?_|refine mg ?_
      | refine iC rfl ?_
      | refine fJ rfl ?_
      | refine dB rfl (fun hb=>?_) (fun hb=>?_)
      | (refine isR ?_;first|refine dP [] af rfl ?_|refine qz ?_|refine kP (by kernel_rfl) ?_|refine mZ .u64 af ?_|refine vR ?_|refine mZ .i64 af ?_|refine cO ah.v (mid+m-1-h) af ?_|refine cO ah.v h af ?_|refine ak (c4 _) ?_|refine ak (c4) ?_|refine mQ ?_|refine sQ ?_|refine mF ?_|refine qQ ?_|refine qY ?_|refine l5 ?_|refine mq ?_|refine sM (fun hc=>?_) (fun hc=>?_)|refine lZ ?_|refine mM ?_|refine rE (fun hc=>?_) (fun hc=>?_)|refine DL ?_|refine Eo ?_|refine KD (fun hc=>?_) (fun hc=>?_)|refine Cw ?_|refine xW ?_|refine xU ?_|refine Dz (fun hc=>?_) (fun hc=>?_)|refine I9 ?_|refine G7 ?_|refine qO af ?_|refine rX af ?_|refine rq af ?_|refine mR af ?_|refine yg af ?_|refine BN af ?_|refine CZ af ?_|refine Ak af (fun hc=>?_) (fun hc=>?_))
      | refine rA ?_
      | refine uR ?_
      | exact ai)
    refine ⟨(i,h),⟨g1,by dsimp only;omega,by dsimp only;omega,q,by dsimp only;omega,g5⟩,by dsimp only;omega,?_⟩
    exact (by exact ai)
   ·rw [if_pos (by simpa using hz)] at g5
    repeat' (first
      | with_reducible first|refine iQ ?_|refine eD ?_|refine iB mixed ?_|refine mr ?_|refine iD ?_|refine fE ?_|refine iF ?_|refine jf ?_|refine gT ?_|refine fO ?_|refine iy ?_|refine rD ?_|refine jy ?_|refine ic ?_|refine gM rfl ?_|refine mg ?_
      | refine iC rfl ?_
      | refine fJ rfl ?_
      | refine dB rfl (fun hb=>?_) (fun hb=>?_)
      | (refine isR ?_;first|refine dP [] af rfl ?_|refine qz ?_|refine kP (by kernel_rfl) ?_|refine mZ .u64 af ?_|refine vR ?_|refine mZ .i64 af ?_|refine cO ah.v (mid+m-1-h) af ?_|refine cO ah.v h af ?_|refine ak (c4 _) ?_|refine ak (c4) ?_|refine mQ ?_|refine sQ ?_|refine mF ?_|refine qQ ?_|refine qY ?_|refine l5 ?_|refine mq ?_|refine sM (fun hc=>?_) (fun hc=>?_)|refine lZ ?_|refine mM ?_|refine rE (fun hc=>?_) (fun hc=>?_)|refine DL ?_|refine Eo ?_|refine KD (fun hc=>?_) (fun hc=>?_)|refine Cw ?_|refine xW ?_|refine xU ?_|refine Dz (fun hc=>?_) (fun hc=>?_)|refine I9 ?_|refine G7 ?_|refine qO af ?_|refine rX af ?_|refine rq af ?_|refine mR af ?_|refine yg af ?_|refine BN af ?_|refine CZ af ?_|refine Ak af (fun hc=>?_) (fun hc=>?_))
      | refine rA ?_
      | refine uR ?_
      | exact ai)
    refine ⟨(h+1,j),⟨by dsimp only;omega,by dsimp only;omega,g3,q,by dsimp only;omega,g5⟩,by dsimp only;omega,?_⟩
    exact (by exact ai)
  ·rw [LH hij] at g5
   subst g5
   clear hp hT hb i0 i1 w1 w2 w3 w4 l1 l2 hl g4
   have k1:i≤m∧i≤mid:=by omega
   clear g1 g2 g3 hsr
   repeat' (first
     | refine xL (id:=39) ((stM len a m b L1 [(18,.int .i64 (mid:Int)),(20,.int .i64 (i:Int)),(24,.int .i64 ((mid:Int)+(m:Int)-(i:Int)))])) ?_ ?_
     | refine xL (id:=41) ((stM len a m b L2 [(18,.int .i64 (mid:Int)),(24,.int .i64 ((mid:Int)+(m:Int)-(i:Int)))])) ?_ ?_
     | with_reducible first|refine iQ ?_|refine eD ?_|refine iB mixed ?_|refine mr ?_|refine iD ?_|refine fE ?_|refine iF ?_|refine jf ?_|refine gT ?_|refine fO ?_|refine iy ?_|refine rD ?_|refine jy ?_|refine ic ?_|refine gM rfl ?_|refine mg ?_
     | refine iC rfl ?_
     | refine fJ rfl ?_
     | refine dB rfl (fun hb=>?_) (fun hb=>?_)
     | (refine isR ?_;first|refine dP [] af rfl ?_|refine qz ?_|refine kP (by kernel_rfl) ?_|refine x_m [0] [] (c1 (by omega) (by omega) _) ?_|refine PS [0] [] (c1 (by omega) (by omega) _) ?_|refine x_m [0] [] (c1 (by omega) (by omega)) ?_|refine PS [0] [] (c1 (by omega) (by omega)) ?_|refine x_m [0] [] (c2 (by omega) (by omega) _) ?_|refine PS [0] [] (c2 (by omega) (by omega) _) ?_|refine x_m [0] [] (c2 (by omega) (by omega)) ?_|refine PS [0] [] (c2 (by omega) (by omega)) ?_|refine x_m [0] [] (c3 (by omega) (by omega) _) ?_|refine PS [0] [] (c3 (by omega) (by omega) _) ?_|refine x_m [0] [] (c3 (by omega) (by omega)) ?_|refine PS [0] [] (c3 (by omega) (by omega)) ?_|refine mQ ?_|refine sQ ?_|refine mF ?_|refine qQ ?_|refine qY ?_|refine l5 ?_|refine mq ?_|refine sM (fun hc=>?_) (fun hc=>?_)|refine lZ ?_|refine mM ?_|refine rE (fun hc=>?_) (fun hc=>?_)|refine DL ?_|refine Eo ?_|refine KD (fun hc=>?_) (fun hc=>?_)|refine Cw ?_|refine xW ?_|refine xU ?_|refine Dz (fun hc=>?_) (fun hc=>?_)|refine I9 ?_|refine G7 ?_|refine qO af ?_|refine rX af ?_|refine rq af ?_|refine mR af ?_|refine yg af ?_|refine BN af ?_|refine CZ af ?_|refine Ak af (fun hc=>?_) (fun hc=>?_))
     | refine aA [0] ?_ ?_
     | refine TA [0] ?_ ?_
     | refine rA ?_
     | refine uR ?_)
   all_goals first
    | rfl
    | exact .on (.same (aT fun _=>rfl)) .nil
    | (rw [n3 (by omega)];exact .on (.same (aT fun _=>rfl)) .nil)
    | (rw [n2 (by omega)];exact (by exact ai))
    | (rw [n1 (by omega)];exact (by exact ai))
    | exact (by exact ai)
 ·obtain ⟨k1,k2⟩:=i0 (by omega)
  rw [k1,k2]
  exact (by exact ai)
 ·obtain ⟨k1,k2⟩:=i1 (by omega)
  rw [k1,k2]
  exact (by exact ai)
theorem UI {len:Nat} (hL:len≤140737488355328):∀ f,acX len f
 | 0=>fun L a m b hl h1 h2 h3 hf=>by omega
 | f+1=>fun L a m b hl h1 h2 h3 hf=>by
  by_cases hc:m-a=1
  ·exact Z6 f hl hL h1 h2 h3 hc
  ·by_cases hd:b-m=1
   ·exact aak f hl hL h1 h2 h3 hc hd
   ·exact ab0 f hl hL h1 h2 h3 hf hc hd (UI hL f)
theorem ZO (hl:L.length=len) (hL:len≤140737488355328) (h1:a≤b) (h2:b≤len):aK Tryz.prog 255 [.own 0 0 len,.int .i64 (a:Int),.int .i64 (b:Int),fnC] [dZ L] (.tup []) [some (dZ (ins dJ L a b))]:=by
 unfold ins
 refine bL af Tryz.func255 rfl Tryz.ntmps255 Tryz.results255 rfl rfl rfl rfl fun N pl=>?_
 repeat' (first
   | with_reducible first|refine iQ ?_|refine eD ?_|refine iB mixed ?_|refine mr ?_|refine iD ?_|refine fE ?_|refine iF ?_|refine jf ?_|refine gT ?_|refine fO ?_|refine iy ?_|refine rD ?_|refine jy ?_|refine ic ?_|refine gM rfl ?_|refine mg ?_
   | refine iC rfl ?_
   | refine fJ rfl ?_
   | refine dB rfl (fun hb=>?_) (fun hb=>?_)
   | (refine isR ?_;first|refine dP [] af rfl ?_|refine qz ?_|refine kP (by kernel_rfl) ?_|refine mQ ?_|refine sQ ?_|refine mF ?_|refine qQ ?_|refine qY ?_|refine l5 ?_|refine mq ?_|refine sM (fun hc=>?_) (fun hc=>?_)|refine lZ ?_|refine mM ?_|refine rE (fun hc=>?_) (fun hc=>?_)|refine qO af ?_|refine rX af ?_|refine rq af ?_|refine mR af ?_)
   | refine rA ?_
   | refine uR ?_
   | exact ai)
 refine dO (α:=Nat × List ah) (fun x=>⟨[(0,.own 0 0 len),(1,.int .i64 (a:Int)),(2,.int .i64 (b:Int)),(3,fnC),(8,.int .i64 (x.1:Int))],[(0,some (dZ x.2))],1,53⟩) (fun x=>a<x.1∧x.1≤len+1∧x.2.length=len∧qj dJ a (b-x.1) x.1 x.2=qj dJ a (b-(a+1)) (a+1) L) (fun x=>b-x.1) (a+1,L) ?h0 ⟨by dsimp only;omega,by dsimp only;omega,hl,rfl⟩ ?_
 case h0=>exact (by exact ai)
 rintro ⟨i,M⟩ ⟨g1,g2,g3,g4⟩
 dsimp only at g1 g2 g3 g4 ⊢
 by_cases hi:i<b
 ·repeat' (first
    | with_reducible first|refine iQ ?_|refine eD ?_|refine iB mixed ?_|refine mr ?_|refine iD ?_|refine fE ?_|refine iF ?_|refine jf ?_|refine gT ?_|refine fO ?_|refine iy ?_|refine rD ?_|refine jy ?_|refine ic ?_|refine gM rfl ?_|refine mg ?_
    | refine iC rfl ?_
    | refine fJ rfl ?_
    | refine dB rfl (fun hb=>?_) (fun hb=>?_)
    | (refine isR ?_;first|refine dP [] af rfl ?_|refine qz ?_|refine kP (by kernel_rfl) ?_|refine mQ ?_|refine sQ ?_|refine mF ?_|refine qQ ?_|refine qY ?_|refine l5 ?_|refine mq ?_|refine sM (fun hc=>?_) (fun hc=>?_)|refine lZ ?_|refine mM ?_|refine rE (fun hc=>?_) (fun hc=>?_)|refine qO af ?_|refine rX af ?_|refine rq af ?_|refine mR af ?_)
    | refine rA ?_
    | refine uR ?_
    | exact ai)
  refine dO (α:=Nat × List ah) (fun x=>⟨[(0,.own 0 0 len),(1,.int .i64 (a:Int)),(2,.int .i64 (b:Int)),(3,fnC),(8,.int .i64 (i:Int)),(9,.int .i64 (x.1:Int))],[(0,some (dZ x.2))],1,53⟩) (fun x=>x.1≤i∧x.2.length=len∧qG dJ a x.1 x.2=qG dJ a i M) (fun x=>x.1) (i,M) (by exact ai) ⟨Nat.le_refl _,g3,rfl⟩ ?_
  rintro ⟨j,W⟩ ⟨k1,k2,k3⟩
  dsimp only at k1 k2 k3 ⊢
  by_cases hj:a<j
  ·obtain ⟨j,rfl⟩:∃ q,j=q+1:=⟨j-1,by omega⟩
   obtain ⟨x,y,z,m1,m2,m3,m4⟩:=two (M:=W) (i:=j+1) (j:=j) (by omega) (by omega)
   have c1:=Ov (x:=x) (y:=y)
   have ek:((j:Nat):Int)=((j+1:Nat):Int)-1:=by omega
   rw [qG,Az m1 m2] at k3
   by_cases hz:cz x y<0
   ·rw [if_pos ⟨hj,by simpa using hz⟩] at k3
    repeat' (first
      | with_reducible first|refine iQ ?_|refine eD ?_|refine iB mixed ?_|refine mr ?_|refine iD ?_|refine fE ?_|refine iF ?_|refine jf ?_|refine gT ?_|refine fO ?_|refine iy ?_|refine rD ?_|refine jy ?_|refine ic ?_|refine gM rfl ?_|refine mg ?_
      | refine iC rfl ?_
      | refine fJ rfl ?_
      | refine dB rfl (fun hb=>?_) (fun hb=>?_)
      | (refine isR ?_;first|refine dP [] af rfl ?_|refine qz ?_|refine kP (by kernel_rfl) ?_|refine cO ah.v (j+1) af ?_|refine cO ah.v j af ?_|refine ak (c1 _) ?_|refine ak (c1) ?_|refine jY ah.v (a1:=y) (j+1) af ?_|refine jY ah.v (a1:=x) j af ?_|refine mQ ?_|refine sQ ?_|refine mF ?_|refine qQ ?_|refine qY ?_|refine l5 ?_|refine mq ?_|refine sM (fun hc=>?_) (fun hc=>?_)|refine lZ ?_|refine mM ?_|refine rE (fun hc=>?_) (fun hc=>?_)|refine qO af ?_|refine rX af ?_|refine rq af ?_|refine mR af ?_)
      | refine rA ?_
      | refine uR ?_
      | exact ai)
    refine ⟨(j,(W.set (j+1) y).set j x),⟨by dsimp only;omega,by simp [k2],?_⟩,by dsimp only;omega,?_⟩
    ·show qG dJ a j _=_
     rw [← k3,← m4]
    ·dsimp only
     rw [ek]
     exact (by exact ai)
   ·rw [if_neg (fun h=>hz (by simpa using h.2))] at k3
    repeat' (first
      | with_reducible first|refine iQ ?_|refine eD ?_|refine iB mixed ?_|refine mr ?_|refine iD ?_|refine fE ?_|refine iF ?_|refine jf ?_|refine gT ?_|refine fO ?_|refine iy ?_|refine rD ?_|refine jy ?_|refine ic ?_|refine gM rfl ?_|refine mg ?_
      | refine iC rfl ?_
      | refine fJ rfl ?_
      | refine dB rfl (fun hb=>?_) (fun hb=>?_)
      | (refine isR ?_;first|refine dP [] af rfl ?_|refine qz ?_|refine kP (by kernel_rfl) ?_|refine cO ah.v (j+1) af ?_|refine cO ah.v j af ?_|refine ak (c1 _) ?_|refine ak (c1) ?_|refine mQ ?_|refine sQ ?_|refine mF ?_|refine qQ ?_|refine qY ?_|refine l5 ?_|refine mq ?_|refine sM (fun hc=>?_) (fun hc=>?_)|refine lZ ?_|refine mM ?_|refine rE (fun hc=>?_) (fun hc=>?_)|refine qO af ?_|refine rX af ?_|refine rq af ?_|refine mR af ?_)
      | refine rA ?_
      | refine uR ?_
      | exact ai)
    refine ⟨(i+1,W),⟨by dsimp only;omega,by dsimp only;omega,k2,?_⟩,by dsimp only;omega,?_⟩
    ·show qj dJ a (b-(i+1)) (i+1) W=_
     rw [← g4,show b-i=(b-(i+1))+1 by omega,qj,← k3]
    ·exact (by exact ai)
  ·have h0:qG dJ a j W=W:=by
    cases j with
    | zero=>rfl
    | succ j=>rw [qG,if_neg (fun h=>hj h.1)]
   rw [h0] at k3
   repeat' (first
     | with_reducible first|refine iQ ?_|refine eD ?_|refine iB mixed ?_|refine mr ?_|refine iD ?_|refine fE ?_|refine iF ?_|refine jf ?_|refine gT ?_|refine fO ?_|refine iy ?_|refine rD ?_|refine jy ?_|refine ic ?_|refine gM rfl ?_|refine mg ?_
     | refine iC rfl ?_
     | refine fJ rfl ?_
     | refine dB rfl (fun hb=>?_) (fun hb=>?_)
     | (refine isR ?_;first|refine dP [] af rfl ?_|refine qz ?_|refine kP (by kernel_rfl) ?_|refine mQ ?_|refine sQ ?_|refine mF ?_|refine qQ ?_|refine qY ?_|refine l5 ?_|refine mq ?_|refine sM (fun hc=>?_) (fun hc=>?_)|refine lZ ?_|refine mM ?_|refine rE (fun hc=>?_) (fun hc=>?_)|refine qO af ?_|refine rX af ?_|refine rq af ?_|refine mR af ?_)
     | refine rA ?_
     | refine uR ?_
     | exact ai)
   refine ⟨(i+1,W),⟨by dsimp only;omega,by dsimp only;omega,k2,?_⟩,by dsimp only;omega,?_⟩
   ·show qj dJ a (b-(i+1)) (i+1) W=_
    rw [← g4,show b-i=(b-(i+1))+1 by omega,qj,← k3]
   ·exact (by exact ai)
 ·rw [show b-i=0 by omega,qj] at g4
  rw [← g4]
  repeat' (first
    | with_reducible first|refine iQ ?_|refine eD ?_|refine iB mixed ?_|refine mr ?_|refine iD ?_|refine fE ?_|refine iF ?_|refine jf ?_|refine gT ?_|refine fO ?_|refine iy ?_|refine rD ?_|refine jy ?_|refine ic ?_|refine gM rfl ?_|refine mg ?_
    | refine iC rfl ?_
    | refine fJ rfl ?_
    | refine dB rfl (fun hb=>?_) (fun hb=>?_)
    | (refine isR ?_;first|refine dP [] af rfl ?_|refine qz ?_|refine kP (by kernel_rfl) ?_|refine mQ ?_|refine sQ ?_|refine mF ?_|refine qQ ?_|refine qY ?_|refine l5 ?_|refine mq ?_|refine sM (fun hc=>?_) (fun hc=>?_)|refine lZ ?_|refine mM ?_|refine rE (fun hc=>?_) (fun hc=>?_)|refine qO af ?_|refine rX af ?_|refine rq af ?_|refine mR af ?_)
    | refine aA [0] ?_ ?_
    | refine TA [0] ?_ ?_
    | refine rA ?_
    | refine uR ?_
    | exact ai)
  ·rfl
  ·exact .on (.same (aT fun _=>rfl)) .nil
end OZ
section
namespace Abs
open Go.RowKit Mem Facts
section
variable {P:Program} {tb:List Ty} {N:Env} {Q:Exit→S→Prop} {s:S}
variable {xs:List V}
theorem NM {X A:Nat→Prop} {φ:Nat→Pl} {w:World} {v:Value} (h:Rep X A φ w (.fro xs) v):∃ a n c,v = .slice a n c∧(a=none→xs=[]):=by
 cases h with
 | fz h=>cases h with
  | fro0 h=>exact ⟨_,_,_,rfl,fun _=>rfl⟩
  | fro c h1=>exact ⟨_,_,_,rfl,fun h=>by cases h⟩
theorem wP {id d1 d2 T el:Nat} {T':TypeId} {x:Operand} {o1 o2:Oper} {e:Ty} (htb:aL P tb) (k:∀ b,(b=true→xs=[])→Q .normal ⟨(d2,.bool b)::(d1,.fro xs)::s.tm,s.st,s.nx,s.nt⟩) (ho1:o1.op = .move x:=by rfl) (hx:s.ev x=some (.fro xs):=by rfl) (hg1:o1.guard=none:=by rfl) (hd1:o1.dst=some d1:=by rfl) (l1:Nat.blt d1 s.nt=true:=by rfl) (ho2:o2.op = .binOp .eql T (.tmp d1) (.const (.slice none 0 0)) T':=by rfl) (hg2:o2.guard=none:=by rfl) (hd2:o2.dst=some d2:=by rfl) (l2:Nat.blt d2 s.nt=true:=by rfl) (hT:nth tb T=some e:=by rfl) (hs:e.sl=some el:=by rfl):AWp P N (.region id #[o1,o2] false) Q s:=fun M φ a w hr=>by
 refine wp_region_lit (l:=[o1,o2]) (wpList_step fun K hK=>?_)
 rw [if_pos (dU (s:=s) (b:=true) (by unfold ax;rw [hg1]) hr)]
 have hv:=hr.ev hx
 have r1:(execOp a.eval o1).run P w = .ok (.value (a.eval x)) w:=by unfold execOp;simp only [ho1];rfl
 unfold Oper.wp
 rw [r1]
 refine hK _ _ (wpList_step fun K2 hK2=>?_)
 have hr1:Rel N M (· < s.nx) φ (s.eff o1.dst (.fro xs) [] s.nx) (a.put o1.dst (a.eval x)) w:=eF hr hv fun d h=>by rw [hd1] at h;cases h;exact kG l1
 rw [if_pos (dU (s:=s.eff o1.dst (.fro xs) [] s.nx) (b:=true) (by unfold ax;rw [hg2]) hr1)]
 have hv1:Rep (fun b=>M b∨N b) (· < s.nx) φ w (.fro xs) ((a.put o1.dst (a.eval x)).eval (.tmp d1)):=hr1.ev (by rw [hd1];simp [S.ev,S.eff,lk])
 obtain ⟨A,n,c,he,hA⟩:=NM hv1
 obtain ⟨ti,d,ht⟩:=aU htb hT
 have r2:(execOp (a.put o1.dst (a.eval x)).eval o2).run P w = .ok (.value (.bool A.isNone)) w:=by
  have hq:=Lib.run_eql_slice_nil (P:=P) w T el A n c 0 0 (dA ht hs)
  have hc:(a.put o1.dst (a.eval x)).eval (.const (.slice none 0 0)) = .slice none 0 0:=rfl
  unfold execOp
  simp only [ho2,he,hc,eqGuard]
  simp only [Sem.run_bind,Bool.not_true,Bool.false_eq_true,if_false,Sem.run_pure,Result.andThen_ok,hq]
 unfold Oper.wp
 rw [r2]
 refine hK2 _ _ (wpList_nil ⟨M,φ,_,.refl _ w,fun _ _ h=>h,?_,k A.isNone fun h=>hA (by simpa using h)⟩)
 have hr2:=eF hr1 (dst:=o2.dst) (v:=.bool A.isNone) (x:=.bool A.isNone) (nx:=s.nx) (.fz .bool) fun d h=>by rw [hd2] at h;cases h;exact kG l2
 exact hr2.as (fun t=>by rw [hd1,hd2];rfl) (fun _=>rfl) rfl
end
end Abs
namespace zP
open Go.RowKit Mem Abs nU oL SortM OZ
variable {len:Nat} {L:List ah}
theorem Ut (hl:L.length=len) (hL:len≤140737488355328):aK Tryz.prog 235 [.own 0 0 len,.int .i64 (len:Int),fnC] [dZ L] (.tup []) [some (dZ (jF dJ L))]:=by
 unfold jF
 rw [hl]
 have hi:=A7 (lt:=dJ) (n:=len) (len+1) 0 L
 rw [hl] at hi
 generalize hI:Ac dJ len (len+1) 0 L=L1 at *
 refine bL af Tryz.func235 rfl Tryz.ntmps235 Tryz.results235 rfl rfl rfl rfl fun N pl=>?_
 repeat' (first|refine zW ?_|exact ai)
 refine dO (α:=Nat × List ah) (fun x=>⟨[(0,.own 0 0 len),(1,.int .i64 (len:Int)),(2,fnC),(6,.int .i64 20),(7,.int .i64 (x.1:Int)),(8,.int .i64 ((x.1:Int)+20))],[(0,some (dZ x.2))],1,63⟩) (fun x=>x.1≤len∧x.2.length=len∧∃ f,len-x.1<f∧Ac dJ len f x.1 x.2=L1) (fun x=>len-x.1) (0,L) (by exact ai) ⟨Nat.zero_le _,hl,len+1,by dsimp only;omega,hI⟩ ?_
 rintro ⟨a,M⟩ ⟨g1,g2,f,g3,g4⟩
 dsimp only at g1 g2 g3 g4 ⊢
 obtain ⟨f,rfl⟩:∃ q,f=q+1:=⟨f-1,by omega⟩
 rw [Ac] at g4
 by_cases ha:a+20≤len
 ·rw [if_pos ha] at g4
  have c1:=ZO (L:=M) (a:=a) (b:=a+20) g2 hL (by omega) ha
  have e1:((a+20:Nat):Int)=(a:Int)+20:=by omega
  rw [e1] at c1
  repeat' (first|refine zV ?_|(refine isR ?_;first|refine x_m [0] [] (c1 _) ?_|refine x_m [0] [] (c1) ?_)|refine zW ?_|exact ai)
  refine ⟨(a+20,ins dJ M a (a+20)),⟨ha,Ie.trans g2,f,by dsimp only;omega,g4⟩,by dsimp only;omega,?_⟩
  dsimp only
  rw [e1]
  exact (by exact ai)
 ·rw [if_neg ha] at g4
  have c1:=ZO (L:=M) (a:=a) (b:=len) g2 hL g1 (Nat.le_refl _)
  rw [g4] at c1
  repeat' (first|refine zV ?_|(refine isR ?_;first|refine x_m [0] [] (c1 _) ?_|refine x_m [0] [] (c1) ?_)|refine zW ?_|exact ai)
  generalize hO:iO dJ len len 20 L1=L2 at *
  refine dO (α:=Nat × List ah) (fun x=>⟨[(0,.own 0 0 len),(1,.int .i64 (len:Int)),(2,fnC),(6,.int .i64 (x.1:Int))],[(0,some (dZ x.2))],1,63⟩) (fun x=>0<x.1∧x.1≤2*len+20∧x.2.length=len∧∃ f,len≤x.1+f∧iO dJ len f x.1 x.2=L2) (fun x=>len-x.1) (20,L1) ?h0 ⟨by dsimp only;omega,by dsimp only;omega,hi,len,by dsimp only;omega,hO⟩ ?_
  case h0=>exact (by exact ai)
  rintro ⟨k,W⟩ ⟨k1,k2,k3,q,k4,k5⟩
  dsimp only at k1 k2 k3 k4 k5 ⊢
  by_cases hk:k<len
  ·obtain ⟨q,rfl⟩:∃ z,q=z+1:=⟨q-1,by omega⟩
   rw [iO,if_pos hk] at k5
   have hp:=yH (lt:=dJ) (n:=len) (k:=k) (len+1) 0 W
   generalize hP:mG dJ len k (len+1) 0 W=W1 at *
   repeat' (first|refine zW ?_|exact ai)
   refine dO (α:=Nat × List ah) (fun x=>⟨[(0,.own 0 0 len),(1,.int .i64 (len:Int)),(2,fnC),(6,.int .i64 (k:Int)),(7,.int .i64 (x.1:Int)),(8,.int .i64 ((x.1:Int)+2*(k:Int)))],[(0,some (dZ x.2))],1,63⟩) (fun x=>x.1≤len∧x.2.length=len∧∃ f,len-x.1<f∧mG dJ len k f x.1 x.2=W1) (fun x=>len-x.1) (0,W) ?h1 ⟨Nat.zero_le _,k3,len+1,by dsimp only;omega,hP⟩ ?_
   case h1 =>
    have e0:2*(k:Int)=(((0:Nat):Int))+2*(k:Int):=by omega
    dsimp only
    rw [← e0]
    exact (by exact ai)
   rintro ⟨a,V⟩ ⟨m1,m2,f,m3,m4⟩
   dsimp only at m1 m2 m3 m4 ⊢
   obtain ⟨f,rfl⟩:∃ z,f=z+1:=⟨f-1,by omega⟩
   rw [mG] at m4
   have e2:((a+k:Nat):Int)=(a:Int)+(k:Int):=by omega
   have e3:((a+2*k:Nat):Int)=(a:Int)+2*(k:Int):=by omega
   by_cases hb:a+2*k≤len
   ·rw [if_pos hb] at m4
    have d1:=UI hL (2*k) V a (a+k) (a+2*k) m2 (by omega) (by omega) hb (by omega)
    rw [e2,e3] at d1
    clear c1 g4 hI hO hP
    repeat' (first|refine zV ?_|(refine isR ?_;first|refine x_m [0] [] (d1 _) ?_|refine x_m [0] [] (d1) ?_)|refine zW ?_|exact ai)
    refine ⟨(a+2*k,jA dJ (2*k) V a (a+k) (a+2*k)),⟨hb,(qK _ _ _ _ _).trans m2,f,by dsimp only;omega,m4⟩,by dsimp only;omega,?_⟩
    dsimp only
    rw [e3]
    exact (by exact ai)
   ·rw [if_neg hb] at m4
    have e4:((2*k:Nat):Int)=(k:Int)*2:=by omega
    by_cases hc:a+k<len
    ·rw [if_pos hc] at m4
     have d1:=UI hL (len-a) V a (a+k) len m2 (by omega) hc (Nat.le_refl _) (Nat.le_refl _)
     rw [e2,m4] at d1
     clear c1 g4 hI hO hP
     repeat' (first|refine zV ?_|(refine isR ?_;first|refine x_m [0] [] (d1 _) ?_|refine x_m [0] [] (d1) ?_)|refine zW ?_|exact ai)
     refine ⟨(2*k,W1),⟨by dsimp only;omega,by dsimp only;omega,by dsimp only;omega,q,by dsimp only;omega,k5⟩,by dsimp only;omega,?_⟩
     dsimp only
     rw [e4]
     exact (by exact ai)
    ·rw [if_neg hc] at m4
     clear c1 g4 hI hO hP
     subst m4
     repeat' (first|refine zW ?_|exact ai)
     refine ⟨(2*k,V),⟨by dsimp only;omega,by dsimp only;omega,m2,q,by dsimp only;omega,k5⟩,by dsimp only;omega,?_⟩
     dsimp only
     rw [e4]
     exact (by exact ai)
  ·have e5:iO dJ len q k W=W:=by
    cases q with
    | zero=>rfl
    | succ q=>rw [iO,if_neg hk]
   rw [e5] at k5
   subst k5
   clear c1 g4 hI hO
   repeat' (first|refine zW ?_|refine aA [0] ?_ ?_|exact ai)
   ·rfl
   ·exact .on (.same (aT fun _=>rfl)) .nil
theorem H7 (hl:L.length=len) (hL:len≤140737488355328):aK Tryz.prog 193 [.own 0 0 len,fnC] [dZ L] (.tup []) [some (dZ (jF dJ L))]:=by
 have c1:=Ut hl hL
 generalize jF dJ L=L1 at *
 refine bL af Tryz.func193 rfl Tryz.ntmps193 Tryz.results193 rfl rfl rfl rfl fun N pl=>?_
 repeat' (first|refine zV ?_|(refine isR ?_;first|refine x_m [0] [] (c1 _) ?_|refine x_m [0] [] (c1) ?_)|refine zW ?_|refine aA [0] ?_ ?_|exact ai)
 ·rfl
 ·exact .on (.same (aT fun _=>rfl)) .nil
theorem Gs (hb:L.length*112≤140737488355328):aK Tryz.prog 78 [.fro (L.map ah.v)] [] (.own 0 0 L.length) [some (dZ L)]:=by
 have hl:L.length≤140737488355328:=by omega
 refine bL af Tryz.func78 rfl Tryz.ntmps78 Tryz.results78 rfl rfl rfl rfl fun N pl=>?_
 repeat' (first|refine wP af (fun b hq=>?_)|(with_reducible refine j3 (c:=Code.ret) (t:=2) CK 13 (by decide) rfl rfl ?_)|refine aA [1] ?_ ?_|refine zt ?_|(refine isR ?_;first|refine dP [5] af rfl ?_|refine zn ?_|refine IB ah.v (L:=[]) (K':=L) af ?_|refine OJ 5 af ?_)|refine dB rfl (fun hb=>?_) (fun hb=>?_)|refine aA [0] ?_ ?_|exact ai)
 all_goals first
  | (have hn:=hq hb;simp only [List.map_eq_nil_iff] at hn;subst hn;first|rfl|exact .on (.same rfl) .nil)
  | rfl
  | exact .on (.same (aT fun _=>rfl)) .nil
theorem MX (hb:L.length*112≤140737488355328):aj Tryz.prog 145 [.fro (L.map ah.v)] (.fro ((jF dJ L).map ah.v)):=by
 have c1:=Gs hb
 have c2:=H7 (L:=L) rfl (by omega)
 have hl:(jF dJ L).length=L.length:=F9
 generalize jF dJ L=M at *
 rw [← hl] at c1 c2
 refine aW af Tryz.func145 rfl Tryz.ntmps145 Tryz.results145 rfl fun N=>?_
 repeat' (first|refine zV ?_|(refine isR ?_;first|refine x_m [] [0] (c1 _) ?_|refine x_m [] [0] (c1) ?_|refine x_m [0] [] (c2 _) ?_|refine x_m [0] [] (c2) ?_)|refine zW ?_|exact ai)
 show V.fro (List.take M.length (List.drop 0 (M.map ah.v)))=_
 rw [List.drop_zero,List.take_of_length_le (by simp)]
end zP
end
namespace nT
open Go.RowKit Mem Abs nU oL bP cZ eB
variable {r:List ah}
theorem Eb (x y:ah):dJ x y=true↔y.path.length<x.path.length∨y.path.length=x.path.length∧(x.created<y.created∨x.created=y.created∧x.no<y.no):=by
 unfold dJ cz orI xZ
 rw [decide_eq_true_iff]
 repeat' split
 all_goals omega
theorem acH (x y:ah):dJ x y=false↔¬ (y.path.length<x.path.length∨y.path.length=x.path.length∧(x.created<y.created∨x.created=y.created∧x.no<y.no)):=by
 rw [← Eb,Bool.not_eq_true]
theorem XA:Weak dJ where
 asymm x y h:=by rw [Eb] at h;rw [acH];omega
 neg x y z h:=by rw [Eb] at h;rw [Eb,Eb];omega
def ckT (c:ah):List UInt8:=(c.name++[61])++c.value
def eO:List ah→List UInt8
 | []=>[]
 | [c]=>ckT c
 | c::r=>ckT c++([59,32]++eO r)
theorem ql (c:ah) (h:r≠[]):eO (c::r)=ckT c++([59,32]++eO r):=by
 cases r with
 | nil=>exact absurd rfl h
 | cons=>rfl
theorem CB:∀ (r:List ah) (c:ah),eO (r++[c])=if r=[] then ckT c else (eO r++[59,32])++ckT c
 | [],c=>by simp [eO]
 | [d],c=>by simp [eO]
 | d::e::r,c=>by
  have h:=CB (e::r) c
  rw [if_neg (by simp)] at h ⊢
  rw [List.cons_append,ql d (by simp),h,ql d (by simp)]
  simp
theorem VQ (c:ah):ckT c≠[]:=by unfold ckT;simp
theorem VH (h:r≠[]):eO r≠[]:=by
 cases r with
 | nil=>exact absurd rfl h
 | cons c r =>
  cases r with
  | nil=>exact VQ c
  | cons d r=>rw [ql c (by simp)];simp [VQ]
def NS (L:List ah):Prop:=L.length≤1048576∧∀ c∈L,c.name.length≤1048576∧c.value.length≤1048576
theorem FI:∀ {L:List ah},(∀ c∈L,c.name.length≤1048576∧c.value.length≤1048576)→(eO L).length≤L.length*2097155
 | [],_=>by simp [eO]
 | [c],h=>by
  have:=h c (by simp)
  simp [eO,ckT];omega
 | c::d::r,h=>by
  have h1:=h c (by simp)
  have h2:=FI (L:=d::r) fun x hx=>h x (by simp [hx])
  rw [ql c (by simp)]
  simp only [List.length_append,List.length_cons,List.length_nil,ckT] at h2 ⊢
  omega
end nT
namespace oC
open Go.RowKit Mem Abs bP nU oL SortM OZ zP nT
variable {L:List ah}
instance:DecidableEq Attr:=fun a b=>if h:a.name=b.name∧a.value=b.value then isTrue (by cases a;cases b;cases h.1;cases h.2;rfl) else isFalse (fun e=>h (by rw [e];exact ⟨rfl,rfl⟩))
def ckP (c:ah):(List UInt8 × List UInt8 × List UInt8 × List UInt8) × (Bool × Bool × Bool × Bool) × (Int × Int × Int × Int × Int):=((c.name,c.value,c.domain,c.path),(c.hostOnly,c.secure,c.httpOnly,c.lasting),(c.site,c.expiry,c.created,c.used,c.no))
theorem O0 {a b:ah} (h:ckP a=ckP b):a=b:=by
 obtain ⟨a1,a2,a3,a4,a5,a6,a7,a8,a9,a10,a11,a12,a13⟩:=a
 obtain ⟨b1,b2,b3,b4,b5,b6,b7,b8,b9,b10,b11,b12,b13⟩:=b
 simp only [ckP,Prod.mk.injEq] at h
 obtain ⟨⟨rfl,rfl,rfl,rfl⟩,⟨rfl,rfl,rfl,rfl⟩,⟨rfl,rfl,rfl,rfl,rfl⟩⟩:=h
 rfl
instance:DecidableEq ah:=fun a b=>if h:((a.name=b.name∧a.value=b.value∧a.domain=b.domain∧a.path=b.path)∧(a.hostOnly=b.hostOnly∧a.secure=b.secure∧a.httpOnly=b.httpOnly∧a.lasting=b.lasting))∧(a.site=b.site∧a.expiry=b.expiry∧a.created=b.created∧a.used=b.used∧a.no=b.no) then isTrue (O0 (by obtain ⟨⟨⟨h1,h2,h3,h4⟩,h5,h6,h7,h8⟩,h9,h10,h11,h12,h13⟩:=h;unfold ckP;rw [h1,h2,h3,h4,h5,h6,h7,h8,h9,h10,h11,h12,h13])) else isFalse (fun e=>h (by subst e;simp))
def ekC:Ty:=(nth tb 46).get rfl
theorem Ck (a b:Bool):eqS (.bool a) (.bool b)=(a==b):=rfl
theorem Al (a b:Int):eqS (.int .i64 a) (.int .i64 b)=(a==b):=rfl
theorem Fy (a b:ah):eqK ekC a.v b.v=decide (a=b):=by
 have h:eqK ekC a.v b.v=(eqS (au a.name) (au b.name)&&(eqS (au a.value) (au b.value)&&(eqS (au a.domain) (au b.domain)&&(eqS (au a.path) (au b.path)&&(eqS (.bool a.hostOnly) (.bool b.hostOnly)&&(eqS (.bool a.secure) (.bool b.secure)&&(eqS (.bool a.httpOnly) (.bool b.httpOnly)&&(eqS (.bool a.lasting) (.bool b.lasting)&&(eqS (.int .i64 a.site) (.int .i64 b.site)&&(eqS (.int .i64 a.expiry) (.int .i64 b.expiry)&&(eqS (.int .i64 a.created) (.int .i64 b.created)&&(eqS (.int .i64 a.used) (.int .i64 b.used)&&(eqS (.int .i64 a.no) (.int .i64 b.no)&&true))))))))))))):=rfl
 rw [h]
 simp only [ji,Ck,Al,Bool.and_true]
 rw [Bool.eq_iff_iff,decide_eq_true_iff]
 simp only [Bool.and_eq_true,beq_iff_eq,decide_eq_true_eq]
 refine ⟨fun h=>O0 ?_,fun h=>by subst h;simp⟩
 obtain ⟨h1,h2,h3,h4,h5,h6,h7,h8,h9,h10,h11,h12,h13⟩:=h
 unfold ckP
 rw [h1,h2,h3,h4,h5,h6,h7,h8,h9,h10,h11,h12,h13]
theorem aan {r:List Abs.V} (h:V.qH (.fro (L.map ah.v)::r)):L.length≤140737488355328:=by have:=h.1.1;simpa using this
theorem Ep {K:List ah}:aj Tryz.prog 52 [.fro (L.map ah.v),.fro (K.map ah.v)] (.bool (decide (L=K))):=aj.lim fun hlim=>by
 have hl:=aan hlim
 have hx:((L.map ah.v).length:Int)=(L.length:Int):=by simp
 have hy:((K.map ah.v).length:Int)=(K.length:Int):=by simp
 by_cases h3:L.length=K.length
 ·refine aX af Tryz.func52 rfl Tryz.ntmps52 Tryz.results52 rfl fun N=>?_
  repeat' (first|refine zW ?_|exact ai)
  refine bM (fun k=>⟨[(0,.fro (L.map ah.v)),(1,.fro (K.map ah.v)),(5,.int .i64 (k:Int))],[],0,26⟩) (fun k=>k≤L.length∧∀ j,j<k→L[j]? = K[j]?) L.length 0 (by exact ai) ⟨Nat.zero_le _,fun j h=>absurd h (Nat.not_lt_zero _)⟩ ?_
  intro k ⟨hk,hq⟩
  by_cases hk2:k<L.length
  ·have e1:(L.map ah.v)[k]? = some (L[k]).v:=by simp [hk2]
   have e2:L[k]? = some L[k]:=by simp [hk2]
   have hk3:k<K.length:=by omega
   have e3:(K.map ah.v)[k]? = some (K[k]).v:=by simp [hk3]
   have e4:K[k]? = some K[k]:=by simp [hk3]
   generalize L[k]=p at e1 e2
   generalize K[k]=q at e3 e4
   have he:(!eqK ekC p.v q.v) = !decide (p=q):=by rw [Fy]
   by_cases hpq:p=q
   ·rw [decide_eq_true hpq] at he
    repeat' (first|refine zW ?_|exact ai)
    refine ⟨⟨by omega,fun j hj=>?_⟩,by omega,(by exact ai)⟩
    rcases Nat.lt_succ_iff_lt_or_eq.1 hj with h|rfl
    ·exact hq j h
    ·rw [e2,e4,hpq]
   ·rw [decide_eq_false hpq] at he
    repeat' (first|refine zW ?_|exact ai)
    rw [decide_eq_false]
    ·rfl
    intro e
    subst e
    rw [e2] at e4;cases e4;exact hpq rfl
  ·have:L=K:=List.ext_getElem? fun j=>by
    by_cases hj:j<L.length
    ·exact hq j (by omega)
    ·rw [List.getElem?_eq_none (by omega),List.getElem?_eq_none (by omega)]
   repeat' (first|refine zW ?_|exact ai)
   rw [decide_eq_true this];rfl
 ·rw [decide_eq_false (by intro e;subst e;exact h3 rfl)]
  refine aX af Tryz.func52 rfl Tryz.ntmps52 Tryz.results52 rfl fun N=>?_
  repeat' (first|refine zW ?_|exact ai)
  rfl
end oC
end Go.Proofs.YtlfdjpgghiemfaaGreatDoor
