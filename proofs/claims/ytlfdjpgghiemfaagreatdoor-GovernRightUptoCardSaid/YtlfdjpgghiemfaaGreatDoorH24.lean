/- Texts of the proof, joined: SortW, SortM. -/
import Derived.Test.YtlfdjpgghiemfaaGreatDoorH23
set_option maxHeartbeats 4000000
set_option maxRecDepth 100000
namespace Go.Proofs.YtlfdjpgghiemfaaGreatDoor
section
namespace Abs
open Go.RowKit Mem Facts
section
variable {P:Program} {N:Env} {l r:List Oper} {o:Oper} {tm:List (Nat × V)} {st:List (Nat × Option Blk)} {nx nt:Nat} {tr:List Tr} {K:S→List Tr→Prop} {d:Nat} {t t':TypeId} {x y:Operand} {a n:Int} {kd ky:IntKind}
theorem Vg (ho:o.op = .binOp .shr t x y t') (h:a.fdiv 2=n) (hn:InR kd n):aC P N o ⟨[(x,.int kd a),(y,.int ky 1)],[]⟩ (.int kd n) [] [] :=
 aD fun s M A φ ac w hh hr=>by
  refine ⟨.int kd n,?_,.fz (.int hn)⟩
  subst h
  have e:min (1:Int).toNat kd.bits=1:=by cases kd<;>rfl
  unfold execOp
  have e2:(eqGuard .shr t x y (.int kd a) (.int ky 1)).run P w = .ok () w:=rfl
  have e3:(binOp .shr t (.int kd a) (.int ky 1)).run P w = .ok (.int kd (a.fdiv 2)) w:=by
   unfold binOp
   simp only [Op.shift]
   rw [e]
   rfl
  simp only [ho,hr.int hh.a,hr.int hh.b,Sem.run_bind,e2,e3,Result.andThen_ok,Sem.run_pure]
theorem vN (k:ay P N l K r ⟨(d,.int kd n)::tm,st,nx,nt⟩ (tr++[aH l o ⟨[(x,.int kd a),(y,.int ky 1)],[]⟩ []])) (ho:o.op = .binOp .shr t x y t':=by rfl) (hx:S.ev ⟨tm,st,nx,nt⟩ x=some (.int kd a):=by rfl) (hy:S.ev ⟨tm,st,nx,nt⟩ y=some (.int ky 1):=by rfl) (hg:ax l o ⟨tm,st,nx,nt⟩=some true:=by rfl) (hd:o.dst=some d:=by rfl) (hlt:Nat.blt d nt=true:=by rfl) (h:a.fdiv 2=n:=by assumption) (hn:InR kd n:=by assumption):ay P N l K (o::r) ⟨tm,st,nx,nt⟩ tr:=aJ hg hd hlt (Vg ho h hn) (hT hx (hT hy h0)) k
end
end Abs
namespace nR
open Go.RowKit Mem Abs nH
variable {L:List ai} {len:Nat} {b:Int}
def y8 (a b:Int):Int:=if a<b then -1 else if b<a then 1 else 0
theorem Pv {a:Int}:aj Tryz.prog 233 [.int .i64 a] (.bool false):=by
 refine aU af Tryz.func233 rfl Tryz.ntmps233 Tryz.results233 rfl fun N=>?_
 repeat' (first|refine zt ?_|(refine isR ?_;first|refine zo ?_|refine zc6 ?_)|refine zr ?_|exact ah)
 rfl
theorem oI {a:Int}:aj Tryz.prog 187 [.int .i64 a,.int .i64 b] (.int .i64 (y8 a b)):=by
 have c1:=Pv (a:=a)
 have c2:=Pv (a:=b)
 unfold y8
 by_cases h1:a<b
 ·rw [if_pos h1]
  refine aW af Tryz.func187 rfl Tryz.ntmps187 Tryz.results187 rfl fun N=>?_
  repeat' (first|refine zt ?_|(refine isR ?_;first|refine zo ?_|refine zk c1 ?_|refine zk c2 ?_|refine zX ?_)|refine zr ?_|exact ah)
  rfl
 ·rw [if_neg h1]
  by_cases h2:b<a
  ·rw [if_pos h2]
   refine aW af Tryz.func187 rfl Tryz.ntmps187 Tryz.results187 rfl fun N=>?_
   repeat' (first|refine zt ?_|(refine isR ?_;first|refine zo ?_|refine zk c1 ?_|refine zk c2 ?_|refine zX ?_)|refine zr ?_|exact ah)
   rfl
  ·rw [if_neg h2]
   refine aW af Tryz.func187 rfl Tryz.ntmps187 Tryz.results187 rfl fun N=>?_
   repeat' (first|refine zt ?_|(refine isR ?_;first|refine zo ?_|refine zk c1 ?_|refine zk c2 ?_|refine zX ?_)|refine zr ?_|exact ah)
   rfl
def orI (a b c:Int):Int:=if a≠0 then a else if b≠0 then b else c
theorem ad2 {a c:Int}:aj Tryz.prog 186 [.fro [.int .i64 a,.int .i64 b,.int .i64 c]] (.int .i64 (orI a b c)):=by
 have hz:[V.int .i64 a,V.int .i64 b,V.int .i64 c].length=3:=rfl
 unfold orI
 by_cases h1:a=0
 ·rw [if_neg (by simp [h1])]
  by_cases h2:b=0
  ·rw [if_neg (by simp [h2])]
   by_cases h3:c=0
   ·refine aU af Tryz.func186 rfl Tryz.ntmps186 Tryz.results186 rfl fun N=>?_
    repeat' (first|with_reducible refine aP ?_|with_reducible refine aO 4 ?_|refine zt ?_|(refine isR ?_;first|refine zo ?_|refine zX ?_)|refine zr ?_|exact ah)
    all_goals first|(subst h3;rfl)|(exfalso;omega)
   ·refine aU af Tryz.func186 rfl Tryz.ntmps186 Tryz.results186 rfl fun N=>?_
    repeat' (first|with_reducible refine aP ?_|with_reducible refine aO 4 ?_|refine zt ?_|(refine isR ?_;first|refine zo ?_|refine zX ?_)|refine zr ?_|exact ah)
    all_goals first|rfl|(exfalso;omega)
  ·rw [if_pos h2]
   refine aU af Tryz.func186 rfl Tryz.ntmps186 Tryz.results186 rfl fun N=>?_
   repeat' (first|with_reducible refine aP ?_|with_reducible refine aO 4 ?_|refine zt ?_|(refine isR ?_;first|refine zo ?_|refine zX ?_)|refine zr ?_|exact ah)
   all_goals first|rfl|(exfalso;omega)
 ·rw [if_pos h1]
  refine aU af Tryz.func186 rfl Tryz.ntmps186 Tryz.results186 rfl fun N=>?_
  repeat' (first|with_reducible refine aP ?_|with_reducible refine aO 4 ?_|refine zt ?_|(refine isR ?_;first|refine zo ?_|refine zX ?_)|refine zr ?_|exact ah)
  all_goals first|rfl|(exfalso;omega)
def cz (x y:ai):Int:=orI (y8 y.path.length x.path.length) (y8 x.created y.created) (y8 x.no y.no)
def dR (x y:ai):Bool:=decide (cz x y<0)
theorem O9 {x y:ai}:aj Tryz.prog 194 [x.v,y.v] (.int .i64 (cz x y)):=by
 have c1:=oI (a:=y.path.length) (b:=x.path.length)
 have c2:=oI (a:=x.created) (b:=y.created)
 have c3:=oI (a:=x.no) (b:=y.no)
 have c4:=ad2 (a:=y8 y.path.length x.path.length) (b:=y8 x.created y.created) (c:=y8 x.no y.no)
 refine aW af Tryz.func194 rfl Tryz.ntmps194 Tryz.results194 rfl fun N=>?_
 repeat' (first|refine zt ?_|(refine isR ?_;first|refine zo ?_|refine zk c1 ?_|refine zk c2 ?_|refine zk c3 ?_|refine zk c4 ?_|refine zX ?_)|refine zr ?_|exact ah)
 rfl
abbrev CK:Nat:=46
abbrev eG (L:List ai):Blk:=.els CK 13 (L.map ai.v)
abbrev fnC:V:=.fn (.func 194) [] []
theorem Vm {a b n:Nat} (hl:L.length=len) (hL:len≤140737488355328) (h1:a+n≤len) (h2:b+n≤len):aK Tryz.prog 270 [.own 0 0 len,.int .i64 (a:Int),.int .i64 (b:Int),.int .i64 (n:Int),fnC] [eG L] (.tup []) [some (eG (swR n a b L))]:=by
 refine bP af Tryz.func270 rfl Tryz.ntmps270 Tryz.results270 rfl rfl rfl rfl fun N pl=>?_
 repeat' (first|refine zt ?_|(refine isR ?_;first|refine zo ?_|refine zX ?_)|exact ah)
 refine dP (α:=Nat × List ai) (fun x=>⟨[(0,.own 0 0 len),(1,.int .i64 (a:Int)),(2,.int .i64 (b:Int)),(3,.int .i64 (n:Int)),(10,.int .i64 (x.1:Int))],[(0,some (eG x.2))],1,38⟩) (fun x=>x.1≤n∧x.2.length=len∧swR (n-x.1) (a+x.1) (b+x.1) x.2=swR n a b L) (fun x=>n-x.1) (0,L) (by exact ah) ⟨Nat.zero_le _,hl,rfl⟩ ?_
 rintro ⟨i,M⟩ ⟨h3,h4,h5⟩
 dsimp only at h3 h4 h5 ⊢
 by_cases hi:i<n
 ·have e1:M[a+i]? = some M[a+i]:=List.getElem?_eq_getElem (by omega)
  have e2:M[b+i]? = some M[b+i]:=List.getElem?_eq_getElem (by omega)
  have hsw:oK M (a+i) (b+i)=(M.set (a+i) M[b+i]).set (b+i) M[a+i]:=by unfold oK;rw [e1,e2]
  generalize M[a+i]=x at *
  generalize M[b+i]=y at *
  have e3:(M.set (a+i) y)[b+i]? = some ((M.set (a+i) y)[b+i]'(by simp;omega)):=List.getElem?_eq_getElem _
  generalize (M.set (a+i) y)[b+i]'(by simp;omega)=z at e3
  repeat' (first|refine zt ?_|(refine isR ?_;first|refine zo ?_|refine cZ ai.v (b+i) af ?_|refine cZ ai.v (a+i) af ?_|refine kD ai.v (a1:=y) (a+i) af ?_|refine kD ai.v (a1:=x) (b+i) af ?_|refine zX ?_)|exact ah)
  refine ⟨(i+1,(M.set (a+i) y).set (b+i) x),⟨by show i+1≤n;omega,by simp [h4],?_⟩,by show n-(i+1)<n-i;omega,?_⟩
  ·show swR (n-(i+1)) (a+(i+1)) (b+(i+1)) _=_
   rw [← h5,← hsw,show n-i=(n-(i+1))+1 by omega,swR]
   rfl
  ·exact (by exact ah)
 ·obtain rfl:i=n:=by omega
  rw [Nat.sub_self,swR] at h5
  rw [← h5]
  repeat' (first|refine zt ?_|(refine isR ?_;first|refine zo ?_|refine zX ?_)|refine aA [0] ?_ ?_|exact ah)
  ·rfl
  ·exact .on (.same (aT fun _=>rfl)) .nil
theorem ac1 {a m b:Nat} (hl:L.length=len) (hL:len≤140737488355328) (h1:a<m) (h2:m<b) (h3:b≤len):aK Tryz.prog 267 [.own 0 0 len,.int .i64 (a:Int),.int .i64 (m:Int),.int .i64 (b:Int),fnC] [eG L] (.tup []) [some (eG (yJ (b-a) L m (m-a) (b-m)))]:=by
 refine bP af Tryz.func267 rfl Tryz.ntmps267 Tryz.results267 rfl rfl rfl rfl fun N pl=>?_
 repeat' (first|refine zt ?_|(refine isR ?_;first|refine zo ?_|refine zX ?_)|exact ah)
 refine dP (α:=(Nat × Nat) × List ai) (fun x=>⟨[(0,.own 0 0 len),(2,.int .i64 (m:Int)),(4,fnC),(10,.int .i64 (x.1.1:Int)),(11,.int .i64 (x.1.2:Int))],[(0,some (eG x.2))],1,58⟩) (fun x=>0<x.1.1∧0<x.1.2∧x.1.1≤m∧m+x.1.2≤len∧x.2.length=len∧∃ f,x.1.1+x.1.2≤f∧yJ f x.2 m x.1.1 x.1.2=yJ (b-a) L m (m-a) (b-m)) (fun x=>x.1.1+x.1.2) ((m-a,b-m),L) ?h0 ⟨by dsimp only;omega,by dsimp only;omega,by dsimp only;omega,by dsimp only;omega,hl,b-a,by dsimp only;omega,rfl⟩ ?_
 case h0 =>
  have e1:((m-a:Nat):Int)=(m:Int)-(a:Int):=by omega
  have e2:((b-m:Nat):Int)=(b:Int)-(m:Int):=by omega
  dsimp only
  rw [e1,e2]
  exact (by exact ah)
 rintro ⟨⟨i,j⟩,M⟩ ⟨g1,g2,g3,g4,g5,f,g6,g7⟩
 dsimp only at g1 g2 g3 g4 g5 g6 g7 ⊢
 obtain ⟨f,rfl⟩:∃ q,f=q+1:=⟨f-1,by omega⟩
 have e0:((m-i:Nat):Int)=(m:Int)-(i:Int):=by omega
 by_cases hij:i=j
 ·subst hij
  rw [yJ,if_pos rfl] at g7
  have c1:=Vm (L:=M) (a:=m-i) (b:=m) (n:=i) g5 hL (by omega) (by omega)
  rw [g7,e0] at c1
  repeat' (first|refine zt ?_|(refine isR ?_;first|refine zo ?_|refine x_m [0] [] (c1 _) ?_|refine x_m [0] [] (c1) ?_|refine zX ?_)|refine aA [0] ?_ ?_|exact ah)
  ·rfl
  ·exact .on (.same (aT fun _=>rfl)) .nil
 ·rw [yJ,if_neg hij] at g7
  by_cases h:j<i
  ·rw [if_pos h] at g7
   have c1:=Vm (L:=M) (a:=m-i) (b:=m) (n:=j) g5 hL (by omega) (by omega)
   rw [e0] at c1
   have e1:((i-j:Nat):Int)=(i:Int)-(j:Int):=by omega
   repeat' (first|refine zt ?_|(refine isR ?_;first|refine zo ?_|refine x_m [0] [] (c1 _) ?_|refine x_m [0] [] (c1) ?_|refine zX ?_)|exact ah)
   refine ⟨((i-j,j),swR j (m-i) m M),⟨by dsimp only;omega,g2,by dsimp only;omega,g4,by rw [← g5];exact uM _ _ _ _,f,by dsimp only;omega,g7⟩,by dsimp only;omega,?_⟩
   dsimp only
   rw [e1]
   exact (by exact ah)
  ·rw [if_neg h] at g7
   have c1:=Vm (L:=M) (a:=m-i) (b:=m+j-i) (n:=i) g5 hL (by omega) (by omega)
   have e2:((m+j-i:Nat):Int)=(m:Int)+(j:Int)-(i:Int):=by omega
   rw [e0,e2] at c1
   have e1:((j-i:Nat):Int)=(j:Int)-(i:Int):=by omega
   repeat' (first|refine zt ?_|(refine isR ?_;first|refine zo ?_|refine x_m [0] [] (c1 _) ?_|refine x_m [0] [] (c1) ?_|refine zX ?_)|exact ah)
   refine ⟨((i,j-i),swR i (m-i) (m+j-i) M),⟨g1,by dsimp only;omega,g3,by dsimp only;omega,by rw [← g5];exact uM _ _ _ _,f,by dsimp only;omega,g7⟩,by dsimp only;omega,?_⟩
   dsimp only
   rw [e1]
   exact (by exact ah)
end nR
end
namespace SortM
open Go.RowKit Mem Abs nH nR
variable {len j f i:Nat} {L:List ai} {m:Nat} {p:Nat→Bool} {b:Nat}
theorem half (h:i+j≤562949953421312):IntKind.u64.wrap ((i:Int)+(j:Int))=(i:Int)+(j:Int)∧((i:Int)+(j:Int)).fdiv 2=(((i+j)/2:Nat):Int)∧InR .u64 (((i+j)/2:Nat):Int)∧IntKind.i64.wrap (((i+j)/2:Nat):Int)=(((i+j)/2:Nat):Int):=by
 have e:(((i+j)/2:Nat):Int)=((i:Int)+(j:Int))/2:=by omega
 refine ⟨?_,?_,?_,?_⟩
 ·simp [IntKind.wrap,IntKind.bits,IntKind.signed];omega
 ·rw [Int.fdiv_eq_ediv_of_nonneg _ (by decide),e]
 ·exact ⟨by simp only [rng];omega,by simp only [rng];omega⟩
 ·exact wrap64 (by omega) (by omega)
theorem NW (h:¬ i<j):bs p f i j=i:=by
 cases f with
 | zero=>rfl
 | succ f=>unfold bs;rw [if_neg h]
theorem VU (h:i<j) (hf:j-i≤f):∃ q,f=q+1∧bs p f i j=if p ((i+j)/2)=true then bs p q ((i+j)/2+1) j else bs p q i ((i+j)/2):=by
 obtain ⟨q,rfl⟩:∃ q,f=q+1:=⟨f-1,by omega⟩
 refine ⟨q,rfl,?_⟩
 rw [bs,if_pos h]
theorem AL {x y:ai} (h1:L[i]? = some x) (h2:L[j]? = some y):qQ dR L i j=decide (cz x y<0):=by unfold qQ;rw [h1,h2];rfl
theorem two {M:List ai} (h1:i<M.length) (h2:j<M.length):∃ x y z,M[i]? = some x∧M[j]? = some y∧(M.set i y)[j]? = some z∧oK M i j=(M.set i y).set j x :=
 ⟨M[i],M[j],(M.set i M[j])[j]'(by simpa using h2),List.getElem?_eq_getElem _,List.getElem?_eq_getElem _,List.getElem?_eq_getElem _,by unfold oK;rw [List.getElem?_eq_getElem h1,List.getElem?_eq_getElem h2]⟩
abbrev stM (len a m b:Nat) (L:List ai) (more:List (Nat × Abs.V)):S:=⟨[(0,.own 0 0 len),(1,.int .i64 (a:Int)),(2,.int .i64 (m:Int)),(3,.int .i64 (b:Int)),(4,fnC)]++more,[(0,some (eG L))],1,220⟩
theorem aa0 {a:Nat} (f:Nat) (hl:L.length=len) (hL:len≤140737488355328) (h1:a<m) (h2:m<b) (h3:b≤len) (hc:m-a=1):aK Tryz.prog 256 [.own 0 0 len,.int .i64 (a:Int),.int .i64 (m:Int),.int .i64 (b:Int),fnC] [eG L] (.tup []) [some (eG (lD dR (f+1) L a m b))]:=by
 rw [lD,if_pos hc]
 obtain ⟨y,e2⟩:∃ y,L[a]? = some y:=⟨_,List.getElem?_eq_getElem (by omega)⟩
 have hp:∀ h x,L[h]? = some x→(fun h=>qQ dR L h a) h=decide (cz x y<0):=fun h x hx=>AL hx e2
 generalize (fun h=>qQ dR L h a)=p at *
 have hT:=xW p (b-m) m b (by omega) (Nat.le_refl _)
 generalize hTT:bs p (b-m) m b=T at *
 refine bP af Tryz.func256 rfl Tryz.ntmps256 Tryz.results256 rfl rfl rfl rfl fun N pl=>?_
 repeat' (first|refine zt ?_|(refine isR ?_;first|refine zo ?_|refine zX ?_)|exact ah)
 refine dP (α:=Nat × Nat) (fun x=>stM len a m b L [(10,.int .i64 (x.1:Int)),(11,.int .i64 (x.2:Int))]) (fun x=>m≤x.1∧x.1≤x.2∧x.2≤b∧∃ f,x.2-x.1≤f∧bs p f x.1 x.2=T) (fun x=>x.2-x.1) (m,b) (by exact ah) ⟨Nat.le_refl _,by dsimp only;omega,Nat.le_refl _,b-m,Nat.le_refl _,hTT⟩ ?_
 rintro ⟨i,j⟩ ⟨g1,g2,g3,q,g4,g5⟩
 dsimp only at g1 g2 g3 g4 g5 ⊢
 by_cases hij:i<j
 ·obtain ⟨q,rfl,hq⟩:=VU (p:=p) hij g4
  rw [hq] at g5
  obtain ⟨x,e1⟩:∃ x,L[(i+j)/2]? = some x:=⟨_,List.getElem?_eq_getElem (by omega)⟩
  rw [hp _ x e1] at g5
  obtain ⟨w1,w2,w3,w4⟩:=half (i:=i) (j:=j) (by omega)
  have hh:i≤(i+j)/2∧(i+j)/2<j:=by omega
  generalize (i+j)/2=h at *
  have c1:=O9 (x:=x) (y:=y)
  by_cases hz:cz x y<0
  ·rw [if_pos (by simpa using hz)] at g5
   repeat' (first|refine zt ?_|(refine isR ?_;first|refine zo ?_|refine ny .u64 af ?_|refine vN ?_|refine ny .i64 af ?_|refine cZ ai.v h af ?_|refine cZ ai.v a af ?_|refine ak (c1 _) ?_|refine ak (c1) ?_|refine zX ?_)|exact ah)
   refine ⟨(h+1,j),⟨by dsimp only;omega,by dsimp only;omega,g3,q,by dsimp only;omega,g5⟩,by dsimp only;omega,?_⟩
   exact (by exact ah)
  ·rw [if_neg (by simpa using hz)] at g5
   repeat' (first|refine zt ?_|(refine isR ?_;first|refine zo ?_|refine ny .u64 af ?_|refine vN ?_|refine ny .i64 af ?_|refine cZ ai.v h af ?_|refine cZ ai.v a af ?_|refine ak (c1 _) ?_|refine ak (c1) ?_|refine zX ?_)|exact ah)
   refine ⟨(i,h),⟨g1,by dsimp only;omega,by dsimp only;omega,q,by dsimp only;omega,g5⟩,by dsimp only;omega,?_⟩
   exact (by exact ah)
 ·rw [NW hij] at g5
  subst g5
  repeat' (first|refine zt ?_|(refine isR ?_;first|refine zo ?_|refine zX ?_)|exact ah)
  refine dP (α:=Nat × List ai) (fun x=>stM len a m b x.2 [(10,.int .i64 (i:Int)),(13,.int .i64 (x.1:Int))]) (fun x=>a≤x.1∧x.1≤i-1∧x.2.length=len∧upF (i-1-x.1) x.1 x.2=upF (i-1-a) a L) (fun x=>i-x.1) (a,L) (by exact ah) ⟨Nat.le_refl _,by dsimp only;omega,hl,rfl⟩ ?_
  rintro ⟨k,M⟩ ⟨k1,k2,k3,k4⟩
  dsimp only at k1 k2 k3 k4 ⊢
  by_cases hk:k<i-1
  ·obtain ⟨x,y,z,m1,m2,m3,m4⟩:=two (M:=M) (i:=k) (j:=k+1) (by omega) (by omega)
   repeat' (first|refine zt ?_|(refine isR ?_;first|refine zo ?_|refine cZ ai.v (k+1) af ?_|refine cZ ai.v k af ?_|refine kD ai.v (a1:=y) k af ?_|refine kD ai.v (a1:=x) (k+1) af ?_|refine zX ?_)|exact ah)
   refine ⟨(k+1,(M.set k y).set (k+1) x),⟨by dsimp only;omega,by dsimp only;omega,by simp [k3],?_⟩,by dsimp only;omega,?_⟩
   ·show upF (i-1-(k+1)) (k+1) _=_
    rw [← k4,← m4,show i-1-k=(i-1-(k+1))+1 by omega,upF]
   ·exact (by exact ah)
  ·rw [show i-1-k=0 by omega,upF] at k4
   rw [← k4]
   repeat' (first|refine zt ?_|(refine isR ?_;first|refine zo ?_|refine zX ?_)|refine aA [0] ?_ ?_|exact ah)
   ·rfl
   ·exact .on (.same (aT fun _=>rfl)) .nil
theorem aa4 {a:Nat} (f:Nat) (hl:L.length=len) (hL:len≤140737488355328) (h1:a<m) (h2:m<b) (h3:b≤len) (hc:¬ m-a=1) (hd:b-m=1):aK Tryz.prog 256 [.own 0 0 len,.int .i64 (a:Int),.int .i64 (m:Int),.int .i64 (b:Int),fnC] [eG L] (.tup []) [some (eG (lD dR (f+1) L a m b))]:=by
 rw [lD,if_neg hc,if_pos hd]
 obtain ⟨y,e2⟩:∃ y,L[m]? = some y:=⟨_,List.getElem?_eq_getElem (by omega)⟩
 have hp:∀ h x,L[h]? = some x→(fun h => !qQ dR L m h) h = !decide (cz y x<0):=fun h x hx=>congrArg (!·) (AL e2 hx)
 generalize (fun h => !qQ dR L m h)=p at *
 have hT:=xW p (m-a) a m (by omega) (Nat.le_refl _)
 generalize hTT:bs p (m-a) a m=T at *
 refine bP af Tryz.func256 rfl Tryz.ntmps256 Tryz.results256 rfl rfl rfl rfl fun N pl=>?_
 repeat' (first|refine zt ?_|(refine isR ?_;first|refine zo ?_|refine zX ?_)|exact ah)
 refine dP (α:=Nat × Nat) (fun x=>stM len a m b L [(14,.int .i64 (x.1:Int)),(15,.int .i64 (x.2:Int))]) (fun x=>a≤x.1∧x.1≤x.2∧x.2≤m∧∃ f,x.2-x.1≤f∧bs p f x.1 x.2=T) (fun x=>x.2-x.1) (a,m) (by exact ah) ⟨Nat.le_refl _,by dsimp only;omega,Nat.le_refl _,m-a,Nat.le_refl _,hTT⟩ ?_
 rintro ⟨i,j⟩ ⟨g1,g2,g3,q,g4,g5⟩
 dsimp only at g1 g2 g3 g4 g5 ⊢
 by_cases hij:i<j
 ·obtain ⟨q,rfl,hq⟩:=VU (p:=p) hij g4
  rw [hq] at g5
  obtain ⟨x,e1⟩:∃ x,L[(i+j)/2]? = some x:=⟨_,List.getElem?_eq_getElem (by omega)⟩
  rw [hp _ x e1] at g5
  obtain ⟨w1,w2,w3,w4⟩:=half (i:=i) (j:=j) (by omega)
  have hh:i≤(i+j)/2∧(i+j)/2<j:=by omega
  generalize (i+j)/2=h at *
  have c1:=O9 (x:=y) (y:=x)
  by_cases hz:cz y x<0
  ·rw [if_neg (by simpa using hz)] at g5
   repeat' (first|refine zt ?_|(refine isR ?_;first|refine zo ?_|refine ny .u64 af ?_|refine vN ?_|refine ny .i64 af ?_|refine cZ ai.v h af ?_|refine cZ ai.v m af ?_|refine ak (c1 _) ?_|refine ak (c1) ?_|refine zX ?_)|exact ah)
   refine ⟨(i,h),⟨g1,by dsimp only;omega,by dsimp only;omega,q,by dsimp only;omega,g5⟩,by dsimp only;omega,?_⟩
   exact (by exact ah)
  ·rw [if_pos (by simpa using hz)] at g5
   repeat' (first|refine zt ?_|(refine isR ?_;first|refine zo ?_|refine ny .u64 af ?_|refine vN ?_|refine ny .i64 af ?_|refine cZ ai.v h af ?_|refine cZ ai.v m af ?_|refine ak (c1 _) ?_|refine ak (c1) ?_|refine zX ?_)|exact ah)
   refine ⟨(h+1,j),⟨by dsimp only;omega,by dsimp only;omega,g3,q,by dsimp only;omega,g5⟩,by dsimp only;omega,?_⟩
   exact (by exact ah)
 ·rw [NW hij] at g5
  subst g5
  repeat' (first|refine zt ?_|(refine isR ?_;first|refine zo ?_|refine zX ?_)|exact ah)
  refine dP (α:=Nat × List ai) (fun x=>stM len a m b x.2 [(14,.int .i64 (i:Int)),(17,.int .i64 (x.1:Int))]) (fun x=>x.1≤m∧i≤x.1∧x.2.length=len∧oq i x.1 x.2=oq i m L) (fun x=>x.1) (m,L) (by exact ah) ⟨Nat.le_refl _,by dsimp only;omega,hl,rfl⟩ ?_
  rintro ⟨k,M⟩ ⟨k1,k2,k3,k4⟩
  dsimp only at k1 k2 k3 k4 ⊢
  by_cases hk:i<k
  ·obtain ⟨k,rfl⟩:∃ q,k=q+1:=⟨k-1,by omega⟩
   rw [oq,if_pos hk] at k4
   obtain ⟨x,y,z,m1,m2,m3,m4⟩:=two (M:=M) (i:=k+1) (j:=k) (by omega) (by omega)
   repeat' (first|refine zt ?_|(refine isR ?_;first|refine zo ?_|refine cZ ai.v (k+1) af ?_|refine cZ ai.v k af ?_|refine kD ai.v (a1:=y) (k+1) af ?_|refine kD ai.v (a1:=x) k af ?_|refine zX ?_)|exact ah)
   refine ⟨(k,(M.set (k+1) y).set k x),⟨by dsimp only;omega,by dsimp only;omega,by simp [k3],?_⟩,by dsimp only;omega,?_⟩
   ·show oq i k _=_
    rw [← k4,← m4]
   ·have ek:((k:Nat):Int)=((k+1:Nat):Int)-1:=by omega
    dsimp only
    rw [ek]
    exact (by exact ah)
  ·have hd0:oq i k M=M:=by
    cases k with
    | zero=>rfl
    | succ k=>rw [oq,if_neg hk]
   rw [hd0] at k4
   rw [← k4]
   repeat' (first|refine zt ?_|(refine isR ?_;first|refine zo ?_|refine zX ?_)|refine aA [0] ?_ ?_|exact ah)
   ·rfl
   ·exact .on (.same (aT fun _=>rfl)) .nil
end SortM
end Go.Proofs.YtlfdjpgghiemfaaGreatDoor
