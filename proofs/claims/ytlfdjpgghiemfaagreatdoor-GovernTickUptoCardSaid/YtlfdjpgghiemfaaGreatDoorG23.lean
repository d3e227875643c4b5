/- Texts of the proof, joined: SortP. -/
namespace Go.Proofs.YtlfdjpgghiemfaaGreatDoor
namespace nU
section
variable {α β:Type}
variable {L:List α}
def kE (L:List α) (i j:Nat):List α:=match L[i]?,L[j]? with
 | some x,some y=>(L.set i y).set j x
 | _,_=>L
def iN (lt:α→α→Bool) (L:List α) (i j:Nat):Bool:=match L[i]?,L[j]? with
 | some x,some y=>lt x y
 | _,_=>false
def qG (lt:α→α→Bool) (a:Nat):Nat→List α→List α
 | 0,L=>L
 | j+1,L=>if a<j+1∧iN lt L (j+1) j=true then qG lt a j (kE L (j+1) j) else L
def qj (lt:α→α→Bool) (a:Nat):Nat→Nat→List α→List α
 | 0,_,L=>L
 | n+1,i,L=>qj lt a n (i+1) (qG lt a i L)
def ins (lt:α→α→Bool) (L:List α) (a b:Nat):List α:=qj lt a (b-(a+1)) (a+1) L
def bs (p:Nat→Bool):Nat→Nat→Nat→Nat
 | 0,i,_=>i
 | f+1,i,j=>if i<j then (if p ((i+j)/2)=true then bs p f ((i+j)/2+1) j else bs p f i ((i+j)/2)) else i
def upF:Nat→Nat→List α→List α
 | 0,_,L=>L
 | n+1,k,L=>upF n (k+1) (kE L k (k+1))
def jD (i:Nat):Nat→List α→List α
 | 0,L=>L
 | k+1,L=>if i<k+1 then jD i k (kE L (k+1) k) else L
def swR:Nat→Nat→Nat→List α→List α
 | 0,_,_,L=>L
 | n+1,a,b,L=>swR n (a+1) (b+1) (kE L a b)
def vQ:Nat→List α→Nat→Nat→Nat→List α
 | 0,L,_,_,_=>L
 | f+1,L,m,i,j=>if i=j then swR i (m-i) m L else if j<i then vQ f (swR j (m-i) m L) m (i-j) j else vQ f (swR i (m-i) (m+j-i) L) m i (j-i)
def s0F (a m b:Nat):Nat:=if (a+b)/2<m then (a+b)/2+m-b else a
def rF (a m b:Nat):Nat:=if (a+b)/2<m then (a+b)/2 else m
def sF (lt:α→α→Bool) (L:List α) (a m b:Nat):Nat:=bs (fun c => !iN lt L ((a+b)/2+m-1-c) c) (rF a m b-s0F a m b) (s0F a m b) (rF a m b)
def nK (L:List α) (s m e:Nat):List α:=if s<m∧m<e then vQ (e-s) L m (m-s) (e-m) else L
def jA (lt:α→α→Bool):Nat→List α→Nat→Nat→Nat→List α
 | 0,L,_,_,_=>L
 | f+1,L,a,m,b =>
  if m-a=1 then upF (bs (fun h=>iN lt L h a) (b-m) m b-1-a) a L
  else if b-m=1 then jD (bs (fun h => !iN lt L m h) (m-a) a m) m L
  else (fun s e mid=>(fun L2=>if mid<e∧e<b then jA lt f L2 mid e b else L2) (if a<s∧s<mid then jA lt f (nK L s m e) a s mid else nK L s m e)) (sF lt L a m b) ((a+b)/2+m-sF lt L a m b) ((a+b)/2)
def mG (lt:α→α→Bool) (n k:Nat):Nat→Nat→List α→List α
 | 0,_,L=>L
 | f+1,a,L=>if a+2*k≤n then mG lt n k f (a+2*k) (jA lt (2*k) L a (a+k) (a+2*k)) else if a+k<n then jA lt (n-a) L a (a+k) n else L
def Ac (lt:α→α→Bool) (n:Nat):Nat→Nat→List α→List α
 | 0,_,L=>L
 | f+1,a,L=>if a+20≤n then Ac lt n f (a+20) (ins lt L a (a+20)) else ins lt L a n
def iO (lt:α→α→Bool) (n:Nat):Nat→Nat→List α→List α
 | 0,_,L=>L
 | f+1,k,L=>if k<n then iO lt n f (2*k) (mG lt n k (n+1) 0 L) else L
def jF (lt:α→α→Bool) (L:List α):List α:=iO lt L.length L.length 20 (Ac lt L.length (L.length+1) 0 L)
theorem uE (L:List α) (i j:Nat):(kE L i j).length=L.length:=by unfold kE;split<;>simp
theorem K6 {lt:α→α→Bool} {a:Nat}:∀ (j:Nat) (L:List α),(qG lt a j L).length=L.length
 | 0,L=>rfl
 | j+1,L=>by
  unfold qG
  split
  ·rw [K6 j,uE]
  ·rfl
theorem Kh {lt:α→α→Bool} {a:Nat}:∀ (n i:Nat) (L:List α),(qj lt a n i L).length=L.length
 | 0,_,L=>rfl
 | n+1,i,L=>by unfold qj;rw [Kh n,K6]
theorem Ie {lt:α→α→Bool} {a b:Nat}:(ins lt L a b).length=L.length:=Kh _ _ _
theorem Oh:∀ (n k:Nat) (L:List α),(upF n k L).length=L.length
 | 0,_,L=>rfl
 | n+1,k,L=>by unfold upF;rw [Oh n,uE]
theorem FU {i:Nat}:∀ (k:Nat) (L:List α),(jD i k L).length=L.length
 | 0,L=>rfl
 | k+1,L=>by
  unfold jD
  split
  ·rw [FU k,uE]
  ·rfl
theorem tN:∀ (n a b:Nat) (L:List α),(swR n a b L).length=L.length
 | 0,_,_,L=>rfl
 | n+1,a,b,L=>by unfold swR;rw [tN n,uE]
theorem Ce:∀ (f:Nat) (L:List α) (m i j:Nat),(vQ f L m i j).length=L.length
 | 0,L,_,_,_=>rfl
 | f+1,L,m,i,j=>by
  unfold vQ
  split
  ·rw [tN]
  ·split
   ·rw [Ce f,tN]
   ·rw [Ce f,tN]
theorem FH {s m e:Nat}:(nK L s m e).length=L.length:=by
 unfold nK
 split
 ·exact Ce _ _ _ _ _
 ·rfl
theorem qK {lt:α→α→Bool}:∀ (f:Nat) (L:List α) (a m b:Nat),(jA lt f L a m b).length=L.length
 | 0,L,_,_,_=>rfl
 | f+1,L,a,m,b=>by
  unfold jA
  split
  ·exact Oh _ _ _
  ·split
   ·exact FU _ _
   ·dsimp only
    repeat' split
    all_goals simp only [qK f,FH]
theorem yH {lt:α→α→Bool} {n k:Nat}:∀ (f a:Nat) (L:List α),(mG lt n k f a L).length=L.length
 | 0,_,L=>rfl
 | f+1,a,L=>by
  unfold mG
  split
  ·rw [yH f,qK]
  ·split
   ·exact qK _ _ _ _ _
   ·rfl
theorem A7 {lt:α→α→Bool} {n:Nat}:∀ (f a:Nat) (L:List α),(Ac lt n f a L).length=L.length
 | 0,_,L=>rfl
 | f+1,a,L=>by
  unfold Ac
  split
  ·rw [A7 f,Ie]
  ·exact Ie
theorem Lb {lt:α→α→Bool} {n:Nat}:∀ (f k:Nat) (L:List α),(iO lt n f k L).length=L.length
 | 0,_,L=>rfl
 | f+1,k,L=>by
  unfold iO
  split
  ·rw [Lb f,yH]
  ·rfl
theorem F9 {lt:α→α→Bool}:(jF lt L).length=L.length:=by unfold jF;rw [Lb,A7]
theorem tV (g:α→β) (L:List α) (i j:Nat):(kE L i j).map g=kE (L.map g) i j:=by
 unfold kE
 rw [List.getElem?_map,List.getElem?_map]
 cases L[i]? <;> cases L[j]? <;> simp [List.map_set]
variable {lt:α→α→Bool} {lt':β→β→Bool} {g:α→β}
variable {L:List α}
theorem Lv (h:∀ x y,lt x y=lt' (g x) (g y)) (L:List α) (i j:Nat):iN lt L i j=iN lt' (L.map g) i j:=by
 unfold iN
 rw [List.getElem?_map,List.getElem?_map]
 cases L[i]? <;> cases L[j]? <;> simp [h]
theorem Kl (h:∀ x y,lt x y=lt' (g x) (g y)) {a:Nat}:∀ (j:Nat) (L:List α),(qG lt a j L).map g=qG lt' a j (L.map g)
 | 0,L=>rfl
 | j+1,L=>by
  unfold qG
  rw [apply_ite (List.map g),Kl h j,tV,Lv h]
theorem KJ (h:∀ x y,lt x y=lt' (g x) (g y)) {a:Nat}:∀ (n i:Nat) (L:List α),(qj lt a n i L).map g=qj lt' a n i (L.map g)
 | 0,_,L=>rfl
 | n+1,i,L=>by unfold qj;rw [KJ h n,Kl h]
theorem Y0 (h:∀ x y,lt x y=lt' (g x) (g y)) {a b:Nat}:(ins lt L a b).map g=ins lt' (L.map g) a b:=KJ h _ _ _
theorem Pe (g:α→β):∀ (n k:Nat) (L:List α),(upF n k L).map g=upF n k (L.map g)
 | 0,_,L=>rfl
 | n+1,k,L=>by unfold upF;rw [Pe g n,tV]
theorem EO (g:α→β) {i:Nat}:∀ (k:Nat) (L:List α),(jD i k L).map g=jD i k (L.map g)
 | 0,L=>rfl
 | k+1,L=>by unfold jD;rw [apply_ite (List.map g),EO g k,tV]
theorem AP (g:α→β):∀ (n a b:Nat) (L:List α),(swR n a b L).map g=swR n a b (L.map g)
 | 0,_,_,L=>rfl
 | n+1,a,b,L=>by unfold swR;rw [AP g n,tV]
theorem Dg (g:α→β):∀ (f:Nat) (L:List α) (m i j:Nat),(vQ f L m i j).map g=vQ f (L.map g) m i j
 | 0,L,_,_,_=>rfl
 | f+1,L,m,i,j=>by unfold vQ;rw [apply_ite (List.map g),apply_ite (List.map g),Dg g f,Dg g f,AP,AP,AP]
theorem PN (g:α→β) {s m e:Nat}:(nK L s m e).map g=nK (L.map g) s m e:=by
 unfold nK
 rw [apply_ite (List.map g),Dg]
theorem JZ (h:∀ x y,lt x y=lt' (g x) (g y)):∀ (f:Nat) (L:List α) (a m b:Nat),(jA lt f L a m b).map g=jA lt' f (L.map g) a m b
 | 0,L,_,_,_=>rfl
 | f+1,L,a,m,b=>by
  have e:iN lt L=iN lt' (L.map g):=funext fun i=>funext fun j=>Lv h L i j
  have e2:sF lt L a m b=sF lt' (L.map g) a m b:=by unfold sF;rw [e]
  unfold jA
  simp only [apply_ite (List.map g),JZ h f,Pe,EO,PN,e,e2]
theorem EN (h:∀ x y,lt x y=lt' (g x) (g y)) {n k:Nat}:∀ (f a:Nat) (L:List α),(mG lt n k f a L).map g=mG lt' n k f a (L.map g)
 | 0,_,L=>rfl
 | f+1,a,L=>by unfold mG;simp only [apply_ite (List.map g),EN h f,JZ h]
theorem KS (h:∀ x y,lt x y=lt' (g x) (g y)) {n:Nat}:∀ (f a:Nat) (L:List α),(Ac lt n f a L).map g=Ac lt' n f a (L.map g)
 | 0,_,L=>rfl
 | f+1,a,L=>by unfold Ac;simp only [apply_ite (List.map g),KS h f,Y0 h]
theorem Jm (h:∀ x y,lt x y=lt' (g x) (g y)) {n:Nat}:∀ (f k:Nat) (L:List α),(iO lt n f k L).map g=iO lt' n f k (L.map g)
 | 0,_,L=>rfl
 | f+1,k,L=>by unfold iO;simp only [apply_ite (List.map g),Jm h f,EN h]
theorem Qj (h:∀ x y,lt x y=lt' (g x) (g y)) (L:List α):(jF lt L).map g=jF lt' (L.map g):=by
 unfold jF
 rw [Jm h,KS h,List.length_map]
end
section
variable {β:Type} {lt:β→β→Bool} {R:β→β→Prop}
variable {j:Nat} {x:β} {k:Nat} {y:β} {r:List (List β)} {X:List β} {i:Nat} {A B:List β}
def Cm (lt:β→β→Bool) (R:β→β→Prop) (x y:β):Prop:=(lt y x=true→R y x)∧(lt y x=false→R x y)
theorem tT (h:i=A.length):(A++x::B)[i]? = some x:=by subst h;simp
theorem set_mid (h:i=A.length):(A++x::B).set i y=A++y::B:=by subst h;simp
theorem KV {C:List β} (hi:i=A.length) (hj:j=A.length+1+C.length):kE (A++x::(C++y::B)) i j=A++y::(C++x::B):=by
 have e1:(A++x::(C++y::B))[i]? = some x:=tT hi
 have e2:(A++x::(C++y::B))[j]? = some y:=by
  rw [show A++x::(C++y::B)=(A++x::C)++y::B by simp]
  exact tT (by simp;omega)
 unfold kE
 rw [e1,e2]
 dsimp only
 rw [set_mid hi,show A++y::(C++y::B)=(A++y::C)++y::B by simp,set_mid (by simp;omega)]
 simp
theorem FB (hj:j=A.length) (hi:i=A.length+1):kE (A++x::y::B) i j=A++y::x::B:=by
 have e1:(A++x::y::B)[j]? = some x:=tT hj
 have e2:(A++x::y::B)[i]? = some y:=by
  rw [show A++x::y::B=(A++[x])++y::B by simp]
  exact tT (by simp;omega)
 unfold kE
 rw [e1,e2]
 dsimp only
 rw [show A++x::y::B=(A++[x])++y::B by simp,set_mid (by simp;omega),show (A++[x])++x::B=A++x::(x::B) by simp,set_mid hj]
theorem Gi (tr:∀ x y z,R x y→R y z→R x z) (P:List β) (e:β):∀ (n:Nat) (X S:List β),X.length=n→X.Pairwise R→(∀ x∈X,Cm lt R x e)→∃ Z,qG lt P.length (P.length+X.length) (P++X++e::S)=P++Z++S∧Z.Perm (X++[e])∧Z.Pairwise R
 | n,X,S,hn,hX,hC=>by
  rcases List.eq_nil_or_concat X with rfl|⟨X',x,rfl⟩
  ·refine ⟨[e],?_,by simp,by simp⟩
   show qG lt P.length (P.length+0) _=_
   rw [Nat.add_zero]
   cases hl:P.length with
   | zero=>simp [qG]
   | succ k =>
    unfold qG
    rw [if_neg (by omega)]
    simp
  ·rw [List.concat_eq_append] at *
   rw [List.pairwise_append] at hX
   have hx:=hC x (by simp)
   have hlen:P.length+(X'++[x]).length=(P.length+X'.length)+1:=by simp;omega
   rw [hlen]
   unfold qG
   have e1:(P++(X'++[x])++e::S)[P.length+X'.length+1]? = some e:=tT (by simp;omega)
   have e2:(P++(X'++[x])++e::S)[P.length+X'.length]? = some x:=by
    rw [show P++(X'++[x])++e::S=(P++X')++x::(e::S) by simp]
    exact tT (by simp)
   have e3:iN lt (P++(X'++[x])++e::S) (P.length+X'.length+1) (P.length+X'.length)=lt e x:=by unfold iN;rw [e1,e2]
   rw [e3]
   cases hl:lt e x with
   | false =>
    rw [if_neg (by simp)]
    refine ⟨X'++[x]++[e],by simp,.refl _,?_⟩
    have hxe:=hx.2 hl
    rw [List.pairwise_append]
    refine ⟨by rw [List.pairwise_append];exact hX,by simp,fun a ha b hb=>?_⟩
    simp only [List.mem_singleton] at hb
    subst hb
    rcases List.mem_append.1 ha with ha|ha
    ·exact tr _ _ _ (hX.2.2 a ha x (by simp)) hxe
    ·simp only [List.mem_singleton] at ha;subst ha;exact hxe
   | true =>
    rw [if_pos ⟨by omega,rfl⟩]
    have hex:=hx.1 hl
    rw [show P++(X'++[x])++e::S=(P++X')++x::e::S by simp,FB (by simp) (by simp)]
    obtain ⟨Z,h1,h2,h3⟩:=Gi tr P e (n-1) X' (x::S) (by simp at hn;omega) hX.1 fun a ha=>hC a (by simp [ha])
    refine ⟨Z++[x],?_,?_,?_⟩
    ·rw [h1];simp
    ·refine (h2.append_right [x]).trans ?_
     simp only [List.append_assoc]
     exact List.Perm.append_left _ (List.Perm.swap _ _ _)
    ·rw [List.pairwise_append]
     refine ⟨h3,by simp,fun a ha b hb=>?_⟩
     simp only [List.mem_singleton] at hb
     subst hb
     rcases List.mem_append.1 (h2.mem_iff.1 ha) with ha|ha
     ·exact hX.2.2 a ha _ (by simp)
     ·simp only [List.mem_singleton] at ha;subst ha;exact hex
 termination_by n=>n
 decreasing_by simp_all;omega
theorem FK (tr:∀ x y z,R x y→R y z→R x z) (P S:List β):∀ (W X:List β),X.Pairwise R→(∀ x∈X,∀ e∈W,Cm lt R x e)→W.Pairwise (Cm lt R)→∃ Z,qj lt P.length W.length (P.length+X.length) (P++X++W++S)=P++Z++S∧Z.Perm (X++W)∧Z.Pairwise R
 | [],X,hX,_,_=>⟨X,by simp [qj],by simp,hX⟩
 | e::W,X,hX,hC,hW=>by
  rw [List.pairwise_cons] at hW
  obtain ⟨Z,h1,h2,h3⟩:=Gi tr P e X.length X (W++S) rfl hX fun x hx=>hC x hx e (by simp)
  have hl:Z.length=X.length+1:=by rw [h2.length_eq];simp
  obtain ⟨Z2,g1,g2,g3⟩:=FK tr P S W Z h3 (fun x hx y hy=>by
   rcases List.mem_append.1 (h2.mem_iff.1 hx) with hx|hx
   ·exact hC x hx y (by simp [hy])
   ·simp only [List.mem_singleton] at hx;subst hx;exact hW.1 y hy) hW.2
  refine ⟨Z2,?_,g2.trans ?_,g3⟩
  ·show qj lt P.length (W.length+1) _ _=_
   unfold qj
   rw [show P++X++e::W++S=P++X++e::(W++S) by simp,h1,← g1,hl]
   simp [Nat.add_assoc]
  ·refine (h2.append_right W).trans ?_
   simp
theorem JG (tr:∀ x y z,R x y→R y z→R x z) (P S W:List β) (hW:W.Pairwise (Cm lt R)):∃ Z,ins lt (P++W++S) P.length (P.length+W.length)=P++Z++S∧Z.Perm W∧Z.Pairwise R:=by
 unfold ins
 cases W with
 | nil=>exact ⟨[],by simp [qj],by simp,by simp⟩
 | cons w W =>
  rw [List.pairwise_cons] at hW
  obtain ⟨Z,h1,h2,h3⟩:=FK (lt:=lt) tr P S W [w] (by simp) (fun x hx e he=>by simp only [List.mem_singleton] at hx;subst hx;exact hW.1 e he) hW.2
  refine ⟨Z,?_,by simpa using h2,h3⟩
  rw [← h1,show P.length+(w::W).length-(P.length+1)=W.length by simp;omega]
  simp
theorem nE (p:Nat→Bool):∀ (f i j:Nat),i≤j→j-i≤f→i≤bs p f i j∧bs p f i j≤j∧(i<bs p f i j→p (bs p f i j-1)=true)∧(bs p f i j<j→p (bs p f i j)=false)
 | 0,i,j,h,hf=>by unfold bs;refine ⟨Nat.le_refl _,h,by omega,by omega⟩
 | f+1,i,j,h,hf=>by
  unfold bs
  by_cases hij:i<j
  ·rw [if_pos hij]
   by_cases hp:p ((i+j)/2)=true
   ·rw [if_pos hp]
    obtain ⟨h1,h2,h3,h4⟩:=nE p f ((i+j)/2+1) j (by omega) (by omega)
    refine ⟨by omega,h2,fun _=>?_,h4⟩
    by_cases he:(i+j)/2+1<bs p f ((i+j)/2+1) j
    ·exact h3 he
    ·rw [show bs p f ((i+j)/2+1) j-1=(i+j)/2 by omega];exact hp
   ·rw [if_neg hp]
    obtain ⟨h1,h2,h3,h4⟩:=nE p f i ((i+j)/2) (by omega) (by omega)
    refine ⟨h1,by omega,h3,fun _=>?_⟩
    by_cases he:bs p f i ((i+j)/2)<(i+j)/2
    ·exact h4 he
    ·rw [show bs p f i ((i+j)/2)=(i+j)/2 by omega];simpa using hp
  ·rw [if_neg hij];refine ⟨Nat.le_refl _,h,by omega,by omega⟩
theorem Ps {x:β}:∀ (Y P S:List β),upF Y.length P.length (P++x::(Y++S))=P++Y++x::S
 | [],P,S=>by simp [upF]
 | y::Y,P,S=>by
  show upF (Y.length+1) _ _=_
  unfold upF
  rw [show P++x::(y::Y++S)=P++x::([]++y::(Y++S)) by simp,KV rfl (by simp),List.nil_append]
  have:=Ps (x:=x) Y (P++[y]) S
  simp only [List.length_append,List.length_cons,List.length_nil,Nat.zero_add,List.append_assoc,List.cons_append,List.nil_append] at this ⊢
  rw [this]
theorem Gh {y:β} (P:List β):∀ (n:Nat) (X S:List β),X.length=n→jD P.length (P.length+X.length) (P++X++y::S)=P++y::X++S
 | n,X,S,hn=>by
  rcases List.eq_nil_or_concat X with rfl|⟨X',x,rfl⟩
  ·show jD P.length (P.length+0) _=_
   rw [Nat.add_zero]
   cases hl:P.length with
   | zero=>simp [jD]
   | succ k=>unfold jD;rw [if_neg (by omega)];simp
  ·rw [List.concat_eq_append] at *
   have hlen:P.length+(X'++[x]).length=(P.length+X'.length)+1:=by simp;omega
   rw [hlen]
   unfold jD
   rw [if_pos (by omega),show P++(X'++[x])++y::S=(P++X')++x::y::S by simp,FB (by simp) (by simp)]
   rw [Gh P (n-1) X' (x::S) (by simp at hn;omega)]
   simp
 termination_by n=>n
 decreasing_by simp_all;omega
theorem xk:∀ (X Y A C B:List β),X.length=Y.length→swR X.length A.length (A.length+X.length+C.length) (A++(X++(C++(Y++B))))=A++(Y++(C++(X++B)))
 | [],[],A,C,B,_=>by simp [swR]
 | [],_::_,_,_,_,h=>by simp at h
 | _::_,[],_,_,_,h=>by simp at h
 | x::X,y::Y,A,C,B,h=>by
  have ih:=xk X Y (A++[y]) (C++[x]) B (by simpa using h)
  show swR (X.length+1) _ _ _=_
  unfold swR
  rw [show A++(x::X++(C++(y::Y++B)))=A++x::((X++C)++y::(Y++B)) by simp,KV rfl (by simp;omega)]
  rw [show A++y::((X++C)++x::(Y++B))=(A++[y])++(X++((C++[x])++(Y++B))) by simp]
  rw [show A.length+(x::X).length+C.length+1=(A++[y]).length+X.length+(C++[x]).length by simp;omega,show A.length+1=(A++[y]).length by simp,ih]
  simp
theorem CU:∀ (f:Nat) (A X Y B:List β),0<X.length→0<Y.length→X.length+Y.length≤f→vQ f (A++(X++(Y++B))) (A.length+X.length) X.length Y.length=A++(Y++(X++B))
 | 0,A,X,Y,B,hx,hy,hf=>by omega
 | f+1,A,X,Y,B,hx,hy,hf=>by
  unfold vQ
  have e0:A.length+X.length-X.length=A.length:=by omega
  by_cases h:X.length=Y.length
  ·rw [if_pos h,e0]
   have:=xk X Y A [] B h
   simpa using this
  ·rw [if_neg h]
   by_cases h2:Y.length<X.length
   ·rw [if_pos h2,e0]
    obtain ⟨X1,X2,rfl,hX1⟩:∃ X1 X2,X=X1++X2∧X1.length=Y.length:=⟨X.take Y.length,X.drop Y.length,(List.take_append_drop _ _).symm,by simp;omega⟩
    have h3:=xk X1 Y A X2 B hX1
    have h4:=CU f (A++Y) X2 X1 B (by simp at h2;omega) (by omega) (by simp at hf;omega)
    simp only [List.length_append,List.append_assoc] at h3 h4 ⊢
    rw [hX1] at h3
    rw [show A.length+(X1.length+X2.length)=A.length+Y.length+X2.length by omega,h3]
    rw [show X1.length+X2.length-Y.length=X2.length by omega]
    rw [hX1] at h4
    exact h4
   ·rw [if_neg h2,e0]
    obtain ⟨Y1,Y2,rfl,hY2⟩:∃ Y1 Y2,Y=Y1++Y2∧Y2.length=X.length:=⟨Y.take (Y.length-X.length),Y.drop (Y.length-X.length),(List.take_append_drop _ _).symm,by simp;omega⟩
    have h3:=xk X Y2 A Y1 B hY2.symm
    have h4:=CU f A Y2 Y1 (X++B) (by omega) (by simp at h h2;omega) (by simp at hf;omega)
    simp only [List.length_append,List.append_assoc] at h3 h4 ⊢
    rw [show A.length+X.length+(Y1.length+Y2.length)-X.length=A.length+X.length+Y1.length by omega,h3]
    rw [show Y1.length+Y2.length-X.length=Y1.length by omega]
    rw [hY2] at h4
    exact h4
theorem Am {P Y S:List β} {i' j':Nat} (hi:i=P.length+X.length+i') (hj:j=P.length+j') (hy:Y[i']? = some y) (hx:X[j']? = some x):iN lt (P++(X++(Y++S))) i j=lt y x:=by
 have h1:=(List.getElem?_eq_some_iff.1 hy).1
 have h2:=(List.getElem?_eq_some_iff.1 hx).1
 unfold iN
 have e1:(P++(X++(Y++S)))[i]? = some y:=by
  rw [List.getElem?_append_right (by omega),List.getElem?_append_right (by omega),List.getElem?_append_left (by omega),← hy]
  congr 1;omega
 have e2:(P++(X++(Y++S)))[j]? = some x:=by
  rw [List.getElem?_append_right (by omega),List.getElem?_append_left (by omega),← hx]
  congr 1;omega
 rw [e1,e2]
theorem Uj (h:X.Pairwise R) (hx:X[i]? = some x) (hy:X[j]? = some y) (hij:i<j):R x y:=by
 obtain ⟨h1,rfl⟩:=List.getElem?_eq_some_iff.1 hx
 obtain ⟨h2,rfl⟩:=List.getElem?_eq_some_iff.1 hy
 exact List.pairwise_iff_getElem.1 h i j h1 h2 hij
theorem cross (tr:∀ x y z,R x y→R y z→R x z) {U V:List β} (hU:U.Pairwise R) (hV:V.Pairwise R) (h:∀ x y,U[U.length-1]? = some x→V[0]? = some y→R x y):∀ x∈U,∀ y∈V,R x y:=by
 intro x hx y hy
 obtain ⟨i,hi⟩:=List.mem_iff_getElem?.1 hx
 obtain ⟨j,hj⟩:=List.mem_iff_getElem?.1 hy
 have li:=(List.getElem?_eq_some_iff.1 hi).1
 have lj:=(List.getElem?_eq_some_iff.1 hj).1
 have h1:U[U.length-1]? = some U[U.length-1]:=List.getElem?_eq_getElem (by omega)
 have h2:V[0]? = some V[0]:=List.getElem?_eq_getElem (by omega)
 have h0:=h _ _ h1 h2
 have a:∀ z,R U[U.length-1] z→R x z:=fun z hz=>by
  by_cases e:i<U.length-1
  ·exact tr _ _ _ (Uj hU hi h1 e) hz
  ·have:i=U.length-1:=by omega
   subst this
   rw [h1] at hi;cases hi;exact hz
 apply a
 by_cases e:0<j
 ·exact tr _ _ _ h0 (Uj hV h2 hj e)
 ·have:j=0:=by omega
  subst this
  rw [h2] at hj;cases hj;exact h0
theorem xN (tr:∀ x y z,R x y→R y z→R x z):∀ (f:Nat) (P X Y S:List β),0<X.length→0<Y.length→X.length+Y.length≤f→X.Pairwise R→Y.Pairwise R→(∀ x∈X,∀ y∈Y,Cm lt R x y) →
  ∃ Z,jA lt f (P++(X++(Y++S))) P.length (P.length+X.length) (P.length+X.length+Y.length)=P++(Z++S)∧Z.Perm (X++Y)∧Z.Pairwise R
 | 0,P,X,Y,S,hx,hy,hf,_,_,_=>by omega
 | f+1,P,X,Y,S,hx,hy,hf,hX,hY,hC=>by
  unfold jA
  by_cases h1:P.length+X.length-P.length=1
  ·rw [if_pos h1]
   obtain ⟨x,rfl⟩:∃ x,X=[x]:=List.length_eq_one_iff.1 (by omega)
   have hm:P.length+[x].length=P.length+1:=rfl
   rw [hm]
   have hq:∀ k y,Y[k]? = some y→iN lt (P++([x]++(Y++S))) (P.length+1+k) P.length=lt y x:=fun k y hk=>Am (i':=k) (j':=0) (by simp) rfl hk rfl
   obtain ⟨b1,b2,b3,b4⟩:=nE (fun h=>iN lt (P++([x]++(Y++S))) h P.length) (P.length+1+Y.length-(P.length+1)) (P.length+1) (P.length+1+Y.length) (by omega) (Nat.le_refl _)
   generalize bs (fun h=>iN lt (P++([x]++(Y++S))) h P.length) (P.length+1+Y.length-(P.length+1)) (P.length+1) (P.length+1+Y.length)=i at *
   obtain ⟨d,rfl⟩:∃ d,i=P.length+1+d:=⟨i-(P.length+1),by omega⟩
   obtain ⟨Y1,Y2,rfl,hY1⟩:∃ Y1 Y2,Y=Y1++Y2∧Y1.length=d:=⟨Y.take d,Y.drop d,(List.take_append_drop _ _).symm,by simp;omega⟩
   rw [List.pairwise_append] at hY
   have c1:∀ u∈Y1,∀ v∈[x],R u v:=cross tr hY.1 (by simp) fun u v hu hv=>by
    simp at hv;subst hv
    have hd:0<d:=by have:=(List.getElem?_eq_some_iff.1 hu).1;omega
    have:=b3 (by omega)
    rw [show P.length+1+d-1=P.length+1+(d-1) by omega,hq (d-1) u (by rw [List.getElem?_append_left (by omega),← hY1];exact hu)] at this
    exact (hC _ (by simp) u (by simp [List.mem_of_getElem? hu])).1 this
   have c2:∀ u∈[x],∀ v∈Y2,R u v:=cross tr (by simp) hY.2.1 fun u v hu hv=>by
    simp at hu;subst hu
    have hl:0<Y2.length:=(List.getElem?_eq_some_iff.1 hv).1
    have:=b4 (by simp;omega)
    rw [hq d v (by rw [List.getElem?_append_right (by omega),hY1,Nat.sub_self];exact hv)] at this
    exact (hC _ (by simp) v (by simp [List.mem_of_getElem? hv])).2 this
   refine ⟨Y1++x::Y2,?_,?_,?_⟩
   ·rw [show P.length+1+d-1-P.length=Y1.length by omega]
    have:=Ps (x:=x) Y1 P (Y2++S)
    simpa using this
   ·exact List.perm_middle
   ·rw [List.pairwise_append,List.pairwise_cons]
    refine ⟨hY.1,⟨fun v hv=>c2 x (by simp) v hv,hY.2.1⟩,fun u hu v hv=>?_⟩
    rcases List.mem_cons.1 hv with rfl|hv
    ·exact c1 u hu _ (by simp)
    ·exact hY.2.2 u hu v hv
  ·rw [if_neg h1]
   by_cases h2:P.length+X.length+Y.length-(P.length+X.length)=1
   ·rw [if_pos h2]
    obtain ⟨y,rfl⟩:∃ y,Y=[y]:=List.length_eq_one_iff.1 (by omega)
    have hq:∀ k x,X[k]? = some x→iN lt (P++(X++([y]++S))) (P.length+X.length) (P.length+k)=lt y x:=fun k x hk=>Am (i':=0) (j':=k) rfl rfl rfl hk
    obtain ⟨b1,b2,b3,b4⟩:=nE (fun h => !iN lt (P++(X++([y]++S))) (P.length+X.length) h) (P.length+X.length-P.length) P.length (P.length+X.length) (by omega) (Nat.le_refl _)
    generalize bs (fun h => !iN lt (P++(X++([y]++S))) (P.length+X.length) h) (P.length+X.length-P.length) P.length (P.length+X.length)=i at *
    obtain ⟨d,rfl⟩:∃ d,i=P.length+d:=⟨i-P.length,by omega⟩
    obtain ⟨X1,X2,rfl,hX1⟩:∃ X1 X2,X=X1++X2∧X1.length=d:=⟨X.take d,X.drop d,(List.take_append_drop _ _).symm,by simp;omega⟩
    rw [List.pairwise_append] at hX
    have c1:∀ u∈X1,∀ v∈[y],R u v:=cross tr hX.1 (by simp) fun u v hu hv=>by
     simp at hv;subst hv
     have hd:0<d:=by have:=(List.getElem?_eq_some_iff.1 hu).1;omega
     have:=b3 (by omega)
     rw [show P.length+d-1=P.length+(d-1) by omega,hq (d-1) u (by rw [List.getElem?_append_left (by omega),← hX1];exact hu)] at this
     exact (hC u (by simp [List.mem_of_getElem? hu]) _ (by simp)).2 (by simpa using this)
    have c2:∀ u∈[y],∀ v∈X2,R u v:=cross tr (by simp) hX.2.1 fun u v hu hv=>by
     simp at hu;subst hu
     have hl:0<X2.length:=(List.getElem?_eq_some_iff.1 hv).1
     have:=b4 (by simp;omega)
     rw [hq d v (by rw [List.getElem?_append_right (by omega),hX1,Nat.sub_self];exact hv)] at this
     exact (hC v (by simp [List.mem_of_getElem? hv]) _ (by simp)).1 (by simpa using this)
    refine ⟨X1++y::X2,?_,?_,?_⟩
    ·have:=Gh (y:=y) (P++X1) X2.length X2 S rfl
     simp only [List.length_append,hX1,← Nat.add_assoc] at this ⊢
     simpa using this
    ·refine (List.perm_middle (l₁:=X1) (l₂:=X2) (a:=y)).trans ?_
     simpa using (List.perm_append_comm (l₁:=[y]) (l₂:=X1++X2))
    ·rw [List.pairwise_append,List.pairwise_cons]
     refine ⟨hX.1,⟨fun v hv=>c2 y (by simp) v hv,hX.2.1⟩,fun u hu v hv=>?_⟩
     rcases List.mem_cons.1 hv with rfl|hv
     ·exact c1 u hu _ (by simp)
     ·exact hX.2.2 u hu v hv
   ·rw [if_neg h2]
    dsimp only
    generalize hL:P++(X++(Y++S))=L at *
    generalize ha:P.length=a at *
    generalize hmd:(a+(a+X.length+Y.length))/2=mid
    have hs0:s0F a (a+X.length) (a+X.length+Y.length)=if mid<a+X.length then mid+(a+X.length)-(a+X.length+Y.length) else a:=by unfold s0F;rw [hmd]
    have hr:rF a (a+X.length) (a+X.length+Y.length)=if mid<a+X.length then mid else a+X.length:=by unfold rF;rw [hmd]
    have hsF:sF lt L a (a+X.length) (a+X.length+Y.length)=bs (fun c => !iN lt L (mid+(a+X.length)-1-c) c) (rF a (a+X.length) (a+X.length+Y.length)-s0F a (a+X.length) (a+X.length+Y.length)) (s0F a (a+X.length) (a+X.length+Y.length)) (rF a (a+X.length) (a+X.length+Y.length)):=by unfold sF;rw [hmd]
    generalize s0F a (a+X.length) (a+X.length+Y.length)=s0 at *
    generalize rF a (a+X.length) (a+X.length+Y.length)=r at *
    have hx2:2≤X.length:=by omega
    have hy2:2≤Y.length:=by omega
    have hsr:s0≤r:=by rw [hs0,hr];split<;>omega
    obtain ⟨b1,b2,b3,b4⟩:=nE (fun c => !iN lt L (mid+(a+X.length)-1-c) c) (r-s0) s0 r hsr (Nat.le_refl _)
    rw [← hsF] at b1 b2 b3 b4
    generalize sF lt L a (a+X.length) (a+X.length+Y.length)=s at *
    clear hsF
    have hsa:a≤s:=by
     have:a≤s0:=by rw [hs0];split<;>omega
     omega
    have hsm:s≤a+X.length:=by
     have:r≤a+X.length:=by rw [hr];split<;>omega
     omega
    have hsmid:s≤mid:=by
     have:r≤mid:=by rw [hr];split<;>omega
     omega
    have heb:mid+(a+X.length)-s≤a+X.length+Y.length:=by
     have:mid+(a+X.length)≤s0+(a+X.length+Y.length):=by rw [hs0];split<;>omega
     omega
    obtain ⟨X1,X2,rfl,hX1⟩:∃ X1 X2,X=X1++X2∧X1.length=s-a:=⟨X.take (s-a),X.drop (s-a),(List.take_append_drop _ _).symm,by simp;omega⟩
    obtain ⟨Y1,Y2,rfl,hY1⟩:∃ Y1 Y2,Y=Y1++Y2∧Y1.length=mid-s:=⟨Y.take (mid-s),Y.drop (mid-s),(List.take_append_drop _ _).symm,by simp;omega⟩
    have hXs:=hX
    have hYs:=hY
    rw [List.pairwise_append] at hX hY
    simp only [List.length_append] at *
    have c1:∀ u∈X1,∀ v∈Y2,R u v:=cross tr hX.1 hY.2.1 fun u v hu hv=>by
     have l1:=(List.getElem?_eq_some_iff.1 hu).1
     have l2:=(List.getElem?_eq_some_iff.1 hv).1
     have hs:s0<s:=by
      by_cases e:mid<a+(X1.length+X2.length)
      ·rw [if_pos e] at hs0;omega
      ·rw [if_neg e] at hs0;omega
     have hp:=b3 hs
     have hq:iN lt L (mid+(a+(X1.length+X2.length))-1-(s-1)) (s-1)=lt v u:=by
      rw [← hL]
      exact Am (i':=Y1.length) (j':=X1.length-1) (by simp;omega) (by omega) (by rw [List.getElem?_append_right (by omega),Nat.sub_self];exact hv) (by rw [List.getElem?_append_left (by omega)];exact hu)
     rw [hq] at hp
     exact (hC u (by simp [List.mem_of_getElem? hu]) v (by simp [List.mem_of_getElem? hv])).2 (by simpa using hp)
    have c2:∀ u∈Y1,∀ v∈X2,R u v:=cross tr hY.1 hX.2.1 fun u v hu hv=>by
     have l1:=(List.getElem?_eq_some_iff.1 hu).1
     have l2:=(List.getElem?_eq_some_iff.1 hv).1
     have hs:s<r:=by
      by_cases e:mid<a+(X1.length+X2.length)
      ·rw [if_pos e] at hr;omega
      ·rw [if_neg e] at hr;omega
     have hp:=b4 hs
     have hq:iN lt L (mid+(a+(X1.length+X2.length))-1-s) s=lt u v:=by
      rw [← hL]
      exact Am (i':=Y1.length-1) (j':=X1.length) (by simp;omega) (by omega) (by rw [List.getElem?_append_left (by omega)];exact hu) (by rw [List.getElem?_append_right (by omega),Nat.sub_self];exact hv)
     rw [hq] at hp
     exact (hC v (by simp [List.mem_of_getElem? hv]) u (by simp [List.mem_of_getElem? hu])).1 (by simpa using hp)
    have hrot:nK L s (a+(X1.length+X2.length)) (mid+(a+(X1.length+X2.length))-s)=P++(X1++(Y1++(X2++(Y2++S)))):=by
     unfold nK
     rw [← hL]
     by_cases e:s<a+(X1.length+X2.length)∧a+(X1.length+X2.length)<mid+(a+(X1.length+X2.length))-s
     ·rw [if_pos e]
      have:=CU (mid+(a+(X1.length+X2.length))-s-s) (P++X1) X2 Y1 (Y2++S) (by omega) (by omega) (by omega)
      rw [show a+(X1.length+X2.length)-s=X2.length by omega,show mid+(a+(X1.length+X2.length))-s-(a+(X1.length+X2.length))=Y1.length by omega]
      simp only [List.length_append,List.append_assoc] at this ⊢
      rw [show P.length+X1.length+X2.length=a+(X1.length+X2.length) by omega] at this
      exact this
     ·rw [if_neg e]
      by_cases e2:X2.length=0
      ·have:X2=[]:=List.eq_nil_of_length_eq_zero e2
       subst this;simp
      ·have:Y1=[]:=List.eq_nil_of_length_eq_zero (by omega)
       subst this;simp
    rw [hrot]
    have hZ1:∃ Z,(if a<s∧s<mid then jA lt f (P++(X1++(Y1++(X2++(Y2++S))))) a s mid else P++(X1++(Y1++(X2++(Y2++S)))))=P++(Z++(X2++(Y2++S)))∧Z.Perm (X1++Y1)∧Z.Pairwise R:=by
     by_cases e:a<s∧s<mid
     ·rw [if_pos e]
      obtain ⟨Z,z1,z2,z3⟩:=xN tr f P X1 Y1 (X2++(Y2++S)) (by omega) (by omega) (by omega) hX.1 hY.1 fun x hx y hy=>hC x (by simp [hx]) y (by simp [hy])
      rw [ha,show a+X1.length=s by omega,show s+Y1.length=mid by omega] at z1
      exact ⟨Z,z1,z2,z3⟩
     ·rw [if_neg e]
      refine ⟨X1++Y1,by simp,.refl _,?_⟩
      by_cases e2:X1.length=0
      ·have:X1=[]:=List.eq_nil_of_length_eq_zero e2
       subst this;exact hY.1
      ·have:Y1=[]:=List.eq_nil_of_length_eq_zero (by omega)
       subst this;simpa using hX.1
    obtain ⟨Z1,z1,z2,z3⟩:=hZ1
    rw [z1]
    have hl1:Z1.length=X1.length+Y1.length:=by rw [z2.length_eq];simp
    have hZ2:∃ Z,(if mid<mid+(a+(X1.length+X2.length))-s∧mid+(a+(X1.length+X2.length))-s<a+(X1.length+X2.length)+(Y1.length+Y2.length) then jA lt f (P++(Z1++(X2++(Y2++S)))) mid (mid+(a+(X1.length+X2.length))-s) (a+(X1.length+X2.length)+(Y1.length+Y2.length)) else P++(Z1++(X2++(Y2++S))))=P++(Z1++(Z++S))∧Z.Perm (X2++Y2)∧Z.Pairwise R:=by
     by_cases e:mid<mid+(a+(X1.length+X2.length))-s∧mid+(a+(X1.length+X2.length))-s<a+(X1.length+X2.length)+(Y1.length+Y2.length)
     ·rw [if_pos e]
      obtain ⟨Z,w1,w2,w3⟩:=xN tr f (P++Z1) X2 Y2 S (by omega) (by omega) (by omega) hX.2.1 hY.2.1 fun x hx y hy=>hC x (by simp [hx]) y (by simp [hy])
      rw [List.length_append,ha,hl1,show a+(X1.length+Y1.length)=mid by omega,show mid+X2.length=mid+(a+(X1.length+X2.length))-s by omega,show mid+(a+(X1.length+X2.length))-s+Y2.length=a+(X1.length+X2.length)+(Y1.length+Y2.length) by omega] at w1
      simp only [List.append_assoc] at w1
      exact ⟨Z,w1,w2,w3⟩
     ·rw [if_neg e]
      refine ⟨X2++Y2,by simp,.refl _,?_⟩
      by_cases e2:X2.length=0
      ·have:X2=[]:=List.eq_nil_of_length_eq_zero e2
       subst this;exact hY.2.1
      ·have:Y2=[]:=List.eq_nil_of_length_eq_zero (by omega)
       subst this;simpa using hX.2.1
    obtain ⟨Z2,w1,w2,w3⟩:=hZ2
    rw [w1]
    refine ⟨Z1++Z2,by simp,(z2.append w2).trans ?_,?_⟩
    ·simp only [List.append_assoc]
     refine List.Perm.append_left _ ?_
     rw [← List.append_assoc,← List.append_assoc]
     exact List.Perm.append_right _ List.perm_append_comm
    ·rw [List.pairwise_append]
     refine ⟨z3,w3,fun u hu v hv=>?_⟩
     rcases List.mem_append.1 (z2.mem_iff.1 hu) with hu|hu<;>rcases List.mem_append.1 (w2.mem_iff.1 hv) with hv|hv
     ·exact hX.2.2 u hu v hv
     ·exact c1 u hu v hv
     ·exact c2 u hu v hv
     ·exact hY.2.2 u hu v hv
def Ch (k:Nat):List (List β)→Prop
 | []=>True
 | B::r=>0<B.length∧(r=[]∧B.length≤k∨r≠[]∧B.length=k∧Ch k r)
structure Good (lt:β→β→Bool) (R:β→β→Prop) (Bs:List (List β)):Prop where
 each:∀ B∈Bs,B.Pairwise R
 two:Bs.Pairwise fun B D=>∀ x∈B,∀ y∈D,Cm lt R x y
theorem Ch.len:∀ {Bs:List (List β)},Ch k Bs→Bs.length≤Bs.flatten.length
 | [],_=>by simp
 | B::r,h=>by
  have:r.length≤r.flatten.length:=by
   rcases h.2 with ⟨rfl,_⟩|⟨_,_,h⟩
   ·simp
   ·exact h.len
  have:=h.1
  rw [List.flatten_cons,List.length_append,List.length_cons]
  omega
theorem Ch.tail (h:Ch k (B::r)):Ch k r:=by
 rcases h.2 with ⟨rfl,_⟩|⟨_,_,h⟩
 ·exact trivial
 ·exact h
theorem lH:Good lt R (B::r)↔B.Pairwise R∧(∀ D∈r,∀ x∈B,∀ y∈D,Cm lt R x y)∧Good lt R r:=by
 constructor
 ·intro ⟨h1,h2⟩
  rw [List.pairwise_cons] at h2
  exact ⟨h1 B (by simp),h2.1,⟨fun D hD=>h1 D (by simp [hD]),h2.2⟩⟩
 ·intro ⟨h1,h2,h3⟩
  refine ⟨fun D hD=>?_,by rw [List.pairwise_cons];exact ⟨h2,h3.two⟩⟩
  rcases List.mem_cons.1 hD with rfl|hD
  ·exact h1
  ·exact h3.each D hD
theorem Fq (tr:∀ x y z,R x y→R y z→R x z) {k n:Nat} (hk:0<k):∀ (f:Nat) (P:List β) (Bs:List (List β)),Bs.length<f→n=P.length+Bs.flatten.length→Ch k Bs→Good lt R Bs →
  ∃ Bs',mG lt n k f P.length (P++Bs.flatten)=P++Bs'.flatten∧Bs'.flatten.Perm Bs.flatten∧Ch (2*k) Bs'∧Good lt R Bs'
 | 0,P,Bs,h,_,_,_=>by omega
 | f+1,P,[],_,hn,_,hg=>by
  refine ⟨[],?_,.refl _,trivial,hg⟩
  unfold mG
  simp only [List.flatten_nil,List.length_nil,Nat.add_zero] at hn
  rw [if_neg (by omega),if_neg (by omega)]
 | f+1,P,[B],_,hn,hc,hg=>by
  have hB:B.length≤k:=by
   rcases hc.2 with ⟨_,h⟩|⟨h,_⟩
   ·exact h
   ·exact absurd rfl h
  have h0:=hc.1
  refine ⟨[B],?_,.refl _,⟨hc.1,.inl ⟨rfl,by omega⟩⟩,hg⟩
  unfold mG
  simp only [List.flatten_cons,List.flatten_nil,List.append_nil] at hn ⊢
  rw [if_neg (by omega),if_neg (by omega)]
 | f+1,P,B::D::r,hf,hn,hc,hg=>by
  obtain ⟨g1,g2,g3⟩:=lH.1 hg
  obtain ⟨g4,g5,g6⟩:=lH.1 g3
  have hB:B.length=k:=by
   rcases hc.2 with ⟨h,_⟩|⟨_,h,_⟩
   ·cases h
   ·exact h
  have hcD:=hc.tail
  have hD0:=hcD.1
  unfold mG
  simp only [List.flatten_cons,List.length_append] at hn
  by_cases hr:r=[]
  ·subst hr
   have hD:D.length≤k:=by
    rcases hcD.2 with ⟨_,h⟩|⟨h,_⟩
    ·exact h
    ·exact absurd rfl h
   simp only [List.flatten_nil,List.length_nil,Nat.add_zero] at hn
   obtain ⟨Z,z1,z2,z3⟩:=xN (lt:=lt) tr (B.length+D.length) P B D [] (by omega) hD0 (Nat.le_refl _) g1 g4 fun x hx y hy=>g2 D (by simp) x hx y hy
   have hZl:Z.length=B.length+D.length:=by rw [z2.length_eq];simp
   refine ⟨[Z],?_,by simpa using z2,⟨by omega,.inl ⟨rfl,by omega⟩⟩,lH.2 ⟨z3,by simp,⟨by simp,by simp⟩⟩⟩
   simp only [List.flatten_cons,List.flatten_nil,List.append_nil]
   rw [List.append_nil,List.append_nil] at z1
   by_cases hD2:P.length+2*k≤n
   ·rw [if_pos hD2]
    rw [show P.length+k=P.length+B.length by omega,show P.length+2*k=P.length+B.length+D.length by omega,show 2*k=B.length+D.length by omega,z1]
    cases f with
    | zero=>rfl
    | succ f =>
     unfold mG
     rw [if_neg (by omega),if_neg (by omega)]
   ·rw [if_neg hD2,if_pos (by omega)]
    rw [show P.length+k=P.length+B.length by omega,show n=P.length+B.length+D.length by omega,show P.length+B.length+D.length-P.length=B.length+D.length by omega,z1]
  ·have hD:D.length=k:=by
    rcases hcD.2 with ⟨h,_⟩|⟨_,h,_⟩
    ·exact absurd h hr
    ·exact h
   obtain ⟨Z,z1,z2,z3⟩:=xN (lt:=lt) tr (B.length+D.length) P B D r.flatten (by omega) hD0 (Nat.le_refl _) g1 g4 fun x hx y hy=>g2 D (by simp) x hx y hy
   have hZl:Z.length=B.length+D.length:=by rw [z2.length_eq];simp
   rw [if_pos (by omega)]
   simp only [List.flatten_cons]
   rw [show P.length+k=P.length+B.length by omega,show P.length+2*k=P.length+B.length+D.length by omega,show 2*k=B.length+D.length by omega,z1]
   obtain ⟨Bs',y1,y2,y3,y4⟩:=Fq (n:=n) tr hk f (P++Z) r (by simp only [List.length_cons] at hf;omega) (by rw [List.length_append];omega) hcD.tail g6
   refine ⟨Z::Bs',?_,?_,?_,?_⟩
   ·rw [show P.length+B.length+D.length=(P++Z).length by simp;omega,← List.append_assoc,y1]
    simp
   ·simp only [List.flatten_cons]
    refine (z2.append y2).trans ?_
    simp
   ·refine ⟨by omega,.inr ⟨fun e=>?_,by omega,?_⟩⟩
    ·subst e
     have h:=y2.length_eq
     have h2:=Ch.len hcD.tail
     have h3:0<r.length:=by cases r with
      | nil=>exact absurd rfl hr
      | cons=>simp
     simp at h
     simp at h2
     omega
    ·rw [show B.length+D.length=2*k by omega];exact y3
   ·refine lH.2 ⟨z3,fun E hE x hx y hy=>?_,y4⟩
    have hy':y∈r.flatten:=y2.mem_iff.1 (List.mem_flatten.2 ⟨E,hE,hy⟩)
    obtain ⟨F,hF,hyF⟩:=List.mem_flatten.1 hy'
    rcases List.mem_append.1 (z2.mem_iff.1 hx) with hx|hx
    ·exact g2 F (by simp [hF]) x hx y hyF
    ·exact g5 F hF x hx y hyF
theorem Gb (tr:∀ x y z,R x y→R y z→R x z) {n:Nat}:∀ (f:Nat) (P W:List β),W.length<f→n=P.length+W.length→W.Pairwise (Cm lt R) →
  ∃ Bs,Ac lt n f P.length (P++W)=P++Bs.flatten∧Bs.flatten.Perm W∧Ch 20 Bs∧Good lt R Bs
 | 0,P,W,h,_,_=>by omega
 | f+1,P,W,hf,hn,hW=>by
  unfold Ac
  by_cases h:P.length+20≤n
  ·rw [if_pos h]
   obtain ⟨W1,W2,rfl,hW1⟩:∃ W1 W2,W=W1++W2∧W1.length=20:=⟨W.take 20,W.drop 20,(List.take_append_drop _ _).symm,by simp;omega⟩
   rw [List.pairwise_append] at hW
   obtain ⟨Z,z1,z2,z3⟩:=JG (lt:=lt) tr P W2 W1 hW.1
   have hZl:Z.length=20:=by rw [z2.length_eq,hW1]
   simp only [List.length_append] at hf hn
   obtain ⟨Bs,y1,y2,y3,y4⟩:=Gb (n:=n) tr f (P++Z) W2 (by omega) (by rw [List.length_append];omega) hW.2.1
   refine ⟨Z::Bs,?_,?_,?_,?_⟩
   ·rw [hW1] at z1
    rw [← List.append_assoc,z1,show P.length+20=(P++Z).length by simp;omega,y1]
    simp
   ·simp only [List.flatten_cons]
    exact z2.append y2
   ·refine ⟨by omega,?_⟩
    by_cases e:Bs=[]
    ·exact .inl ⟨e,by omega⟩
    ·exact .inr ⟨e,hZl,y3⟩
   ·refine lH.2 ⟨z3,fun E hE x hx y hy=>?_,y4⟩
    exact hW.2.2 x (z2.mem_iff.1 hx) y (y2.mem_iff.1 (List.mem_flatten.2 ⟨E,hE,hy⟩))
  ·rw [if_neg h]
   obtain ⟨Z,z1,z2,z3⟩:=JG (lt:=lt) tr P [] W hW
   rw [List.append_nil,List.append_nil,← hn] at z1
   by_cases e:W=[]
   ·subst e
    have:Z=[]:=by simpa using z2
    subst this
    exact ⟨[],by simpa using z1,.refl _,trivial,⟨by simp,by simp⟩⟩
   ·have hl:=z2.length_eq
    have:0<W.length:=by cases W with
     | nil=>exact absurd rfl e
     | cons=>simp
    exact ⟨[Z],by simpa using z1,by simpa using z2,⟨by omega,.inl ⟨rfl,by omega⟩⟩,lH.2 ⟨z3,by simp,⟨by simp,by simp⟩⟩⟩
theorem Tv (tr:∀ x y z,R x y→R y z→R x z) {n:Nat}:∀ (f k:Nat) (Bs:List (List β)),0<k→n≤k+f→n=Bs.flatten.length→Ch k Bs→Good lt R Bs →
  ∃ M,iO lt n f k Bs.flatten=M∧M.Perm Bs.flatten∧M.Pairwise R:=by
 have last:∀ (k:Nat) (Bs:List (List β)),Bs.flatten.length≤k→Ch k Bs→Good lt R Bs→Bs.flatten.Pairwise R:=fun k Bs hl hc hg=>by
  cases Bs with
  | nil=>simp
  | cons B r =>
   rcases hc.2 with ⟨rfl,_⟩|⟨h1,h2,h3⟩
   ·simpa using hg.each B (by simp)
   ·have:=h3.len
    have h4:0<r.length:=by cases r with
     | nil=>exact absurd rfl h1
     | cons=>simp
    rw [List.flatten_cons,List.length_append] at hl
    omega
 intro f
 induction f with
 | zero =>
  intro k Bs hk hn hl hc hg
  exact ⟨_,rfl,.refl _,last k Bs (by omega) hc hg⟩
 | succ f ih =>
  intro k Bs hk hn hl hc hg
  unfold iO
  by_cases h:k<n
  ·rw [if_pos h]
   obtain ⟨Bs',y1,y2,y3,y4⟩:=Fq (lt:=lt) tr hk (n+1) [] Bs (by have:=hc.len;omega) (by simpa using hl) hc hg
   simp only [List.length_nil,List.nil_append] at y1
   rw [y1]
   obtain ⟨M,m1,m2,m3⟩:=ih (2*k) Bs' (by omega) (by omega) (by rw [y2.length_eq];exact hl) y3 y4
   exact ⟨M,m1,m2.trans y2,m3⟩
  ·rw [if_neg h]
   exact ⟨_,rfl,.refl _,last k Bs (by omega) hc hg⟩
theorem abT (tr:∀ x y z,R x y→R y z→R x z) (W:List β) (hW:W.Pairwise (Cm lt R)):(jF lt W).Perm W∧(jF lt W).Pairwise R:=by
 unfold jF
 obtain ⟨Bs,y1,y2,y3,y4⟩:=Gb (lt:=lt) tr (W.length+1) [] W (by omega) (by simp;rfl) hW
 simp only [List.length_nil,List.nil_append] at y1
 rw [y1]
 obtain ⟨M,m1,m2,m3⟩:=Tv (lt:=lt) tr W.length 20 Bs (by omega) (by omega) y2.length_eq.symm y3 y4
 rw [m1]
 exact ⟨m2.trans y2,m3⟩
end
section
variable {α:Type} {lt:α→α→Bool}
structure Weak (lt:α→α→Bool):Prop where
 asymm:∀ x y,lt x y=true→lt y x=false
 neg:∀ x y z,lt x z=true→lt x y=true∨lt y z=true
def Ah (lt:α→α→Bool) (p q:α × Nat):Prop:=lt p.1 q.1=true∨lt q.1 p.1=false∧p.2<q.2
theorem Ah.trans (hw:Weak lt) (p q r:α × Nat) (h1:Ah lt p q) (h2:Ah lt q r):Ah lt p r:=by
 rcases h1 with h1|⟨h1,k1⟩<;>rcases h2 with h2|⟨h2,k2⟩
 ·rcases hw.neg _ r.1 _ h1 with h|h
  ·exact .inl h
  ·rw [hw.asymm _ _ h2] at h;cases h
 ·rcases hw.neg _ r.1 _ h1 with h|h
  ·exact .inl h
  ·rw [h2] at h;cases h
 ·rcases hw.neg _ p.1 _ h2 with h|h
  ·rw [h1] at h;cases h
  ·exact .inl h
 ·refine .inr ⟨?_,by omega⟩
  cases h:lt r.1 p.1 with
  | false=>rfl
  | true =>
   rcases hw.neg _ q.1 _ h with h|h
   ·rw [h2] at h;cases h
   ·rw [h1] at h;cases h
theorem abQ (L:List α):L.zipIdx.Pairwise fun p q=>p.2<q.2:=by
 rw [List.pairwise_iff_getElem]
 intro i j hi hj hij
 simpa using hij
theorem Rs (hw:Weak lt) (L:List α):∃ M:List (α × Nat),M.map Prod.fst=jF lt L∧M.Perm L.zipIdx∧M.Pairwise (Ah lt):=by
 have h:∀ x y:α × Nat,(fun (p q:α × Nat)=>lt p.1 q.1) x y=lt (Prod.fst x) (Prod.fst y):=fun _ _=>rfl
 obtain ⟨h1,h2⟩:=abT (lt:=fun (p q:α × Nat)=>lt p.1 q.1) (R:=Ah lt) (Ah.trans hw) L.zipIdx ((abQ L).imp fun {p q} hpq=>⟨fun h=>.inl h,fun h=>.inr ⟨h,hpq⟩⟩)
 refine ⟨_,?_,h1,h2⟩
 rw [Qj (lt':=lt) h]
 congr 1
 exact List.zipIdx_map_fst 0 L
end
end nU
end Go.Proofs.YtlfdjpgghiemfaaGreatDoor
