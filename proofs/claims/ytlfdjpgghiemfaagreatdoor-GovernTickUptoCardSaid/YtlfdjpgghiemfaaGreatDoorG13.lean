/- Texts of the proof, joined: AbsV. -/
import Derived.Test.YtlfdjpgghiemfaaGreatDoorG10
namespace Go.Proofs.YtlfdjpgghiemfaaGreatDoor
section
namespace Abs
open Go.RowKit Mem Facts
def evL (s:S):List Operand→Option (List V)
 | []=>some []
 | x::r=>match s.ev x,evL s r with
  | some v,some vs=>some (v::vs)
  | _,_=>none
def y9:List V→Nat→V→Option (List V)
 | [],_,_=>none
 | _::r,0,v=>some (v::r)
 | x::r,n+1,v=>match y9 r n v with
  | some q=>some (x::q)
  | none=>none
theorem zJ:∀ {l:List V} {n:Nat} {v:V} {q:List V},y9 l n v=some q→l.set n v=q
 | [],_,_,_,h=>by simp [y9] at h
 | x::r,0,v,q,h=>by rw [y9] at h;cases h;rfl
 | x::r,n+1,v,q,h=>by
  rw [y9] at h
  split at h<;>cases h
  rename_i q hq
  rw [List.set_cons_succ,zJ hq]
theorem u7 {s:S}:∀ {xs:List Operand} {vs:List V},evL s xs=some vs→vs.length=xs.length∧∀ p∈xs.zip vs,s.ev p.1=some p.2
 | [],vs,h=>by rw [evL] at h;cases h;exact ⟨rfl,fun p hp=>by cases hp⟩
 | x::r,vs,h=>by
  rw [evL] at h
  split at h<;>cases h
  rename_i v q hv hq
  obtain ⟨h1,h2⟩:=u7 hq
  refine ⟨by simp [h1],fun p hp=>?_⟩
  rcases List.mem_cons.1 hp with rfl|hp
  ·exact hv
  ·exact h2 p hp
abbrev Stp:=V × Fp × List (Nat × Option Blk) × List Nat × Nat
def stp (tb:List Ty) (ow:Bool) (op:Op) (s:S):Option Stp:=match op with
 | .move x=>match s.ev x with
  | some v=>some (v,⟨[(x,v)],[]⟩,[],[],s.nx)
  | none=>none
 | .assign x=>match s.ev x with
  | some v=>some (v,⟨[(x,v)],[]⟩,[],[],s.nx)
  | none=>none
 | .pick c x y=>match s.ev c with
  | some (.bool true)=>(match s.ev x with
   | some v=>some (v,⟨[(c,.bool true),(x,v)],[]⟩,[],[],s.nx)
   | none=>none)
  | some (.bool false)=>(match s.ev y with
   | some v=>some (v,⟨[(c,.bool false),(y,v)],[]⟩,[],[],s.nx)
   | none=>none)
  | _=>none
 | .extract x i=>match s.ev x with
  | some (.tup vs)=>(match nth vs i with
   | some v=>some (v,⟨[(x,.tup vs)],[]⟩,[],[],s.nx)
   | none=>none)
  | _=>none
 | .unOp .not _ x=>match s.ev x with
  | some (.bool b)=>some (.bool (!b),⟨[(x,.bool b)],[]⟩,[],[],s.nx)
  | _=>none
 | .nilCheck x=>match s.ev x with
  | some (.loc n i k)=>some (.loc n i k,⟨[(x,.loc n i k)],[]⟩,[],[],s.nx)
  | some (.fp cs k)=>some (.fp cs k,⟨[(x,.fp cs k)],[]⟩,[],[],s.nx)
  | some (.ifc t v)=>some (.ifc t v,⟨[(x,.ifc t v)],[]⟩,[],[],s.nx)
  | some (.fn (.func f) a b)=>some (.fn (.func f) a b,⟨[(x,.fn (.func f) a b)],[]⟩,[],[],s.nx)
  | _=>none
 | .load T x=>match nth tb T with
  | some e=>(match s.ev x with
   | some (.loc n i off)=>(match s.blk n with
    | some (.els T' sz xs)=>(match nth xs i with
     | some el=>(match kY el.cells off e.agg e.size with
      | some v=>some (v,⟨[(x,.loc n i off)],[(n,.els T' sz xs)]⟩,[],[],s.nx)
      | none=>none)
     | none=>none)
    | _=>none)
   | some (.fp cs off)=>(match kY cs off e.agg e.size with
    | some v=>some (v,⟨[(x,.fp cs off)],[]⟩,[],[],s.nx)
    | none=>none)
   | _=>none)
  | none=>none
 | .field T x f=>match nth tb T with
  | some e=>(match s.ev x with
   | some (.agg vs)=>(match nth e.flds f with
    | some (off,ft)=>(match nth tb ft with
     | some ef=>(match kY vs off ef.agg ef.size with
      | some v=>some (v,⟨[(x,.agg vs)],[]⟩,[],[],s.nx)
      | none=>none)
     | none=>none)
    | none=>none)
   | _=>none)
  | none=>none
 | .fieldAddr T x f=>match nth tb T with
  | some e=>(match nth e.flds f with
   | some (off,ft)=>(match nth tb ft with
    | some ef=>bif Nat.ble 1 ef.size then (match s.ev x with
     | some (.loc n i k)=>some (.loc n i (k+off),⟨[(x,.loc n i k)],[]⟩,[],[],s.nx)
     | some (.fp cs k)=>some (.fp cs (k+off),⟨[(x,.fp cs k)],[]⟩,[],[],s.nx)
     | _=>none) else none
    | none=>none)
   | none=>none)
  | none=>none
 | .alloc T=>match nth tb T with
  | some e=>(match e.zeroV with
   | some v=>some (.loc s.nx 0 0,⟨[],[]⟩,[(s.nx,some (.els T v.cells.length [v]))],[s.nx],s.nx+1)
   | none=>none)
  | none=>none
 | .box T x=>match s.ev x with
  | some v=>bif v.cells.all V.one then (bif ow then (bif Nat.ble 1 v.cells.length then some (.loc s.nx 0 0,⟨[(x,v)],[]⟩,[(s.nx,some (.els T v.cells.length [v]))],[s.nx],s.nx+1) else none)
   else (match v.names with
    | []=>some (.fp v.cells 0,⟨[(x,v)],[]⟩,[],[],s.nx)
    | _=>none)) else none
  | none=>none
 | .store T x y=>match nth tb T with
  | some e=>(match s.ev x with
   | some (.loc n i off)=>(match s.blk n with
    | some (.els T' sz xs)=>(match nth xs i with
     | some el=>(match s.ev y with
      | some v=>bif v.cells.all V.one&&Nat.beq v.cells.length e.size&&(!el.one||Nat.beq v.cells.length 1) then (match JV el off v with
       | some el'=>(match y9 xs i el' with
        | some xs'=>some (.und,⟨[(x,.loc n i off),(y,v)],[(n,.els T' sz xs)]⟩,[(n,some (.els T' sz xs'))],[],s.nx)
        | none=>none)
       | none=>none) else none
      | none=>none)
     | none=>none)
    | _=>none)
   | _=>none)
  | none=>none
 | .makeFunc f xs ys=>match evL s xs.toList,evL s ys.toList with
  | some us,some vs=>some (.fn f us vs,⟨xs.toList.zip us++ys.toList.zip vs,[]⟩,[],[],s.nx)
  | _,_=>none
 | .makeInterface t x=>match nth tb t with
  | some e=>bif Nat.beq e.knd 7 then none else (match s.ev x with
   | some v=>some (.ifc t v,⟨[(x,v)],[]⟩,[],[],s.nx)
   | none=>none)
  | none=>none
 | .build T ps=>match nth tb T with
  | some e=>bif e.agg&&e.AL tb then (match e.zeroV with
   | some z=>(match evL s (ps.toList.map (·.2)) with
    | some vs=>bif (vs.all fun v=>v.cells.all V.one) then (match mK (e.place tb) z.cells (Ey ps.toList vs) with
     | some cs=>some (.agg cs,⟨(ps.toList.map (·.2)).zip vs,[]⟩,[],[],s.nx)
     | none=>none) else none
    | none=>none)
   | none=>none) else none
  | none=>none
 | _=>none
section
variable {P:Program} {N:Env} {o:Oper} {tb:List Ty} {s:S}
theorem kN {x:Operand} {v:V} (h:s.ev x=some v):Holds ⟨[(x,v)],[]⟩ s:=hT h h0
theorem R9 {x y:Operand} {u v:V} (h:s.ev x=some u) (k:s.ev y=some v):Holds ⟨[(x,u),(y,v)],[]⟩ s:=hT h (hT k h0)
theorem GV {l:List (Operand × V)} (h:∀ p∈l,s.ev p.1=some p.2):Holds ⟨l,[]⟩ s:=⟨h,fun p hp=>by cases hp⟩
structure acw (P:Program) (N:Env) (o:Oper) (s:S) (v:V) (fp:Fp) (up:List (Nat × Option Blk)) (new:List Nat) (nx:Nat):Prop where
 law:aC P N o fp v up new
 hh:Holds fp s
 hn:s.nx≤nx∧∀ n∈new,s.nx≤n∧n<nx
theorem kg:s.nx≤s.nx∧∀ n∈([]:List Nat),s.nx≤n∧n<s.nx:=⟨Nat.le_refl _,fun n h=>by cases h⟩
theorem OM:s.nx≤s.nx+1∧∀ n∈[s.nx],s.nx≤n∧n<s.nx+1:=⟨Nat.le_succ _,fun n h=>by rw [List.mem_singleton] at h;omega⟩
theorem lI {α:Type} {b:Bool} {x:Option α} {y:α} (h:(bif b then x else none)=some y):b=true∧x=some y:=by
 cases b with
 | true=>exact ⟨rfl,h⟩
 | false=>cases h
theorem abG {ow:Bool} {op:Op} {v:V} {fp:Fp} {up:List (Nat × Option Blk)} {new:List Nat} {nx:Nat} (htb:aL P tb) (ho:o.op=op) (h:stp tb ow op s=some (v,fp,up,new,nx)):acw P N o s v fp up new nx:=by
 unfold stp at h
 split at h
 ·split at h<;>cases h
  rename_i hx
  exact ⟨BV ho,kN hx,kg⟩
 ·split at h<;>cases h
  rename_i hx
  exact ⟨Nf ho,kN hx,kg⟩
 ·split at h
  ·rename_i hc
   split at h<;>cases h
   rename_i hx
   exact ⟨EB ho,R9 hc hx,kg⟩
  ·rename_i hc
   split at h<;>cases h
   rename_i hx
   exact ⟨Dy ho,R9 hc hx,kg⟩
  ·cases h
 ·split at h
  ·rename_i hx
   split at h<;>cases h
   rename_i hn
   exact ⟨JB ho hn,kN hx,kg⟩
  ·cases h
 ·split at h<;>cases h
  rename_i hx
  exact ⟨YR ho,kN hx,kg⟩
 ·split at h<;>cases h<;>(rename_i hx;exact ⟨pq ho rfl,kN hx,kg⟩)
 ·split at h
  ·rename_i e hT'
   split at h
   ·rename_i hx
    split at h
    ·rename_i hb
     split at h
     ·rename_i el hel
      split at h<;>cases h
      rename_i hv
      rw [dm] at hel
      exact ⟨AZ htb ho hT' hel hv,hT hx (hN hb h0),kg⟩
     ·cases h
    ·cases h
   ·rename_i hx
    split at h<;>cases h
    rename_i hv
    exact ⟨zG htb ho hT' hv,kN hx,kg⟩
   ·cases h
  ·cases h
 ·split at h
  ·rename_i e hT'
   split at h
   ·rename_i hx
    split at h
    ·rename_i hf
     split at h
     ·rename_i ef hF
      split at h<;>cases h
      rename_i hv
      exact ⟨QS htb ho hT' hf hF hv,kN hx,kg⟩
     ·cases h
    ·cases h
   ·cases h
  ·cases h
 ·split at h
  ·rename_i e hT'
   split at h
   ·rename_i hf
    split at h
    ·rename_i ef hF
     obtain ⟨hb,h⟩:=lI h
     split at h<;>cases h
     ·rename_i hx
      exact ⟨gP htb ho hT' hf hF hb,kN hx,kg⟩
     ·rename_i hx
      exact ⟨yI htb ho hT' hf hF hb,kN hx,kg⟩
    ·cases h
   ·cases h
  ·cases h
 ·split at h
  ·rename_i e hT'
   split at h<;>cases h
   rename_i hv
   exact ⟨QM htb ho hT' hv,h0,OM⟩
  ·cases h
 ·split at h
  ·rename_i hx
   obtain ⟨h1,h⟩:=lI h
   cases ow with
   | true =>
    simp only [cond_true] at h
    obtain ⟨h2,h⟩:=lI h
    cases h
    exact ⟨Yf ho h2 h1,kN hx,OM⟩
   | false =>
    simp only [cond_false] at h
    split at h<;>cases h
    rename_i hn
    exact ⟨M8 ho hn h1,kN hx,kg⟩
  ·cases h
 ·split at h
  ·rename_i e hT'
   split at h
   ·rename_i hx
    split at h
    ·rename_i hb
     split at h
     ·rename_i el hel
      split at h
      ·rename_i hy
       obtain ⟨hb1,h⟩:=lI h
       simp only [Bool.and_eq_true] at hb1
       split at h
       ·rename_i hp
        split at h<;>cases h
        rename_i hs
        rw [dm] at hel
        exact ⟨uw htb ho hT' hel hb1.1.1 (Nat.eq_of_beq_eq_true hb1.1.2) hp hb1.2 (zJ hs),hT hx (hT hy (hN hb h0)),kg⟩
       ·cases h
      ·cases h
     ·cases h
    ·cases h
   ·cases h
  ·cases h
 ·split at h<;>cases h
  rename_i us vs hu hv
  obtain ⟨u1,u2⟩:=u7 hu
  obtain ⟨v1,v2⟩:=u7 hv
  exact ⟨He ho (by simpa using u1) (by simpa using v1),GV fun p hp=>(List.mem_append.1 hp).elim (u2 p) (v2 p),kg⟩
 ·split at h
  ·rename_i e hT'
   cases hk:Nat.beq e.knd 7 with
   | true=>rw [hk] at h;cases h
   | false =>
    rw [hk] at h
    simp only [cond_false] at h
    split at h<;>cases h
    rename_i hx
    obtain ⟨ti,d,ht⟩:=aU htb hT'
    refine ⟨wG ho ht.und ?_,kN hx,kg⟩
    have:=ht.knd
    cases d<;>first|rfl|(simp only [kindOf] at this;rw [this] at hk;cases hk)
  ·cases h
 ·split at h
  ·rename_i e hT'
   obtain ⟨hb,h⟩:=lI h
   rw [Bool.and_eq_true] at hb
   split at h
   ·rename_i z hz
    split at h
    ·rename_i vs hvs
     obtain ⟨h1,h⟩:=lI h
     split at h<;>cases h
     have hf := ‹mK _ _ _=some _›
     obtain ⟨v1,v2⟩:=u7 hvs
     exact ⟨Qs htb ho (by simp [v1]) hT' hb.2 hz hb.1 h1 hf,GV v2,kg⟩
    ·cases h
   ·cases h
  ·cases h
 ·cases h
end
def acg (d:Nat):List Nat→Bool
 | []=>false
 | n::r=>Nat.beq n d||acg d r
abbrev Far:=List Oper × List (Nat × V) × List (Nat × Option Blk) × Nat × List Tr
def owd (ow:List Nat) (o:Oper):Bool:=match o.dst with
 | some d=>acg d ow
 | none=>false
def far (tb:List Ty) (ow:List Nat) (l:List Oper) (nt:Nat):List Oper→List (Nat × V)→List (Nat × Option Blk)→Nat→List Tr→Far
 | [],tm,st,nx,tr=>([],tm,st,nx,tr)
 | o::r,tm,st,nx,tr=>match ax l o ⟨tm,st,nx,nt⟩ with
  | some false=>(match o.dst with
   | some d=>bif Nat.blt d nt then far tb ow l nt r ((d,.und)::tm) st nx (tr++[aH l o ⟨[],[]⟩ []]) else (o::r,tm,st,nx,tr)
   | none=>far tb ow l nt r tm st nx (tr++[aH l o ⟨[],[]⟩ []]))
  | some true=>(match stp tb (owd ow o) o.op ⟨tm,st,nx,nt⟩ with
   | some (v,fp,up,_,nx')=>(match D7 up st with
    | some st'=>(match o.dst with
     | some d=>bif Nat.blt d nt then far tb ow l nt r ((d,v)::tm) st' nx' (tr++[aH l o fp up]) else (o::r,tm,st,nx,tr)
     | none=>far tb ow l nt r tm st' nx' (tr++[aH l o fp up]))
    | none=>(o::r,tm,st,nx,tr))
   | none=>(o::r,tm,st,nx,tr))
  | none=>(o::r,tm,st,nx,tr)
section
variable {P:Program} {N:Env} {tb:List Ty} {ow:List Nat} {l:List Oper} {nt:Nat} {K:S→List Tr→Prop}
theorem Bh (htb:aL P tb):∀ (r:List Oper) (tm:List (Nat × V)) (st:List (Nat × Option Blk)) (nx:Nat) (tr:List Tr) (r':List Oper) (tm':List (Nat × V)) (st':List (Nat × Option Blk)) (nx':Nat) (tr':List Tr),
  far tb ow l nt r tm st nx tr=(r',tm',st',nx',tr')→ay P N l K r' ⟨tm',st',nx',nt⟩ tr'→ay P N l K r ⟨tm,st,nx,nt⟩ tr
 | [],tm,st,nx,tr,r',tm',st',nx',tr',h,k=>by rw [far] at h;cases h;exact k
 | o::r,tm,st,nx,tr,r',tm',st',nx',tr',h,k=>by
  rw [far] at h
  split at h
  ·rename_i hg
   split at h
   ·rename_i d hd
    cases hb:Nat.blt d nt with
    | false=>rw [hb] at h;cases h;exact k
    | true =>
     rw [hb] at h
     exact acC hg hd hb (Bh htb r _ _ _ _ _ _ _ _ _ h k)
   ·rename_i hd
    exact abk hg hd (Bh htb r _ _ _ _ _ _ _ _ _ h k)
  ·rename_i hg
   split at h
   ·rename_i v fp up new nx1 hs
    have ok:=abG (P:=P) (N:=N) htb rfl hs
    split at h
    ·rename_i st1 ha
     have ea:=AA ha
     split at h
     ·rename_i d hd
      cases hb:Nat.blt d nt with
      | false=>rw [hb] at h;cases h;exact k
      | true =>
       rw [hb] at h
       refine .on fp v up new nx1 hg ok.law ok.hh ok.hn (fun d' h=>by rw [hd] at h;cases h;exact kG hb) ?_
       have e:S.eff ⟨tm,st,nx,nt⟩ o.dst v up nx1=⟨(d,v)::tm,st1,nx1,nt⟩:=by rw [hd,ea];rfl
       rw [e]
       exact Bh htb r _ _ _ _ _ _ _ _ _ h k
     ·rename_i hd
      refine .on fp v up new nx1 hg ok.law ok.hh ok.hn (fun d' h=>by rw [hd] at h;cases h) ?_
      have e:S.eff ⟨tm,st,nx,nt⟩ o.dst v up nx1=⟨tm,st1,nx1,nt⟩:=by rw [hd,ea];rfl
      rw [e]
      exact Bh htb r _ _ _ _ _ _ _ _ _ h k
    ·cases h;exact k
   ·cases h;exact k
  ·cases h;exact k
def ab1 (tb:List Ty) (ow:List Nat) (l:List Oper) (nt:Nat):List Oper→List (Nat × V)→List (Nat × Option Blk)→Nat→List Tr→Option Far
 | [],_,_,_,_=>none
 | o::r,tm,st,nx,tr=>match ax l o ⟨tm,st,nx,nt⟩ with
  | some false=>some (far tb ow l nt (o::r) tm st nx tr)
  | some true=>(match stp tb (owd ow o) o.op ⟨tm,st,nx,nt⟩ with
   | some _=>some (far tb ow l nt (o::r) tm st nx tr)
   | none=>none)
  | none=>none
theorem Qg {r:List Oper} {tm:List (Nat × V)} {st:List (Nat × Option Blk)} {nx:Nat} {tr:List Tr} {q:Far} (h:ab1 tb ow l nt r tm st nx tr=some q):far tb ow l nt r tm st nx tr=q:=by
 cases r with
 | nil=>cases h
 | cons o r =>
  rw [ab1] at h
  split at h
  ·cases h;rfl
  ·split at h<;>cases h;rfl
  ·cases h
theorem dP (ow:List Nat) {r r':List Oper} {tm tm':List (Nat × V)} {st st':List (Nat × Option Blk)} {nx nx':Nat} {tr tr':List Tr} (htb:aL P tb) (h:ab1 tb ow l nt r tm st nx tr=some (r',tm',st',nx',tr')) (k:ay P N l K r' ⟨tm',st',nx',nt⟩ tr'):ay P N l K r ⟨tm,st,nx,nt⟩ tr :=
 Bh htb _ _ _ _ _ _ _ _ _ _ (Qg h) k
end
end Abs
namespace Abs
open Go.RowKit Mem Facts
section
variable {P:Program} {N:Env} {l r:List Oper} {o:Oper} {tm:List (Nat × V)} {st:List (Nat × Option Blk)} {nx nt:Nat} {tr:List Tr} {K:S→List Tr→Prop} {tb:List Ty} {d T:Nat} {t t':TypeId} {x y z:Operand} {a b n:Int} {p q:List UInt8} {u v:Bool} {e ee:Ty}
theorem mQ (k:ay P N l K r ⟨(d,.int .i64 n)::tm,st,nx,nt⟩ (tr++[aH l o ⟨[(x,.int .i64 a),(y,.int .i64 b)],[]⟩ []])) (ho:o.op = .binOp .add t x y t':=by rfl) (hx:S.ev ⟨tm,st,nx,nt⟩ x=some (.int .i64 a):=by rfl) (hy:S.ev ⟨tm,st,nx,nt⟩ y=some (.int .i64 b):=by rfl) (hg:ax l o ⟨tm,st,nx,nt⟩=some true:=by rfl) (hd:o.dst=some d:=by rfl) (hlt:Nat.blt d nt=true:=by rfl) (he:a+b=n:=by with_reducible assumption) (h1 : -9223372036854775808≤a+b∧a+b≤9223372036854775807:=by omega):ay P N l K (o::r) ⟨tm,st,nx,nt⟩ tr:=aJ hg hd hlt (Kt ho ((wrap64 h1.1 h1.2).trans he)) (hT hx (hT hy h0)) k
theorem sQ (k:ay P N l K r ⟨(d,.int .i64 (a+b))::tm,st,nx,nt⟩ (tr++[aH l o ⟨[(x,.int .i64 a),(y,.int .i64 b)],[]⟩ []])) (ho:o.op = .binOp .add t x y t':=by rfl) (hx:S.ev ⟨tm,st,nx,nt⟩ x=some (.int .i64 a):=by rfl) (hy:S.ev ⟨tm,st,nx,nt⟩ y=some (.int .i64 b):=by rfl) (hg:ax l o ⟨tm,st,nx,nt⟩=some true:=by rfl) (hd:o.dst=some d:=by rfl) (hlt:Nat.blt d nt=true:=by rfl) (h1 : -9223372036854775808≤a+b∧a+b≤9223372036854775807:=by omega):ay P N l K (o::r) ⟨tm,st,nx,nt⟩ tr:=aJ hg hd hlt (Kt ho (wrap64 h1.1 h1.2)) (hT hx (hT hy h0)) k
theorem mF (k:ay P N l K r ⟨(d,.int .i64 n)::tm,st,nx,nt⟩ (tr++[aH l o ⟨[(x,.int .i64 a),(y,.int .i64 b)],[]⟩ []])) (ho:o.op = .binOp .sub t x y t':=by rfl) (hx:S.ev ⟨tm,st,nx,nt⟩ x=some (.int .i64 a):=by rfl) (hy:S.ev ⟨tm,st,nx,nt⟩ y=some (.int .i64 b):=by rfl) (hg:ax l o ⟨tm,st,nx,nt⟩=some true:=by rfl) (hd:o.dst=some d:=by rfl) (hlt:Nat.blt d nt=true:=by rfl) (he:a-b=n:=by with_reducible assumption) (h1 : -9223372036854775808≤a-b∧a-b≤9223372036854775807:=by omega):ay P N l K (o::r) ⟨tm,st,nx,nt⟩ tr:=aJ hg hd hlt (Ee ho ((wrap64 h1.1 h1.2).trans he)) (hT hx (hT hy h0)) k
theorem qQ (k:ay P N l K r ⟨(d,.int .i64 (a-b))::tm,st,nx,nt⟩ (tr++[aH l o ⟨[(x,.int .i64 a),(y,.int .i64 b)],[]⟩ []])) (ho:o.op = .binOp .sub t x y t':=by rfl) (hx:S.ev ⟨tm,st,nx,nt⟩ x=some (.int .i64 a):=by rfl) (hy:S.ev ⟨tm,st,nx,nt⟩ y=some (.int .i64 b):=by rfl) (hg:ax l o ⟨tm,st,nx,nt⟩=some true:=by rfl) (hd:o.dst=some d:=by rfl) (hlt:Nat.blt d nt=true:=by rfl) (h1 : -9223372036854775808≤a-b∧a-b≤9223372036854775807:=by omega):ay P N l K (o::r) ⟨tm,st,nx,nt⟩ tr:=aJ hg hd hlt (Ee ho (wrap64 h1.1 h1.2)) (hT hx (hT hy h0)) k
theorem ab9 (k:ay P N l K r ⟨(d,.int .i64 (a*b))::tm,st,nx,nt⟩ (tr++[aH l o ⟨[(x,.int .i64 a),(y,.int .i64 b)],[]⟩ []])) (ho:o.op = .binOp .mul t x y t':=by rfl) (hx:S.ev ⟨tm,st,nx,nt⟩ x=some (.int .i64 a):=by rfl) (hy:S.ev ⟨tm,st,nx,nt⟩ y=some (.int .i64 b):=by rfl) (hg:ax l o ⟨tm,st,nx,nt⟩=some true:=by rfl) (hd:o.dst=some d:=by rfl) (hlt:Nat.blt d nt=true:=by rfl) (h1 : -9223372036854775808≤a*b∧a*b≤9223372036854775807:=by omega):ay P N l K (o::r) ⟨tm,st,nx,nt⟩ tr:=aJ hg hd hlt (Uz ho (wrap64 h1.1 h1.2)) (hT hx (hT hy h0)) k
variable {kd:IntKind}
variable {i0 m1:Nat} {α:Type} {fs bs:List V} {c:Value} {g:Operand} {z0:V} {ns:List (Nat × Blk)} {rs:List ResultVar} {f:Nat} {ws:List V} {w:V} {s1:S} {m el k:Nat} {L:List α} {len:Nat} {xs:Array Operand} {sz:Nat} {v1:V} {vs:List V} {t1:TypeId} {off:Nat} {ts:Array TypeId} {ps:Array (Nat × Operand)} {us:List V} {e':Ty}
theorem l5 (k:ay P N l K r ⟨(d,.bool true)::tm,st,nx,nt⟩ (tr++[aH l o ⟨[(x,.int kd a),(y,.int kd b)],[]⟩ []])) (ho:o.op = .binOp .lss t x y t':=by rfl) (hx:S.ev ⟨tm,st,nx,nt⟩ x=some (.int kd a):=by rfl) (hy:S.ev ⟨tm,st,nx,nt⟩ y=some (.int kd b):=by rfl) (hg:ax l o ⟨tm,st,nx,nt⟩=some true:=by rfl) (hd:o.dst=some d:=by rfl) (hlt:Nat.blt d nt=true:=by rfl) (h:a<b:=by omega):ay P N l K (o::r) ⟨tm,st,nx,nt⟩ tr:=aJ hg hd hlt (GR ho (decide_eq_true h)) (hT hx (hT hy h0)) k
theorem mq (k:ay P N l K r ⟨(d,.bool false)::tm,st,nx,nt⟩ (tr++[aH l o ⟨[(x,.int kd a),(y,.int kd b)],[]⟩ []])) (ho:o.op = .binOp .lss t x y t':=by rfl) (hx:S.ev ⟨tm,st,nx,nt⟩ x=some (.int kd a):=by rfl) (hy:S.ev ⟨tm,st,nx,nt⟩ y=some (.int kd b):=by rfl) (hg:ax l o ⟨tm,st,nx,nt⟩=some true:=by rfl) (hd:o.dst=some d:=by rfl) (hlt:Nat.blt d nt=true:=by rfl) (h:¬ (a<b):=by omega):ay P N l K (o::r) ⟨tm,st,nx,nt⟩ tr:=aJ hg hd hlt (GR ho (decide_eq_false h)) (hT hx (hT hy h0)) k
theorem sM (k1:a<b→ay P N l K r ⟨(d,.bool true)::tm,st,nx,nt⟩ (tr++[aH l o ⟨[(x,.int kd a),(y,.int kd b)],[]⟩ []])) (k2:¬ (a<b)→ay P N l K r ⟨(d,.bool false)::tm,st,nx,nt⟩ (tr++[aH l o ⟨[(x,.int kd a),(y,.int kd b)],[]⟩ []])) (ho:o.op = .binOp .lss t x y t':=by rfl) (hx:S.ev ⟨tm,st,nx,nt⟩ x=some (.int kd a):=by rfl) (hy:S.ev ⟨tm,st,nx,nt⟩ y=some (.int kd b):=by rfl) (hg:ax l o ⟨tm,st,nx,nt⟩=some true:=by rfl) (hd:o.dst=some d:=by rfl) (hlt:Nat.blt d nt=true:=by rfl):ay P N l K (o::r) ⟨tm,st,nx,nt⟩ tr:=ku hg hd hlt (fun _r h=>GR ho h) (hT hx (hT hy h0)) k1 k2
theorem aav (k:ay P N l K r ⟨(d,.bool true)::tm,st,nx,nt⟩ (tr++[aH l o ⟨[(x,.int kd a),(y,.int kd b)],[]⟩ []])) (ho:o.op = .binOp .leq t x y t':=by rfl) (hx:S.ev ⟨tm,st,nx,nt⟩ x=some (.int kd a):=by rfl) (hy:S.ev ⟨tm,st,nx,nt⟩ y=some (.int kd b):=by rfl) (hg:ax l o ⟨tm,st,nx,nt⟩=some true:=by rfl) (hd:o.dst=some d:=by rfl) (hlt:Nat.blt d nt=true:=by rfl) (h:a≤b:=by omega):ay P N l K (o::r) ⟨tm,st,nx,nt⟩ tr:=aJ hg hd hlt (G5 ho (decide_eq_true h)) (hT hx (hT hy h0)) k
theorem aaS (k:ay P N l K r ⟨(d,.bool false)::tm,st,nx,nt⟩ (tr++[aH l o ⟨[(x,.int kd a),(y,.int kd b)],[]⟩ []])) (ho:o.op = .binOp .leq t x y t':=by rfl) (hx:S.ev ⟨tm,st,nx,nt⟩ x=some (.int kd a):=by rfl) (hy:S.ev ⟨tm,st,nx,nt⟩ y=some (.int kd b):=by rfl) (hg:ax l o ⟨tm,st,nx,nt⟩=some true:=by rfl) (hd:o.dst=some d:=by rfl) (hlt:Nat.blt d nt=true:=by rfl) (h:¬ (a≤b):=by omega):ay P N l K (o::r) ⟨tm,st,nx,nt⟩ tr:=aJ hg hd hlt (G5 ho (decide_eq_false h)) (hT hx (hT hy h0)) k
theorem ab5 (k1:a≤b→ay P N l K r ⟨(d,.bool true)::tm,st,nx,nt⟩ (tr++[aH l o ⟨[(x,.int kd a),(y,.int kd b)],[]⟩ []])) (k2:¬ (a≤b)→ay P N l K r ⟨(d,.bool false)::tm,st,nx,nt⟩ (tr++[aH l o ⟨[(x,.int kd a),(y,.int kd b)],[]⟩ []])) (ho:o.op = .binOp .leq t x y t':=by rfl) (hx:S.ev ⟨tm,st,nx,nt⟩ x=some (.int kd a):=by rfl) (hy:S.ev ⟨tm,st,nx,nt⟩ y=some (.int kd b):=by rfl) (hg:ax l o ⟨tm,st,nx,nt⟩=some true:=by rfl) (hd:o.dst=some d:=by rfl) (hlt:Nat.blt d nt=true:=by rfl):ay P N l K (o::r) ⟨tm,st,nx,nt⟩ tr:=ku hg hd hlt (fun _r h=>G5 ho h) (hT hx (hT hy h0)) k1 k2
theorem lZ (k:ay P N l K r ⟨(d,.bool true)::tm,st,nx,nt⟩ (tr++[aH l o ⟨[(x,.int kd a),(y,.int kd b)],[]⟩ []])) (ho:o.op = .binOp .gtr t x y t':=by rfl) (hx:S.ev ⟨tm,st,nx,nt⟩ x=some (.int kd a):=by rfl) (hy:S.ev ⟨tm,st,nx,nt⟩ y=some (.int kd b):=by rfl) (hg:ax l o ⟨tm,st,nx,nt⟩=some true:=by rfl) (hd:o.dst=some d:=by rfl) (hlt:Nat.blt d nt=true:=by rfl) (h:b<a:=by omega):ay P N l K (o::r) ⟨tm,st,nx,nt⟩ tr:=aJ hg hd hlt (Jc ho (decide_eq_true h)) (hT hx (hT hy h0)) k
theorem mM (k:ay P N l K r ⟨(d,.bool false)::tm,st,nx,nt⟩ (tr++[aH l o ⟨[(x,.int kd a),(y,.int kd b)],[]⟩ []])) (ho:o.op = .binOp .gtr t x y t':=by rfl) (hx:S.ev ⟨tm,st,nx,nt⟩ x=some (.int kd a):=by rfl) (hy:S.ev ⟨tm,st,nx,nt⟩ y=some (.int kd b):=by rfl) (hg:ax l o ⟨tm,st,nx,nt⟩=some true:=by rfl) (hd:o.dst=some d:=by rfl) (hlt:Nat.blt d nt=true:=by rfl) (h:¬ (b<a):=by omega):ay P N l K (o::r) ⟨tm,st,nx,nt⟩ tr:=aJ hg hd hlt (Jc ho (decide_eq_false h)) (hT hx (hT hy h0)) k
theorem rE (k1:b<a→ay P N l K r ⟨(d,.bool true)::tm,st,nx,nt⟩ (tr++[aH l o ⟨[(x,.int kd a),(y,.int kd b)],[]⟩ []])) (k2:¬ (b<a)→ay P N l K r ⟨(d,.bool false)::tm,st,nx,nt⟩ (tr++[aH l o ⟨[(x,.int kd a),(y,.int kd b)],[]⟩ []])) (ho:o.op = .binOp .gtr t x y t':=by rfl) (hx:S.ev ⟨tm,st,nx,nt⟩ x=some (.int kd a):=by rfl) (hy:S.ev ⟨tm,st,nx,nt⟩ y=some (.int kd b):=by rfl) (hg:ax l o ⟨tm,st,nx,nt⟩=some true:=by rfl) (hd:o.dst=some d:=by rfl) (hlt:Nat.blt d nt=true:=by rfl):ay P N l K (o::r) ⟨tm,st,nx,nt⟩ tr:=ku hg hd hlt (fun _r h=>Jc ho h) (hT hx (hT hy h0)) k1 k2
theorem aa9 (k:ay P N l K r ⟨(d,.bool true)::tm,st,nx,nt⟩ (tr++[aH l o ⟨[(x,.int kd a),(y,.int kd b)],[]⟩ []])) (ho:o.op = .binOp .geq t x y t':=by rfl) (hx:S.ev ⟨tm,st,nx,nt⟩ x=some (.int kd a):=by rfl) (hy:S.ev ⟨tm,st,nx,nt⟩ y=some (.int kd b):=by rfl) (hg:ax l o ⟨tm,st,nx,nt⟩=some true:=by rfl) (hd:o.dst=some d:=by rfl) (hlt:Nat.blt d nt=true:=by rfl) (h:b≤a:=by omega):ay P N l K (o::r) ⟨tm,st,nx,nt⟩ tr:=aJ hg hd hlt (G9 ho (decide_eq_true h)) (hT hx (hT hy h0)) k
theorem abu (k:ay P N l K r ⟨(d,.bool false)::tm,st,nx,nt⟩ (tr++[aH l o ⟨[(x,.int kd a),(y,.int kd b)],[]⟩ []])) (ho:o.op = .binOp .geq t x y t':=by rfl) (hx:S.ev ⟨tm,st,nx,nt⟩ x=some (.int kd a):=by rfl) (hy:S.ev ⟨tm,st,nx,nt⟩ y=some (.int kd b):=by rfl) (hg:ax l o ⟨tm,st,nx,nt⟩=some true:=by rfl) (hd:o.dst=some d:=by rfl) (hlt:Nat.blt d nt=true:=by rfl) (h:¬ (b≤a):=by omega):ay P N l K (o::r) ⟨tm,st,nx,nt⟩ tr:=aJ hg hd hlt (G9 ho (decide_eq_false h)) (hT hx (hT hy h0)) k
theorem acN (k1:b≤a→ay P N l K r ⟨(d,.bool true)::tm,st,nx,nt⟩ (tr++[aH l o ⟨[(x,.int kd a),(y,.int kd b)],[]⟩ []])) (k2:¬ (b≤a)→ay P N l K r ⟨(d,.bool false)::tm,st,nx,nt⟩ (tr++[aH l o ⟨[(x,.int kd a),(y,.int kd b)],[]⟩ []])) (ho:o.op = .binOp .geq t x y t':=by rfl) (hx:S.ev ⟨tm,st,nx,nt⟩ x=some (.int kd a):=by rfl) (hy:S.ev ⟨tm,st,nx,nt⟩ y=some (.int kd b):=by rfl) (hg:ax l o ⟨tm,st,nx,nt⟩=some true:=by rfl) (hd:o.dst=some d:=by rfl) (hlt:Nat.blt d nt=true:=by rfl):ay P N l K (o::r) ⟨tm,st,nx,nt⟩ tr:=ku hg hd hlt (fun _r h=>G9 ho h) (hT hx (hT hy h0)) k1 k2
theorem DL (k:ay P N l K r ⟨(d,.bool true)::tm,st,nx,nt⟩ (tr++[aH l o ⟨[(x,.int kd a),(y,.int kd b)],[]⟩ []])) (ho:o.op = .binOp .eql t x y t':=by rfl) (hx:S.ev ⟨tm,st,nx,nt⟩ x=some (.int kd a):=by rfl) (hy:S.ev ⟨tm,st,nx,nt⟩ y=some (.int kd b):=by rfl) (hg:ax l o ⟨tm,st,nx,nt⟩=some true:=by rfl) (hd:o.dst=some d:=by rfl) (hlt:Nat.blt d nt=true:=by rfl) (h:a=b:=by omega):ay P N l K (o::r) ⟨tm,st,nx,nt⟩ tr:=aJ hg hd hlt (Ik ho (decide_eq_true h)) (hT hx (hT hy h0)) k
theorem Eo (k:ay P N l K r ⟨(d,.bool false)::tm,st,nx,nt⟩ (tr++[aH l o ⟨[(x,.int kd a),(y,.int kd b)],[]⟩ []])) (ho:o.op = .binOp .eql t x y t':=by rfl) (hx:S.ev ⟨tm,st,nx,nt⟩ x=some (.int kd a):=by rfl) (hy:S.ev ⟨tm,st,nx,nt⟩ y=some (.int kd b):=by rfl) (hg:ax l o ⟨tm,st,nx,nt⟩=some true:=by rfl) (hd:o.dst=some d:=by rfl) (hlt:Nat.blt d nt=true:=by rfl) (h:¬ (a=b):=by omega):ay P N l K (o::r) ⟨tm,st,nx,nt⟩ tr:=aJ hg hd hlt (Ik ho (decide_eq_false h)) (hT hx (hT hy h0)) k
theorem KD (k1:a=b→ay P N l K r ⟨(d,.bool true)::tm,st,nx,nt⟩ (tr++[aH l o ⟨[(x,.int kd a),(y,.int kd b)],[]⟩ []])) (k2:¬ (a=b)→ay P N l K r ⟨(d,.bool false)::tm,st,nx,nt⟩ (tr++[aH l o ⟨[(x,.int kd a),(y,.int kd b)],[]⟩ []])) (ho:o.op = .binOp .eql t x y t':=by rfl) (hx:S.ev ⟨tm,st,nx,nt⟩ x=some (.int kd a):=by rfl) (hy:S.ev ⟨tm,st,nx,nt⟩ y=some (.int kd b):=by rfl) (hg:ax l o ⟨tm,st,nx,nt⟩=some true:=by rfl) (hd:o.dst=some d:=by rfl) (hlt:Nat.blt d nt=true:=by rfl):ay P N l K (o::r) ⟨tm,st,nx,nt⟩ tr:=ku hg hd hlt (fun _r h=>Ik ho h) (hT hx (hT hy h0)) k1 k2
theorem abf (k:ay P N l K r ⟨(d,.bool true)::tm,st,nx,nt⟩ (tr++[aH l o ⟨[(x,.int kd a),(y,.int kd b)],[]⟩ []])) (ho:o.op = .binOp .neq t x y t':=by rfl) (hx:S.ev ⟨tm,st,nx,nt⟩ x=some (.int kd a):=by rfl) (hy:S.ev ⟨tm,st,nx,nt⟩ y=some (.int kd b):=by rfl) (hg:ax l o ⟨tm,st,nx,nt⟩=some true:=by rfl) (hd:o.dst=some d:=by rfl) (hlt:Nat.blt d nt=true:=by rfl) (h:a≠b:=by omega):ay P N l K (o::r) ⟨tm,st,nx,nt⟩ tr:=aJ hg hd hlt (IU ho (decide_eq_true h)) (hT hx (hT hy h0)) k
theorem aaw (k:ay P N l K r ⟨(d,.bool false)::tm,st,nx,nt⟩ (tr++[aH l o ⟨[(x,.int kd a),(y,.int kd b)],[]⟩ []])) (ho:o.op = .binOp .neq t x y t':=by rfl) (hx:S.ev ⟨tm,st,nx,nt⟩ x=some (.int kd a):=by rfl) (hy:S.ev ⟨tm,st,nx,nt⟩ y=some (.int kd b):=by rfl) (hg:ax l o ⟨tm,st,nx,nt⟩=some true:=by rfl) (hd:o.dst=some d:=by rfl) (hlt:Nat.blt d nt=true:=by rfl) (h:¬ (a≠b):=by omega):ay P N l K (o::r) ⟨tm,st,nx,nt⟩ tr:=aJ hg hd hlt (IU ho (decide_eq_false h)) (hT hx (hT hy h0)) k
theorem ach (k1:a≠b→ay P N l K r ⟨(d,.bool true)::tm,st,nx,nt⟩ (tr++[aH l o ⟨[(x,.int kd a),(y,.int kd b)],[]⟩ []])) (k2:¬ (a≠b)→ay P N l K r ⟨(d,.bool false)::tm,st,nx,nt⟩ (tr++[aH l o ⟨[(x,.int kd a),(y,.int kd b)],[]⟩ []])) (ho:o.op = .binOp .neq t x y t':=by rfl) (hx:S.ev ⟨tm,st,nx,nt⟩ x=some (.int kd a):=by rfl) (hy:S.ev ⟨tm,st,nx,nt⟩ y=some (.int kd b):=by rfl) (hg:ax l o ⟨tm,st,nx,nt⟩=some true:=by rfl) (hd:o.dst=some d:=by rfl) (hlt:Nat.blt d nt=true:=by rfl):ay P N l K (o::r) ⟨tm,st,nx,nt⟩ tr:=ku hg hd hlt (fun _r h=>IU ho h) (hT hx (hT hy h0)) k1 k2
theorem xW (k:ay P N l K r ⟨(d,.bool true)::tm,st,nx,nt⟩ (tr++[aH l o ⟨[(x,au p),(y,au q)],[]⟩ []])) (ho:o.op = .binOp .eql t x y t':=by rfl) (hx:S.ev ⟨tm,st,nx,nt⟩ x=some (au p):=by rfl) (hy:S.ev ⟨tm,st,nx,nt⟩ y=some (au q):=by rfl) (hg:ax l o ⟨tm,st,nx,nt⟩=some true:=by rfl) (hd:o.dst=some d:=by rfl) (hlt:Nat.blt d nt=true:=by rfl) (h:p=q:=by first|assumption|exact rfl|exact Eq.symm (by assumption)|exact fun h=>h rfl|exact fun h=>h (by assumption)|exact fun h=>h (Eq.symm (by assumption))|exact fun h=>absurd (Eq.symm h) (by assumption)):ay P N l K (o::r) ⟨tm,st,nx,nt⟩ tr:=aJ hg hd hlt (pK ho (decide_eq_true h)) (hT hx (hT hy h0)) k
theorem xU (k:ay P N l K r ⟨(d,.bool false)::tm,st,nx,nt⟩ (tr++[aH l o ⟨[(x,au p),(y,au q)],[]⟩ []])) (ho:o.op = .binOp .eql t x y t':=by rfl) (hx:S.ev ⟨tm,st,nx,nt⟩ x=some (au p):=by rfl) (hy:S.ev ⟨tm,st,nx,nt⟩ y=some (au q):=by rfl) (hg:ax l o ⟨tm,st,nx,nt⟩=some true:=by rfl) (hd:o.dst=some d:=by rfl) (hlt:Nat.blt d nt=true:=by rfl) (h:¬ (p=q):=by first|assumption|exact rfl|exact Eq.symm (by assumption)|exact fun h=>h rfl|exact fun h=>h (by assumption)|exact fun h=>h (Eq.symm (by assumption))|exact fun h=>absurd (Eq.symm h) (by assumption)):ay P N l K (o::r) ⟨tm,st,nx,nt⟩ tr:=aJ hg hd hlt (pK ho (decide_eq_false h)) (hT hx (hT hy h0)) k
theorem Dz (k1:p=q→ay P N l K r ⟨(d,.bool true)::tm,st,nx,nt⟩ (tr++[aH l o ⟨[(x,au p),(y,au q)],[]⟩ []])) (k2:¬ (p=q)→ay P N l K r ⟨(d,.bool false)::tm,st,nx,nt⟩ (tr++[aH l o ⟨[(x,au p),(y,au q)],[]⟩ []])) (ho:o.op = .binOp .eql t x y t':=by rfl) (hx:S.ev ⟨tm,st,nx,nt⟩ x=some (au p):=by rfl) (hy:S.ev ⟨tm,st,nx,nt⟩ y=some (au q):=by rfl) (hg:ax l o ⟨tm,st,nx,nt⟩=some true:=by rfl) (hd:o.dst=some d:=by rfl) (hlt:Nat.blt d nt=true:=by rfl):ay P N l K (o::r) ⟨tm,st,nx,nt⟩ tr:=ku hg hd hlt (fun _r h=>pK ho h) (hT hx (hT hy h0)) k1 k2
theorem Cw {w:Bool} (k:ay P N l K r ⟨(d,.bool w)::tm,st,nx,nt⟩ (tr++[aH l o ⟨[(x,.bool u),(y,.bool v)],[]⟩ []])) (ho:o.op = .binOp .eql t x y t':=by rfl) (hx:S.ev ⟨tm,st,nx,nt⟩ x=some (.bool u):=by rfl) (hy:S.ev ⟨tm,st,nx,nt⟩ y=some (.bool v):=by rfl) (hg:ax l o ⟨tm,st,nx,nt⟩=some true:=by rfl) (hd:o.dst=some d:=by rfl) (hlt:Nat.blt d nt=true:=by rfl) (ht:P.underlying t=some .bool:=by rfl) (h:(u==v)=w:=by first|exact beq_self_eq_true _|rfl):ay P N l K (o::r) ⟨tm,st,nx,nt⟩ tr:=aJ hg hd hlt (Hq ho ht h) (hT hx (hT hy h0)) k
theorem I9 (k:ay P N l K r ⟨(d,.bool false)::tm,st,nx,nt⟩ (tr++[aH l o ⟨[(x,.ifc t1 v1),(y,.nili)],[]⟩ []])) (ho:o.op = .binOp .eql t x y t':=by rfl) (hx:S.ev ⟨tm,st,nx,nt⟩ x=some (.ifc t1 v1):=by rfl) (hy:S.ev ⟨tm,st,nx,nt⟩ y=some (.nili):=by rfl) (hg:ax l o ⟨tm,st,nx,nt⟩=some true:=by rfl) (hd:o.dst=some d:=by rfl) (hlt:Nat.blt d nt=true:=by rfl) (ht:P.underlying t=some (.interface (P.methodsAt t)):=by kernel_rfl):ay P N l K (o::r) ⟨tm,st,nx,nt⟩ tr:=aJ hg hd hlt (JX ho ht) (hT hx (hT hy h0)) k
theorem G7 (k:ay P N l K r ⟨(d,.bool true)::tm,st,nx,nt⟩ (tr++[aH l o ⟨[(x,.nili),(.const c,.nili)],[]⟩ []])) (ho:o.op = .binOp .eql t x (.const c) t':=by rfl) (hx:S.ev ⟨tm,st,nx,nt⟩ x=some (.nili):=by rfl) (hy:S.ev ⟨tm,st,nx,nt⟩ (.const c)=some (.nili):=by rfl) (hg:ax l o ⟨tm,st,nx,nt⟩=some true:=by rfl) (hd:o.dst=some d:=by rfl) (hlt:Nat.blt d nt=true:=by rfl) (ht:P.underlying t=some (.interface (P.methodsAt t)):=by kernel_rfl):ay P N l K (o::r) ⟨tm,st,nx,nt⟩ tr:=aJ hg hd hlt (Im ho ht) (hT hx (hT hy h0)) k
theorem YV (k:ay P N l K r ⟨(d,.bool true)::tm,st,nx,nt⟩ (tr++[aH l o ⟨[(x,au p),(y,au q)],[]⟩ []])) (ho:o.op = .binOp .neq t x y t':=by rfl) (hx:S.ev ⟨tm,st,nx,nt⟩ x=some (au p):=by rfl) (hy:S.ev ⟨tm,st,nx,nt⟩ y=some (au q):=by rfl) (hg:ax l o ⟨tm,st,nx,nt⟩=some true:=by rfl) (hd:o.dst=some d:=by rfl) (hlt:Nat.blt d nt=true:=by rfl) (h:p≠q:=by first|assumption|exact rfl|exact Eq.symm (by assumption)|exact fun h=>h rfl|exact fun h=>h (by assumption)|exact fun h=>h (Eq.symm (by assumption))|exact fun h=>absurd (Eq.symm h) (by assumption)):ay P N l K (o::r) ⟨tm,st,nx,nt⟩ tr:=aJ hg hd hlt (qp ho (decide_eq_true h)) (hT hx (hT hy h0)) k
theorem XM (k:ay P N l K r ⟨(d,.bool false)::tm,st,nx,nt⟩ (tr++[aH l o ⟨[(x,au p),(y,au q)],[]⟩ []])) (ho:o.op = .binOp .neq t x y t':=by rfl) (hx:S.ev ⟨tm,st,nx,nt⟩ x=some (au p):=by rfl) (hy:S.ev ⟨tm,st,nx,nt⟩ y=some (au q):=by rfl) (hg:ax l o ⟨tm,st,nx,nt⟩=some true:=by rfl) (hd:o.dst=some d:=by rfl) (hlt:Nat.blt d nt=true:=by rfl) (h:¬ (p≠q):=by first|assumption|exact rfl|exact Eq.symm (by assumption)|exact fun h=>h rfl|exact fun h=>h (by assumption)|exact fun h=>h (Eq.symm (by assumption))|exact fun h=>absurd (Eq.symm h) (by assumption)):ay P N l K (o::r) ⟨tm,st,nx,nt⟩ tr:=aJ hg hd hlt (qp ho (decide_eq_false h)) (hT hx (hT hy h0)) k
theorem abn (k1:p≠q→ay P N l K r ⟨(d,.bool true)::tm,st,nx,nt⟩ (tr++[aH l o ⟨[(x,au p),(y,au q)],[]⟩ []])) (k2:¬ (p≠q)→ay P N l K r ⟨(d,.bool false)::tm,st,nx,nt⟩ (tr++[aH l o ⟨[(x,au p),(y,au q)],[]⟩ []])) (ho:o.op = .binOp .neq t x y t':=by rfl) (hx:S.ev ⟨tm,st,nx,nt⟩ x=some (au p):=by rfl) (hy:S.ev ⟨tm,st,nx,nt⟩ y=some (au q):=by rfl) (hg:ax l o ⟨tm,st,nx,nt⟩=some true:=by rfl) (hd:o.dst=some d:=by rfl) (hlt:Nat.blt d nt=true:=by rfl):ay P N l K (o::r) ⟨tm,st,nx,nt⟩ tr:=ku hg hd hlt (fun _r h=>qp ho h) (hT hx (hT hy h0)) k1 k2
theorem aaD (k:ay P N l K r ⟨(d,.bool true)::tm,st,nx,nt⟩ (tr++[aH l o ⟨[(x,.ifc t1 v1),(y,.nili)],[]⟩ []])) (ho:o.op = .binOp .neq t x y t':=by rfl) (hx:S.ev ⟨tm,st,nx,nt⟩ x=some (.ifc t1 v1):=by rfl) (hy:S.ev ⟨tm,st,nx,nt⟩ y=some (.nili):=by rfl) (hg:ax l o ⟨tm,st,nx,nt⟩=some true:=by rfl) (hd:o.dst=some d:=by rfl) (hlt:Nat.blt d nt=true:=by rfl) (ht:P.underlying t=some (.interface (P.methodsAt t)):=by kernel_rfl):ay P N l K (o::r) ⟨tm,st,nx,nt⟩ tr:=aJ hg hd hlt (KY ho ht) (hT hx (hT hy h0)) k
theorem aaN (k:ay P N l K r ⟨(d,.bool false)::tm,st,nx,nt⟩ (tr++[aH l o ⟨[(x,.nili),(.const c,.nili)],[]⟩ []])) (ho:o.op = .binOp .neq t x (.const c) t':=by rfl) (hx:S.ev ⟨tm,st,nx,nt⟩ x=some (.nili):=by rfl) (hy:S.ev ⟨tm,st,nx,nt⟩ (.const c)=some (.nili):=by rfl) (hg:ax l o ⟨tm,st,nx,nt⟩=some true:=by rfl) (hd:o.dst=some d:=by rfl) (hlt:Nat.blt d nt=true:=by rfl) (ht:P.underlying t=some (.interface (P.methodsAt t)):=by kernel_rfl):ay P N l K (o::r) ⟨tm,st,nx,nt⟩ tr:=aJ hg hd hlt (Gu ho ht) (hT hx (hT hy h0)) k
theorem qY (k:ay P N l K r ⟨(d,au (p++q))::tm,st,nx,nt⟩ (tr++[aH l o ⟨[(x,au p),(y,au q)],[]⟩ []])) (ho:o.op = .binOp .add t x y t':=by rfl) (hx:S.ev ⟨tm,st,nx,nt⟩ x=some (au p):=by rfl) (hy:S.ev ⟨tm,st,nx,nt⟩ y=some (au q):=by rfl) (hg:ax l o ⟨tm,st,nx,nt⟩=some true:=by rfl) (hd:o.dst=some d:=by rfl) (hlt:Nat.blt d nt=true:=by rfl) (h:p.length+q.length≤dS:=by simp only [dS,List.length_append,List.length_cons,List.length_nil] at *;omega):ay P N l K (o::r) ⟨tm,st,nx,nt⟩ tr:=aJ hg hd hlt (PI ho h) (hT hx (hT hy h0)) k
theorem abP  (k:ay P N l K r ⟨(d,.int .i64 p.length)::tm,st,nx,nt⟩ (tr++[aH l o ⟨[(x,au p)],[]⟩ []])) (ho:o.op = .call { callee:=.builtin .len,args := #[x],argTypes := #[t] }:=by rfl) (hx:S.ev ⟨tm,st,nx,nt⟩ x=some (au p):=by rfl) (hg:ax l o ⟨tm,st,nx,nt⟩=some true:=by rfl) (hd:o.dst=some d:=by rfl) (hlt:Nat.blt d nt=true:=by rfl) (ht:P.underlying t=some .string:=by rfl):ay P N l K (o::r) ⟨tm,st,nx,nt⟩ tr:=aJ hg hd hlt (Ia ho ht) (hT hx h0) k
theorem abo {xs:List V} (htb:aL P tb) (k:ay P N l K r ⟨(d,.int .i64 xs.length)::tm,st,nx,nt⟩ (tr++[aH l o ⟨[(x,.fro xs)],[]⟩ []])) (ho:o.op = .call { callee:=.builtin .len,args := #[x],argTypes := #[t] }:=by rfl) (hx:S.ev ⟨tm,st,nx,nt⟩ x=some (.fro xs):=by rfl) (hg:ax l o ⟨tm,st,nx,nt⟩=some true:=by rfl) (hd:o.dst=some d:=by rfl) (hlt:Nat.blt d nt=true:=by rfl) (hT':nth tb t=some e:=by rfl) (hs:e.sl=some el:=by rfl):ay P N l K (o::r) ⟨tm,st,nx,nt⟩ tr:=aJ hg hd hlt (KH htb ho hT' hs) (hT hx h0) k
theorem aa6 (htb:aL P tb) (k:ay P N l K r ⟨(d,.int .i64 m1)::tm,st,nx,nt⟩ (tr++[aH l o ⟨[(x,.own m i0 m1)],[]⟩ []])) (ho:o.op = .call { callee:=.builtin .len,args := #[x],argTypes := #[t] }:=by rfl) (hx:S.ev ⟨tm,st,nx,nt⟩ x=some (.own m i0 m1):=by rfl) (hg:ax l o ⟨tm,st,nx,nt⟩=some true:=by rfl) (hd:o.dst=some d:=by rfl) (hlt:Nat.blt d nt=true:=by rfl) (hT':nth tb t=some e:=by rfl) (hs:e.sl=some el:=by rfl):ay P N l K (o::r) ⟨tm,st,nx,nt⟩ tr:=aJ hg hd hlt (Ka htb ho hT' hs) (hT hx h0) k
theorem ZQ (htb:aL P tb) (k:ay P N l K r ⟨(d,.int .i64 0)::tm,st,nx,nt⟩ (tr++[aH l o ⟨[(x,.nils)],[]⟩ []])) (ho:o.op = .call { callee:=.builtin .len,args := #[x],argTypes := #[t] }:=by rfl) (hx:S.ev ⟨tm,st,nx,nt⟩ x=some (.nils):=by rfl) (hg:ax l o ⟨tm,st,nx,nt⟩=some true:=by rfl) (hd:o.dst=some d:=by rfl) (hlt:Nat.blt d nt=true:=by rfl) (hT':nth tb t=some e:=by rfl) (hs:e.sl=some el:=by rfl):ay P N l K (o::r) ⟨tm,st,nx,nt⟩ tr:=aJ hg hd hlt (Gv htb ho hT' hs) (hT hx h0) k
theorem acG {c:UInt8} (htb:aL P tb) (k:ay P N l K r ⟨(d,bB c)::tm,st,nx,nt⟩ (tr++[aH l o ⟨[(x,au p),(y,.int kd a)],[]⟩ []])) (ho:o.op = .index T x y:=by rfl) (hx:S.ev ⟨tm,st,nx,nt⟩ x=some (au p):=by rfl) (hy:S.ev ⟨tm,st,nx,nt⟩ y=some (.int kd a):=by rfl) (hg:ax l o ⟨tm,st,nx,nt⟩=some true:=by rfl) (hd:o.dst=some d:=by rfl) (hlt:Nat.blt d nt=true:=by rfl) (hT':nth tb T=some e:=by rfl) (hk:e.knd=2:=by rfl) (h0':0≤a:=by omega) (hv:p[a.toNat]? = some c:=by first|assumption|exact rfl):ay P N l K (o::r) ⟨tm,st,nx,nt⟩ tr:=aJ hg hd hlt (BM htb ho hT' hk h0' hv) (hT hx (hT hy h0)) k
theorem qO {xs:List V} (htb:aL P tb) (k:ay P N l K r ⟨(d,.fp w.cells 0)::tm,st,nx,nt⟩ (tr++[aH l o ⟨[(x,.fro xs),(y,.int kd a)],[]⟩ []])) (ho:o.op = .indexAddr T x y:=by rfl) (hx:S.ev ⟨tm,st,nx,nt⟩ x=some (.fro xs):=by rfl) (hy:S.ev ⟨tm,st,nx,nt⟩ y=some (.int kd a):=by rfl) (hg:ax l o ⟨tm,st,nx,nt⟩=some true:=by rfl) (hd:o.dst=some d:=by rfl) (hlt:Nat.blt d nt=true:=by rfl) (hT':nth tb T=some e:=by rfl) (hs:e.sl=some el:=by rfl) (hE:nth tb el=some ee:=by rfl) (h0':0≤a:=by omega) (hv:xs[a.toNat]? = some w:=by first|assumption|exact rfl) (hz:w.cells.length=ee.size:=by rfl):ay P N l K (o::r) ⟨tm,st,nx,nt⟩ tr:=aJ hg hd hlt (Er htb ho hT' hs hE h0' hv hz) (hT hx (hT hy h0)) k
theorem rX {T1:Nat} {xs:List V} (htb:aL P tb) (k:ay P N l K r ⟨(d,.loc m (i0+a.toNat) 0)::tm,st,nx,nt⟩ (tr++[aH l o ⟨[(x,.own m i0 m1),(y,.int kd a)],[(m,.els T1 ee.size xs)]⟩ []])) (ho:o.op = .indexAddr T x y:=by rfl) (hx:S.ev ⟨tm,st,nx,nt⟩ x=some (.own m i0 m1):=by rfl) (hy:S.ev ⟨tm,st,nx,nt⟩ y=some (.int kd a):=by rfl) (hg:ax l o ⟨tm,st,nx,nt⟩=some true:=by rfl) (hd:o.dst=some d:=by rfl) (hlt:Nat.blt d nt=true:=by rfl) (hT':nth tb T=some e:=by rfl) (hs:e.sl=some el:=by rfl) (hE:nth tb el=some ee:=by rfl) (h0':0≤a:=by omega) (hB:S.blk ⟨tm,st,nx,nt⟩ m=some (.els T1 ee.size xs):=by rfl) (h1:a<m1:=by omega):ay P N l K (o::r) ⟨tm,st,nx,nt⟩ tr:=aJ hg hd hlt (wD htb ho hT' hs hE h0' h1) (hT hx (hT hy (hN hB h0))) k
theorem rq (htb:aL P tb) (k:ay P N l K r ⟨(d,.loc m i0 (off+a.toNat*ee.size))::tm,st,nx,nt⟩ (tr++[aH l o ⟨[(x,.loc m i0 off),(y,.int kd a)],[]⟩ []])) (ho:o.op = .indexAddr T x y:=by rfl) (hx:S.ev ⟨tm,st,nx,nt⟩ x=some (.loc m i0 off):=by rfl) (hy:S.ev ⟨tm,st,nx,nt⟩ y=some (.int kd a):=by rfl) (hg:ax l o ⟨tm,st,nx,nt⟩=some true:=by rfl) (hd:o.dst=some d:=by rfl) (hlt:Nat.blt d nt=true:=by rfl) (hT':nth tb T=some e:=by rfl) (hs:e.arr=some (len,el):=by rfl) (hE:nth tb el=some ee:=by rfl) (h0':0≤a:=by omega) (h1:a<len:=by omega):ay P N l K (o::r) ⟨tm,st,nx,nt⟩ tr:=aJ hg hd hlt (wE htb ho hT' hs hE h0' h1) (hT hx (hT hy h0)) k
theorem mR {cs:List V} (htb:aL P tb) (k:ay P N l K r ⟨(d,.fp cs (off+a.toNat*ee.size))::tm,st,nx,nt⟩ (tr++[aH l o ⟨[(x,.fp cs off),(y,.int kd a)],[]⟩ []])) (ho:o.op = .indexAddr T x y:=by rfl) (hx:S.ev ⟨tm,st,nx,nt⟩ x=some (.fp cs off):=by rfl) (hy:S.ev ⟨tm,st,nx,nt⟩ y=some (.int kd a):=by rfl) (hg:ax l o ⟨tm,st,nx,nt⟩=some true:=by rfl) (hd:o.dst=some d:=by rfl) (hlt:Nat.blt d nt=true:=by rfl) (hT':nth tb T=some e:=by rfl) (hs:e.arr=some (len,el):=by rfl) (hE:nth tb el=some ee:=by rfl) (h0':0≤a:=by omega) (h1:a<len:=by omega):ay P N l K (o::r) ⟨tm,st,nx,nt⟩ tr:=aJ hg hd hlt (sJ htb ho hT' hs hE h0' h1) (hT hx (hT hy h0)) k
theorem ZH (htb:aL P tb) (k:ay P N l K r ⟨(d,w)::tm,st,nx,nt⟩ (tr++[aH l o ⟨[(x,.agg vs),(y,.int kd a)],[]⟩ []])) (ho:o.op = .index T x y:=by rfl) (hx:S.ev ⟨tm,st,nx,nt⟩ x=some (.agg vs):=by rfl) (hy:S.ev ⟨tm,st,nx,nt⟩ y=some (.int kd a):=by rfl) (hg:ax l o ⟨tm,st,nx,nt⟩=some true:=by rfl) (hd:o.dst=some d:=by rfl) (hlt:Nat.blt d nt=true:=by rfl) (hT':nth tb T=some e:=by rfl) (hs:e.arr=some (len,el):=by rfl) (hE:nth tb el=some ee:=by rfl) (h0':0≤a:=by omega) (h1:a<len:=by omega) (hv:kY vs (a.toNat*ee.size) ee.agg ee.size=some w:=by rfl):ay P N l K (o::r) ⟨tm,st,nx,nt⟩ tr:=aJ hg hd hlt (ED htb ho hT' hs hE h0' h1 hv) (hT hx (hT hy h0)) k
theorem abH (htb:aL P tb) (k:ay P N l K r ⟨(d,au (p.drop a.toNat))::tm,st,nx,nt⟩ (tr++[aH l o ⟨[(x,au p),(y,.int kd a)],[]⟩ []])) (ho:o.op = .slice T x (some y) none none:=by rfl) (hx:S.ev ⟨tm,st,nx,nt⟩ x=some (au p):=by rfl) (hy:S.ev ⟨tm,st,nx,nt⟩ y=some (.int kd a):=by rfl) (hg:ax l o ⟨tm,st,nx,nt⟩=some true:=by rfl) (hd:o.dst=some d:=by rfl) (hlt:Nat.blt d nt=true:=by rfl) (hT':nth tb T=some e:=by rfl) (hk:e.knd=2:=by rfl) (h0':0≤a:=by omega) (h1:a≤p.length:=by omega):ay P N l K (o::r) ⟨tm,st,nx,nt⟩ tr:=aJ hg hd hlt (uH htb ho hT' hk h0' h1) (hT hx (hT hy h0)) k
theorem aaH (htb:aL P tb) (k:ay P N l K r ⟨(d,au (p.take a.toNat))::tm,st,nx,nt⟩ (tr++[aH l o ⟨[(x,au p),(y,.int kd a)],[]⟩ []])) (ho:o.op = .slice T x none (some y) none:=by rfl) (hx:S.ev ⟨tm,st,nx,nt⟩ x=some (au p):=by rfl) (hy:S.ev ⟨tm,st,nx,nt⟩ y=some (.int kd a):=by rfl) (hg:ax l o ⟨tm,st,nx,nt⟩=some true:=by rfl) (hd:o.dst=some d:=by rfl) (hlt:Nat.blt d nt=true:=by rfl) (hT':nth tb T=some e:=by rfl) (hk:e.knd=2:=by rfl) (h0':0≤a:=by omega) (h1:a≤p.length:=by omega):ay P N l K (o::r) ⟨tm,st,nx,nt⟩ tr:=aJ hg hd hlt (wW htb ho hT' hk h0' h1) (hT hx (hT hy h0)) k
theorem aaF {kd':IntKind} (htb:aL P tb) (k:ay P N l K r ⟨(d,au ((p.take b.toNat).drop a.toNat))::tm,st,nx,nt⟩ (tr++[aH l o ⟨[(x,au p),(y,.int kd a),(z,.int kd' b)],[]⟩ []])) (ho:o.op = .slice T x (some y) (some z) none:=by rfl) (hx:S.ev ⟨tm,st,nx,nt⟩ x=some (au p):=by rfl) (hy:S.ev ⟨tm,st,nx,nt⟩ y=some (.int kd a):=by rfl) (hz:S.ev ⟨tm,st,nx,nt⟩ z=some (.int kd' b):=by rfl) (hg:ax l o ⟨tm,st,nx,nt⟩=some true:=by rfl) (hd:o.dst=some d:=by rfl) (hlt:Nat.blt d nt=true:=by rfl) (hT':nth tb T=some e:=by rfl) (hk:e.knd=2:=by rfl) (h0':0≤a:=by omega) (h1:a≤b:=by omega) (h2:b≤p.length:=by omega):ay P N l K (o::r) ⟨tm,st,nx,nt⟩ tr:=aJ hg hd hlt (Dr htb ho hT' hk h0' h1 h2) (hT hx (hT hy (hT hz h0))) k
theorem yg (htb:aL P tb) (k:ay P N l K r ⟨(d,.fro (p.map bB))::tm,st,nx,nt⟩ (tr++[aH l o ⟨[(x,au p)],[]⟩ []])) (ho:o.op = .convert t t' x:=by rfl) (hx:S.ev ⟨tm,st,nx,nt⟩ x=some (au p):=by rfl) (hg:ax l o ⟨tm,st,nx,nt⟩=some true:=by rfl) (hd:o.dst=some d:=by rfl) (hlt:Nat.blt d nt=true:=by rfl) (hS:nth tb t=some e:=by rfl) (hD:nth tb t'=some e':=by rfl) (hk:Nat.beq e.knd 2=true:=by rfl) (hs:e'.sl=some el:=by rfl) (hE:nth tb el=some ee:=by rfl) (he:Nat.beq ee.knd 24=true:=by rfl) (h:p.length≤LIM:=by first|omega|(simp only [LIM] at *;omega)):ay P N l K (o::r) ⟨tm,st,nx,nt⟩ tr:=aJ hg hd hlt (LF htb ho hS hD hk hs hE he h) (hT hx h0) k
theorem BN (htb:aL P tb) (k:ay P N l K r ⟨(d,.int .i64 a)::tm,st,nx,nt⟩ (tr++[aH l o ⟨[(x,.int kd a)],[]⟩ []])) (ho:o.op = .convert t t' x:=by rfl) (hx:S.ev ⟨tm,st,nx,nt⟩ x=some (.int kd a):=by rfl) (hg:ax l o ⟨tm,st,nx,nt⟩=some true:=by rfl) (hd:o.dst=some d:=by rfl) (hlt:Nat.blt d nt=true:=by rfl) (hS:nth tb t=some e:=by rfl) (hD:nth tb t'=some e':=by rfl) (hk:Nat.beq e'.knd (jC .i64)=true:=by rfl) (h : -9223372036854775808≤a∧a≤9223372036854775807:=by omega):ay P N l K (o::r) ⟨tm,st,nx,nt⟩ tr:=aJ hg hd hlt (zU htb ho hS hD hk (wrap64 h.1 h.2)) (hT hx h0) k
theorem mZ (k2:IntKind) (htb:aL P tb) (k:ay P N l K r ⟨(d,.int k2 b)::tm,st,nx,nt⟩ (tr++[aH l o ⟨[(x,.int kd a)],[]⟩ []])) (ho:o.op = .convert t t' x:=by rfl) (hx:S.ev ⟨tm,st,nx,nt⟩ x=some (.int kd a):=by rfl) (hg:ax l o ⟨tm,st,nx,nt⟩=some true:=by rfl) (hd:o.dst=some d:=by rfl) (hlt:Nat.blt d nt=true:=by rfl) (hS:nth tb t=some e:=by rfl) (hD:nth tb t'=some e':=by rfl) (hk:Nat.beq e'.knd (jC k2)=true:=by rfl) (h:k2.wrap a=b:=by first|assumption|rfl):ay P N l K (o::r) ⟨tm,st,nx,nt⟩ tr:=aJ hg hd hlt (zU htb ho hS hD hk h) (hT hx h0) k
theorem QX (htb:aL P tb) (k:ay P N l K r ⟨(d,.fro vs)::tm,st,nx,nt⟩ (tr++[aH l o ⟨(ps.toList.map (·.2)).zip vs,[]⟩ []])) (ho:o.op = .buildSlice T len ps:=by rfl) (hvs:evL ⟨tm,st,nx,nt⟩ (ps.toList.map (·.2))=some vs:=by rfl) (hg:ax l o ⟨tm,st,nx,nt⟩=some true:=by rfl) (hd:o.dst=some d:=by rfl) (hlt:Nat.blt d nt=true:=by rfl) (hl:Nat.beq vs.length ps.size=true:=by rfl) (hT':nth tb T=some e:=by rfl) (hs:e.sl=some el:=by rfl) (hE:nth tb el=some ee:=by rfl) (hz:ee.zeroV=some z0:=by rfl) (hsz:ee.size=sz:=by rfl) (hzl:z0.cells.length=sz:=by rfl) (h0':Nat.ble 1 sz=true:=by rfl) (hbig:Nat.ble (len*sz) 16777216=true:=by rfl) (hvl:Nat.beq vs.length len=true:=by rfl) (h1:(vs.all fun v=>v.cells.all V.one&&Nat.beq v.cells.length sz)=true:=by rfl) (hn:V.aY vs=[]:=by rfl) (hf:mK (fun i=>some (i*sz,sz)) (flat (List.replicate len z0)) (Ey ps.toList vs)=some (flat vs):=by rfl):ay P N l K (o::r) ⟨tm,st,nx,nt⟩ tr:=aJ hg hd hlt (BA htb ho hl hT' hs hE hz hsz hzl h0' hbig hvl h1 hn hf) (GV (u7 hvs).2) k
theorem OJ (d:Nat) (htb:aL P tb) (k:ay P N l K r ⟨(d,.own nx 0 len)::tm,(nx,some (.els el sz vs))::st,nx+1,nt⟩ (tr++[aH l o ⟨(ps.toList.map (·.2)).zip vs,[]⟩ [(nx,some (.els el sz vs))]])) (ho:o.op = .buildSlice T len ps:=by rfl) (hvs:evL ⟨tm,st,nx,nt⟩ (ps.toList.map (·.2))=some vs:=by rfl) (hg:ax l o ⟨tm,st,nx,nt⟩=some true:=by rfl) (hd:o.dst=some d:=by rfl) (hlt:Nat.blt d nt=true:=by rfl) (hl:Nat.beq vs.length ps.size=true:=by rfl) (hT':nth tb T=some e:=by rfl) (hs:e.sl=some el:=by rfl) (hE:nth tb el=some ee:=by rfl) (hz:ee.zeroV=some z0:=by rfl) (hsz:ee.size=sz:=by rfl) (hzl:z0.cells.length=sz:=by rfl) (h0':Nat.ble 1 sz=true:=by rfl) (hbig:Nat.ble (len*sz) 16777216=true:=by rfl) (hvl:Nat.beq vs.length len=true:=by rfl) (h1:(vs.all fun v=>v.cells.all V.one&&Nat.beq v.cells.length sz)=true:=by rfl) (hf:mK (fun i=>some (i*sz,sz)) (flat (List.replicate len z0)) (Ey ps.toList vs)=some (flat vs):=by rfl):ay P N l K (o::r) ⟨tm,st,nx,nt⟩ tr:=FM rfl hg hd hlt (vw htb ho hl hT' hs hE hz hsz hzl h0' hbig hvl h1 hf) (GV (u7 hvs).2) k
theorem kr (f:α→V) {a1:α} (htb:aL P tb) (k:ay P N l K r ⟨(d,.own nx 0 (L++[a1]).length)::tm,(m,none)::(nx,some (.els el sz ((L++[a1]).map f)))::st,nx+1,nt⟩ (tr++[aH l o ⟨[(x,.own m 0 L.length),(y,.fro [f a1])],[(m,.els el sz (L.map f))]⟩ [(m,none),(nx,some (.els el sz ((L++[a1]).map f)))]])) (ho:o.op = .call { callee:=.builtin .append,args := #[x,y],argTypes := #[T,T] }:=by rfl) (hx:S.ev ⟨tm,st,nx,nt⟩ x=some (.own m 0 L.length):=by rfl) (hy:S.ev ⟨tm,st,nx,nt⟩ y=some (.fro [f a1]):=by rfl) (hg:ax l o ⟨tm,st,nx,nt⟩=some true:=by rfl) (hd:o.dst=some d:=by rfl) (hlt:Nat.blt d nt=true:=by rfl) (hB:S.blk ⟨tm,st,nx,nt⟩ m=some (.els el sz (L.map f)):=by rfl) (hT':nth tb T=some e:=by rfl) (hs:e.sl=some el:=by rfl) (hE:nth tb el=some ee:=by rfl) (hz:ee.zeroV=some z0:=by rfl) (hsz:ee.size=sz:=by rfl) (hzl:z0.cells.length=sz:=by rfl) (hf:∀ a,(f a).cells.length=sz∧((f a).cells.all V.one)=true:=by exact fun _=>⟨rfl,rfl⟩) (hlim:L.length+1≤LIM:=by simp only [LIM];omega) (hby:(L.length+1)*ee.bytes≤140737488355328:=by show _*(_:Nat)≤_;simp;omega):ay P N l K (o::r) ⟨tm,st,nx,nt⟩ tr:=LV rfl hg hd hlt (Lj (f:=f) (fun a=>⟨(hf a).1,List.all_eq_true.1 (hf a).2⟩) htb ho hT' hs hE hz hsz hzl hlim hby) (hT hx (hT hy (hN hB h0))) k
theorem nS {s:S} {ns:List (Nat × Blk)}:∀ {xs:List Operand} {vs:List V},evL s xs=some vs→(∀ p∈ns,s.blk p.1=some p.2)→Holds ⟨je xs vs,ns⟩ s
 | [],vs,h,k=>by rw [evL] at h;cases h;exact ⟨fun p hp=>by simp [je] at hp,k⟩
 | x::r,vs,h,k=>by
  rw [evL] at h
  split at h<;>cases h
  rename_i v q hv hq
  exact hT hv (nS hq k)
theorem kM {s:S} (h:evL s xs.toList=some vs):vs.length=xs.size:=by simpa using (u7 h).1
def FO (s:S):List Nat→Option (List (Nat × Blk))
 | []=>some []
 | n::r=>match s.blk n,FO s r with
  | some b,some q=>some ((n,b)::q)
  | _,_=>none
theorem DV {s:S}:∀ {l:List Nat} {q:List (Nat × Blk)},FO s l=some q→∀ p∈q,s.blk p.1=some p.2
 | [],q,h=>by rw [FO] at h;cases h;exact fun p hp=>by cases hp
 | n::r,q,h=>by
  rw [FO] at h
  split at h<;>cases h
  rename_i b q hb hq
  intro p hp
  rcases List.mem_cons.1 hp with rfl|hp
  ·exact hb
  ·exact DV hq p hp
theorem jK {f:α→V × V} (h:∀ a,(f a).2.names=[]):∀ p∈L.map f,p.2.names=[]:=fun x hx=>by
 obtain ⟨a,_,rfl⟩:=List.mem_map.1 hx
 exact h a
theorem Hw {f:α→V} (h:∀ a,(f a).names=[]):∀ x∈L.map f,x.names=[]:=fun x hx=>by
 obtain ⟨a,_,rfl⟩:=List.mem_map.1 hx
 exact h a
theorem UG (h:av P N.g f vs w) (k:ay P N l K r ⟨(d,w)::tm,st,nx,nt⟩ (tr++[aH l o ⟨je xs.toList vs,[]⟩ []])) (ho:o.op = .call { callee:=.value (.func f),args:=xs,argTypes:=ts }:=by rfl) (he:evL ⟨tm,st,nx,nt⟩ xs.toList=some vs:=by rfl) (hg:ax l o ⟨tm,st,nx,nt⟩=some true:=by rfl) (hd:o.dst=some d:=by rfl) (hlt:Nat.blt d nt=true:=by rfl) (hb:dR P f=true:=by kernel_rfl) (hn:V.aY vs=[]:=by rfl):ay P N l K (o::r) ⟨tm,st,nx,nt⟩ tr:=aJ hg hd hlt (BR ho (enters hb) (kM he) h hn) (nS he fun p hp=>by cases hp) k
theorem nC (h:av P N.g f vs (.bool v)) (k1:v=true→ay P N l K r ⟨(d,.bool true)::tm,st,nx,nt⟩ (tr++[aH l o ⟨je xs.toList vs,[]⟩ []])) (k2:v=false→ay P N l K r ⟨(d,.bool false)::tm,st,nx,nt⟩ (tr++[aH l o ⟨je xs.toList vs,[]⟩ []])) (ho:o.op = .call { callee:=.value (.func f),args:=xs,argTypes:=ts }:=by rfl) (he:evL ⟨tm,st,nx,nt⟩ xs.toList=some vs:=by rfl) (hg:ax l o ⟨tm,st,nx,nt⟩=some true:=by rfl) (hd:o.dst=some d:=by rfl) (hlt:Nat.blt d nt=true:=by rfl) (hb:dR P f=true:=by kernel_rfl) (hn:V.aY vs=[]:=by rfl):ay P N l K (o::r) ⟨tm,st,nx,nt⟩ tr:=rR hg hd hlt (BR ho (enters hb) (kM he) h hn) (nS he fun p hp=>by cases hp) k1 k2
theorem uf (names:List Nat) (h:av P N.g f us w) (k:ay P N l K r ⟨(d,w)::tm,st,nx,nt⟩ (tr++[aH l o ⟨je xs.toList vs,ns⟩ []])) (ho:o.op = .call { callee:=.value (.func f),args:=xs,argTypes:=ts }:=by rfl) (he:evL ⟨tm,st,nx,nt⟩ xs.toList=some vs:=by rfl) (hg:ax l o ⟨tm,st,nx,nt⟩=some true:=by rfl) (hd:o.dst=some d:=by rfl) (hlt:Nat.blt d nt=true:=by rfl) (hb:dR P f=true:=by kernel_rfl) (hr:FO ⟨tm,st,nx,nt⟩ names=some ns:=by rfl) (hf:jQ (lk ns) vs=some us:=by rfl) (hok:jL (lk ns) vs:=by repeat' first|exact trivial|exact rfl|exact xu (fun _=>rfl)|exact Hw (fun _=>rfl)|(intro u hu;obtain rfl:=List.mem_singleton.1 hu;exact rfl)|constructor) (hp:Bw w=true:=by rfl):ay P N l K (o::r) ⟨tm,st,nx,nt⟩ tr:=aJ hg hd hlt (wQ ns ho (enters hb) (kM he) hf hok h hp) (nS he (DV hr)) k
theorem Kw (names:List Nat) (h:av P N.g f us (.bool v)) (k1:v=true→ay P N l K r ⟨(d,.bool true)::tm,st,nx,nt⟩ (tr++[aH l o ⟨je xs.toList vs,ns⟩ []])) (k2:v=false→ay P N l K r ⟨(d,.bool false)::tm,st,nx,nt⟩ (tr++[aH l o ⟨je xs.toList vs,ns⟩ []])) (ho:o.op = .call { callee:=.value (.func f),args:=xs,argTypes:=ts }:=by rfl) (he:evL ⟨tm,st,nx,nt⟩ xs.toList=some vs:=by rfl) (hg:ax l o ⟨tm,st,nx,nt⟩=some true:=by rfl) (hd:o.dst=some d:=by rfl) (hlt:Nat.blt d nt=true:=by rfl) (hb:dR P f=true:=by kernel_rfl) (hr:FO ⟨tm,st,nx,nt⟩ names=some ns:=by rfl) (hf:jQ (lk ns) vs=some us:=by rfl) (hok:jL (lk ns) vs:=by repeat' first|exact trivial|exact rfl|exact xu (fun _=>rfl)|exact Hw (fun _=>rfl)|(intro u hu;obtain rfl:=List.mem_singleton.1 hu;exact rfl)|constructor) (hp:Bw (.bool v)=true:=by rfl):ay P N l K (o::r) ⟨tm,st,nx,nt⟩ tr:=rR hg hd hlt (wQ ns ho (enters hb) (kM he) hf hok h hp) (nS he (DV hr)) k1 k2
theorem ak (h:av P N.g f ws w) (k:ay P N l K r ⟨(d,w)::tm,st,nx,nt⟩ (tr++[aH l o ⟨(g,.fn (.func f) fs bs)::je xs.toList vs,[]⟩ []])) (ho:o.op = .call { callee:=.value g,args:=xs,argTypes:=ts }:=by rfl) (hf:S.ev ⟨tm,st,nx,nt⟩ g=some (.fn (.func f) fs bs):=by rfl) (he:evL ⟨tm,st,nx,nt⟩ xs.toList=some vs:=by rfl) (hw:fs++vs++bs=ws:=by rfl) (hg:ax l o ⟨tm,st,nx,nt⟩=some true:=by rfl) (hd:o.dst=some d:=by rfl) (hlt:Nat.blt d nt=true:=by rfl) (hb:dR P f=true:=by first|assumption|kernel_rfl) (hn:V.aY ws=[]:=by first|rfl|simp [V.aY,V.names, *]):ay P N l K (o::r) ⟨tm,st,nx,nt⟩ tr:=aJ hg hd hlt (yK ho (enters hb) (kM he) (hw ▸ h) (hw ▸ hn)) (hT hf (nS he fun p hp=>by cases hp)) k
theorem eT (h:av P N.g f ws (.bool v)) (k1:v=true→ay P N l K r ⟨(d,.bool true)::tm,st,nx,nt⟩ (tr++[aH l o ⟨(g,.fn (.func f) fs bs)::je xs.toList vs,[]⟩ []])) (k2:v=false→ay P N l K r ⟨(d,.bool false)::tm,st,nx,nt⟩ (tr++[aH l o ⟨(g,.fn (.func f) fs bs)::je xs.toList vs,[]⟩ []])) (ho:o.op = .call { callee:=.value g,args:=xs,argTypes:=ts }:=by rfl) (hf:S.ev ⟨tm,st,nx,nt⟩ g=some (.fn (.func f) fs bs):=by rfl) (he:evL ⟨tm,st,nx,nt⟩ xs.toList=some vs:=by rfl) (hw:fs++vs++bs=ws:=by rfl) (hg:ax l o ⟨tm,st,nx,nt⟩=some true:=by rfl) (hd:o.dst=some d:=by rfl) (hlt:Nat.blt d nt=true:=by rfl) (hb:dR P f=true:=by first|assumption|kernel_rfl) (hn:V.aY ws=[]:=by first|rfl|simp [V.aY,V.names, *]):ay P N l K (o::r) ⟨tm,st,nx,nt⟩ tr:=rR hg hd hlt (yK ho (enters hb) (kM he) (hw ▸ h) (hw ▸ hn)) (hT hf (nS he fun p hp=>by cases hp)) k1 k2
theorem rA {s:S} (h4:pack us=w) (h1:nG tb s rs=some vs:=by rfl) (h2:jQ s.blk vs=some us:=by rfl) (h3:jL s.blk vs:=by repeat' first|exact trivial|exact xu (fun _=>rfl)|constructor):qJ tb rs w .ret s:=⟨vs,us,h1,h2,h3,h4⟩
theorem uR {s:S} (h4:pack us=w) (h1:nG tb s rs=some vs:=by rfl) (h2:jQ s.blk vs=some us:=by rfl) (h3:jL s.blk vs:=by repeat' first|exact trivial|exact xu (fun _=>rfl)|constructor):qJ tb rs w .normal s:=⟨vs,us,h1,h2,h3,h4⟩
theorem ai {s:S} (h1:s1.nt=s.nt:=by rfl) (h2:Xm s s1.nx s1.tm:=by repeat' first|exact trivial|exact rfl|constructor|(simp only [NLt,V.names,V.aY,List.append_nil,List.nil_append, *];rfl)) (h3:StI s s1.nx s1.st:=by repeat' first|exact trivial|exact rfl|exact Qq (fun _=>rfl)|exact DF (by assumption)|exact jK (fun _=>rfl)|exact (fun _ h=>nomatch h)|constructor) (h4:tq id s1.st=true:=by rfl) (h5:Nat.ble k s1.nx=true:=by rfl):LeI k s1 s:=⟨h1,h2,h3,h4,h5⟩
theorem x_len (ns:List Nat) {s:S} (h1:s1.nt=s.nt:=by rfl) (h2:Nat.beq ns.length s1.nx=true:=by rfl) (h3:YT ns s s1.tm:=by repeat' first|exact trivial|refine And.intro ⟨_,rfl,rfl⟩ ?_) (h4:StN ns s s1.st:=by repeat' first|exact trivial|refine And.intro ⟨_,rfl,by first|exact bX.ren rfl|exact bX.same (aT fun _=>rfl)|exact bX.sit|exact bX.map (by assumption)|exact bX.map (jK fun _=>rfl)|exact bX.map (fun _ h=>nomatch h),rfl ⟩ ?_) (h5:tq (nm ns) s1.st=true:=by rfl) (h6:C9 (nm ns) k s1.nx=true:=by rfl):∃ ns,LeN ns k s1 s:=⟨ns,h1,h2,h3,h4,h5,h6⟩
end
end Abs
end
end Go.Proofs.YtlfdjpgghiemfaaGreatDoor
