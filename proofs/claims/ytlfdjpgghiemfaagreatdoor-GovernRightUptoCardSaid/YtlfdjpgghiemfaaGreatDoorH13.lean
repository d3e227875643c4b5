/- Texts of the proof, joined: AbsV. -/
import Derived.Test.YtlfdjpgghiemfaaGreatDoorH10
namespace Go.Proofs.YtlfdjpgghiemfaaGreatDoor
section
namespace Abs
open Go.RowKit Mem Facts
def evL (s:S):List Operand→Option (List V)
 | []=>some []
 | x::r=>match s.ev x,evL s r with
  | some v,some vs=>some (v::vs)
  | _,_=>none
def yK:List V→Nat→V→Option (List V)
 | [],_,_=>none
 | _::r,0,v=>some (v::r)
 | x::r,n+1,v=>match yK r n v with
  | some q=>some (x::q)
  | none=>none
theorem zY:∀ {l:List V} {n:Nat} {v:V} {q:List V},yK l n v=some q→l.set n v=q
 | [],_,_,_,h=>by simp [yK] at h
 | x::r,0,v,q,h=>by rw [yK] at h;cases h;rfl
 | x::r,n+1,v,q,h=>by
  rw [yK] at h
  split at h<;>cases h
  rename_i q hq
  rw [List.set_cons_succ,zY hq]
theorem vT {s:S}:∀ {xs:List Operand} {vs:List V},evL s xs=some vs→vs.length=xs.length∧∀ p∈xs.zip vs,s.ev p.1=some p.2
 | [],vs,h=>by rw [evL] at h;cases h;exact ⟨rfl,fun p hp=>by cases hp⟩
 | x::r,vs,h=>by
  rw [evL] at h
  split at h<;>cases h
  rename_i v q hv hq
  obtain ⟨h1,h2⟩:=vT hq
  refine ⟨by simp [h1],fun p hp=>?_⟩
  rcases List.mem_cons.1 hp with rfl|hp
  ·exact hv
  ·exact h2 p hp
abbrev Stp:=V × Fp × List (Nat × Option Blk) × List Nat × Nat
def stp (tb:List Ty) (ow:Bool) (op:Op) (s:S):Option Stp:=match op with
 | .move x=>match s.ev x with
  | some v=>some (v,⟨[(x,v)],[]⟩,[],[],s.nx)
  | none=>none
 | .assign x=>match s.ev x with
  | some v=>some (v,⟨[(x,v)],[]⟩,[],[],s.nx)
  | none=>none
 | .pick c x y=>match s.ev c with
  | some (.bool true)=>(match s.ev x with
   | some v=>some (v,⟨[(c,.bool true),(x,v)],[]⟩,[],[],s.nx)
   | none=>none)
  | some (.bool false)=>(match s.ev y with
   | some v=>some (v,⟨[(c,.bool false),(y,v)],[]⟩,[],[],s.nx)
   | none=>none)
  | _=>none
 | .extract x i=>match s.ev x with
  | some (.tup vs)=>(match nth vs i with
   | some v=>some (v,⟨[(x,.tup vs)],[]⟩,[],[],s.nx)
   | none=>none)
  | _=>none
 | .unOp .not _ x=>match s.ev x with
  | some (.bool b)=>some (.bool (!b),⟨[(x,.bool b)],[]⟩,[],[],s.nx)
  | _=>none
 | .nilCheck x=>match s.ev x with
  | some (.loc n i k)=>some (.loc n i k,⟨[(x,.loc n i k)],[]⟩,[],[],s.nx)
  | some (.fp cs k)=>some (.fp cs k,⟨[(x,.fp cs k)],[]⟩,[],[],s.nx)
  | some (.ifc t v)=>some (.ifc t v,⟨[(x,.ifc t v)],[]⟩,[],[],s.nx)
  | some (.fn (.func f) a b)=>some (.fn (.func f) a b,⟨[(x,.fn (.func f) a b)],[]⟩,[],[],s.nx)
  | _=>none
 | .load T x=>match nth tb T with
  | some e=>(match s.ev x with
   | some (.loc n i off)=>(match s.blk n with
    | some (.els T' sz xs)=>(match nth xs i with
     | some el=>(match lJ el.cells off e.agg e.size with
      | some v=>some (v,⟨[(x,.loc n i off)],[(n,.els T' sz xs)]⟩,[],[],s.nx)
      | none=>none)
     | none=>none)
    | _=>none)
   | some (.fp cs off)=>(match lJ cs off e.agg e.size with
    | some v=>some (v,⟨[(x,.fp cs off)],[]⟩,[],[],s.nx)
    | none=>none)
   | _=>none)
  | none=>none
 | .field T x f=>match nth tb T with
  | some e=>(match s.ev x with
   | some (.agg vs)=>(match nth e.flds f with
    | some (off,ft)=>(match nth tb ft with
     | some ef=>(match lJ vs off ef.agg ef.size with
      | some v=>some (v,⟨[(x,.agg vs)],[]⟩,[],[],s.nx)
      | none=>none)
     | none=>none)
    | none=>none)
   | _=>none)
  | none=>none
 | .fieldAddr T x f=>match nth tb T with
  | some e=>(match nth e.flds f with
   | some (off,ft)=>(match nth tb ft with
    | some ef=>bif Nat.ble 1 ef.size then (match s.ev x with
     | some (.loc n i k)=>some (.loc n i (k+off),⟨[(x,.loc n i k)],[]⟩,[],[],s.nx)
     | some (.fp cs k)=>some (.fp cs (k+off),⟨[(x,.fp cs k)],[]⟩,[],[],s.nx)
     | _=>none) else none
    | none=>none)
   | none=>none)
  | none=>none
 | .alloc T=>match nth tb T with
  | some e=>(match e.zeroV with
   | some v=>some (.loc s.nx 0 0,⟨[],[]⟩,[(s.nx,some (.els T v.cells.length [v]))],[s.nx],s.nx+1)
   | none=>none)
  | none=>none
 | .box T x=>match s.ev x with
  | some v => bif v.cells.all V.one then (bif ow then (bif Nat.ble 1 v.cells.length then some (.loc s.nx 0 0, ⟨[(x, v)], []⟩, [(s.nx, some (.els T v.cells.length [v]))], [s.nx], s.nx + 1) else none)
    else (match v.names with
     | []=>some (.fp v.cells 0,⟨[(x,v)],[]⟩,[],[],s.nx)
     | _=>none)) else none
  | none=>none
 | .store T x y=>match nth tb T with
  | some e=>(match s.ev x with
   | some (.loc n i off)=>(match s.blk n with
    | some (.els T' sz xs)=>(match nth xs i with
     | some el=>(match s.ev y with
      | some v=>bif v.cells.all V.one&&Nat.beq v.cells.length e.size&&(!el.one||Nat.beq v.cells.length 1) then (match Km el off v with
       | some el'=>(match yK xs i el' with
        | some xs'=>some (.und,⟨[(x,.loc n i off),(y,v)],[(n,.els T' sz xs)]⟩,[(n,some (.els T' sz xs'))],[],s.nx)
        | none=>none)
       | none=>none) else none
      | none=>none)
     | none=>none)
    | _=>none)
   | _=>none)
  | none=>none
 | .makeFunc f xs ys=>match evL s xs.toList,evL s ys.toList with
  | some us,some vs=>some (.fn f us vs,⟨xs.toList.zip us++ys.toList.zip vs,[]⟩,[],[],s.nx)
  | _,_=>none
 | .makeInterface t x=>match nth tb t with
  | some e=>bif Nat.beq e.knd 7 then none else (match s.ev x with
   | some v=>some (.ifc t v,⟨[(x,v)],[]⟩,[],[],s.nx)
   | none=>none)
  | none=>none
 | .build T ps=>match nth tb T with
  | some e=>bif e.agg&&e.AZ tb then (match e.zeroV with
   | some z=>(match evL s (ps.toList.map (·.2)) with
    | some vs=>bif (vs.all fun v=>v.cells.all V.one) then (match mY (e.place tb) z.cells (EZ ps.toList vs) with
     | some cs=>some (.agg cs,⟨(ps.toList.map (·.2)).zip vs,[]⟩,[],[],s.nx)
     | none=>none) else none
    | none=>none)
   | none=>none) else none
  | none=>none
 | _=>none
section
variable {P:Program} {N:Env} {o:Oper} {tb:List Ty} {s:S}
theorem kQ {x:Operand} {v:V} (h:s.ev x=some v):Holds ⟨[(x,v)],[]⟩ s:=hT h h0
theorem UK {x y:Operand} {u v:V} (h:s.ev x=some u) (k:s.ev y=some v):Holds ⟨[(x,u),(y,v)],[]⟩ s:=hT h (hT k h0)
theorem GU {l:List (Operand × V)} (h:∀ p∈l,s.ev p.1=some p.2):Holds ⟨l,[]⟩ s:=⟨h,fun p hp=>by cases hp⟩
structure adC (P:Program) (N:Env) (o:Oper) (s:S) (v:V) (fp:Fp) (up:List (Nat × Option Blk)) (new:List Nat) (nx:Nat):Prop where
 law:aC P N o fp v up new
 hh:Holds fp s
 hn:s.nx≤nx∧∀ n∈new,s.nx≤n∧n<nx
theorem kN:s.nx≤s.nx∧∀ n∈([]:List Nat),s.nx≤n∧n<s.nx:=⟨Nat.le_refl _,fun n h=>by cases h⟩
theorem Po:s.nx≤s.nx+1∧∀ n∈[s.nx],s.nx≤n∧n<s.nx+1:=⟨Nat.le_succ _,fun n h=>by rw [List.mem_singleton] at h;omega⟩
theorem lV {α:Type} {b:Bool} {x:Option α} {y:α} (h:(bif b then x else none)=some y):b=true∧x=some y:=by
 cases b with
 | true=>exact ⟨rfl,h⟩
 | false=>cases h
theorem abP {ow:Bool} {op:Op} {v:V} {fp:Fp} {up:List (Nat × Option Blk)} {new:List Nat} {nx:Nat} (htb:aL P tb) (ho:o.op=op) (h:stp tb ow op s=some (v,fp,up,new,nx)):adC P N o s v fp up new nx:=by
 unfold stp at h
 split at h
 ·split at h<;>cases h
  rename_i hx
  exact ⟨Cr ho,kQ hx,kN⟩
 ·split at h<;>cases h
  rename_i hx
  exact ⟨MZ ho,kQ hx,kN⟩
 ·split at h
  ·rename_i hc
   split at h<;>cases h
   rename_i hx
   exact ⟨EC ho,UK hc hx,kN⟩
  ·rename_i hc
   split at h<;>cases h
   rename_i hx
   exact ⟨Ee ho,UK hc hx,kN⟩
  ·cases h
 ·split at h
  ·rename_i hx
   split at h<;>cases h
   rename_i hn
   exact ⟨Lr ho hn,kQ hx,kN⟩
  ·cases h
 ·split at h<;>cases h
  rename_i hx
  exact ⟨YX ho,kQ hx,kN⟩
 ·split at h<;>cases h<;>(rename_i hx;exact ⟨qw ho rfl,kQ hx,kN⟩)
 ·split at h
  ·rename_i e hT'
   split at h
   ·rename_i hx
    split at h
    ·rename_i hb
     split at h
     ·rename_i el hel
      split at h<;>cases h
      rename_i hv
      rw [dw] at hel
      exact ⟨Dl htb ho hT' hel hv,hT hx (hN hb h0),kN⟩
     ·cases h
    ·cases h
   ·rename_i hx
    split at h<;>cases h
    rename_i hv
    exact ⟨zR htb ho hT' hv,kQ hx,kN⟩
   ·cases h
  ·cases h
 ·split at h
  ·rename_i e hT'
   split at h
   ·rename_i hx
    split at h
    ·rename_i hf
     split at h
     ·rename_i ef hF
      split at h<;>cases h
      rename_i hv
      exact ⟨Sk htb ho hT' hf hF hv,kQ hx,kN⟩
     ·cases h
    ·cases h
   ·cases h
  ·cases h
 ·split at h
  ·rename_i e hT'
   split at h
   ·rename_i hf
    split at h
    ·rename_i ef hF
     obtain ⟨hb,h⟩:=lV h
     split at h<;>cases h
     ·rename_i hx
      exact ⟨gX htb ho hT' hf hF hb,kQ hx,kN⟩
     ·rename_i hx
      exact ⟨ze htb ho hT' hf hF hb,kQ hx,kN⟩
    ·cases h
   ·cases h
  ·cases h
 ·split at h
  ·rename_i e hT'
   split at h<;>cases h
   rename_i hv
   exact ⟨RQ htb ho hT' hv,h0,Po⟩
  ·cases h
 ·split at h
  ·rename_i hx
   obtain ⟨h1,h⟩:=lV h
   cases ow with
   | true =>
    simp only [cond_true] at h
    obtain ⟨h2,h⟩:=lV h
    cases h
    exact ⟨ZL ho h2 h1,kQ hx,Po⟩
   | false =>
    simp only [cond_false] at h
    split at h<;>cases h
    rename_i hn
    exact ⟨OB ho hn h1,kQ hx,kN⟩
  ·cases h
 ·split at h
  ·rename_i e hT'
   split at h
   ·rename_i hx
    split at h
    ·rename_i hb
     split at h
     ·rename_i el hel
      split at h
      ·rename_i hy
       obtain ⟨hb1,h⟩:=lV h
       simp only [Bool.and_eq_true] at hb1
       split at h
       ·rename_i hp
        split at h<;>cases h
        rename_i hs
        rw [dw] at hel
        exact ⟨uh htb ho hT' hel hb1.1.1 (Nat.eq_of_beq_eq_true hb1.1.2) hp hb1.2 (zY hs),hT hx (hT hy (hN hb h0)),kN⟩
       ·cases h
      ·cases h
     ·cases h
    ·cases h
   ·cases h
  ·cases h
 ·split at h<;>cases h
  rename_i us vs hu hv
  obtain ⟨u1,u2⟩:=vT hu
  obtain ⟨v1,v2⟩:=vT hv
  exact ⟨Jf ho (by simpa using u1) (by simpa using v1),GU fun p hp=>(List.mem_append.1 hp).elim (u2 p) (v2 p),kN⟩
 ·split at h
  ·rename_i e hT'
   cases hk:Nat.beq e.knd 7 with
   | true=>rw [hk] at h;cases h
   | false =>
    rw [hk] at h
    simp only [cond_false] at h
    split at h<;>cases h
    rename_i hx
    obtain ⟨ti,d,ht⟩:=aV htb hT'
    refine ⟨wI ho ht.und ?_,kQ hx,kN⟩
    have:=ht.knd
    cases d<;>first|rfl|(simp only [kindOf] at this;rw [this] at hk;cases hk)
  ·cases h
 ·split at h
  ·rename_i e hT'
   obtain ⟨hb,h⟩:=lV h
   rw [Bool.and_eq_true] at hb
   split at h
   ·rename_i z hz
    split at h
    ·rename_i vs hvs
     obtain ⟨h1,h⟩:=lV h
     split at h<;>cases h
     have hf := ‹mY _ _ _=some _›
     obtain ⟨v1,v2⟩:=vT hvs
     exact ⟨RZ htb ho (by simp [v1]) hT' hb.2 hz hb.1 h1 hf,GU v2,kN⟩
    ·cases h
   ·cases h
  ·cases h
 ·cases h
end
def acR (d:Nat):List Nat→Bool
 | []=>false
 | n::r=>Nat.beq n d||acR d r
abbrev Far:=List Oper × List (Nat × V) × List (Nat × Option Blk) × Nat × List Tr
def owd (ow:List Nat) (o:Oper):Bool:=match o.dst with
 | some d=>acR d ow
 | none=>false
def far (tb:List Ty) (ow:List Nat) (l:List Oper) (nt:Nat):List Oper→List (Nat × V)→List (Nat × Option Blk)→Nat→List Tr→Far
 | [],tm,st,nx,tr=>([],tm,st,nx,tr)
 | o::r,tm,st,nx,tr=>match ax l o ⟨tm,st,nx,nt⟩ with
  | some false=>(match o.dst with
   | some d=>bif Nat.blt d nt then far tb ow l nt r ((d,.und)::tm) st nx (tr++[aH l o ⟨[],[]⟩ []]) else (o::r,tm,st,nx,tr)
   | none=>far tb ow l nt r tm st nx (tr++[aH l o ⟨[],[]⟩ []]))
  | some true=>(match stp tb (owd ow o) o.op ⟨tm,st,nx,nt⟩ with
   | some (v,fp,up,_,nx')=>(match Ey up st with
    | some st'=>(match o.dst with
     | some d=>bif Nat.blt d nt then far tb ow l nt r ((d,v)::tm) st' nx' (tr++[aH l o fp up]) else (o::r,tm,st,nx,tr)
     | none=>far tb ow l nt r tm st' nx' (tr++[aH l o fp up]))
    | none=>(o::r,tm,st,nx,tr))
   | none=>(o::r,tm,st,nx,tr))
  | none=>(o::r,tm,st,nx,tr)
section
variable {P:Program} {N:Env} {tb:List Ty} {ow:List Nat} {l:List Oper} {nt:Nat} {K:S→List Tr→Prop}
theorem DX (htb:aL P tb):∀ (r:List Oper) (tm:List (Nat × V)) (st:List (Nat × Option Blk)) (nx:Nat) (tr:List Tr) (r':List Oper) (tm':List (Nat × V)) (st':List (Nat × Option Blk)) (nx':Nat) (tr':List Tr),
  far tb ow l nt r tm st nx tr=(r',tm',st',nx',tr')→ay P N l K r' ⟨tm',st',nx',nt⟩ tr'→ay P N l K r ⟨tm,st,nx,nt⟩ tr
 | [],tm,st,nx,tr,r',tm',st',nx',tr',h,k=>by rw [far] at h;cases h;exact k
 | o::r,tm,st,nx,tr,r',tm',st',nx',tr',h,k=>by
  rw [far] at h
  split at h
  ·rename_i hg
   split at h
   ·rename_i d hd
    cases hb:Nat.blt d nt with
    | false=>rw [hb] at h;cases h;exact k
    | true =>
     rw [hb] at h
     exact acZ hg hd hb (DX htb r _ _ _ _ _ _ _ _ _ h k)
   ·rename_i hd
    exact abA hg hd (DX htb r _ _ _ _ _ _ _ _ _ h k)
  ·rename_i hg
   split at h
   ·rename_i v fp up new nx1 hs
    have ok:=abP (P:=P) (N:=N) htb rfl hs
    split at h
    ·rename_i st1 ha
     have ea:=Be ha
     split at h
     ·rename_i d hd
      cases hb:Nat.blt d nt with
      | false=>rw [hb] at h;cases h;exact k
      | true =>
       rw [hb] at h
       refine .on fp v up new nx1 hg ok.law ok.hh ok.hn (fun d' h=>by rw [hd] at h;cases h;exact kV hb) ?_
       have e:S.eff ⟨tm,st,nx,nt⟩ o.dst v up nx1=⟨(d,v)::tm,st1,nx1,nt⟩:=by rw [hd,ea];rfl
       rw [e]
       exact DX htb r _ _ _ _ _ _ _ _ _ h k
     ·rename_i hd
      refine .on fp v up new nx1 hg ok.law ok.hh ok.hn (fun d' h=>by rw [hd] at h;cases h) ?_
      have e:S.eff ⟨tm,st,nx,nt⟩ o.dst v up nx1=⟨tm,st1,nx1,nt⟩:=by rw [hd,ea];rfl
      rw [e]
      exact DX htb r _ _ _ _ _ _ _ _ _ h k
    ·cases h;exact k
   ·cases h;exact k
  ·cases h;exact k
def abb (tb:List Ty) (ow:List Nat) (l:List Oper) (nt:Nat):List Oper→List (Nat × V)→List (Nat × Option Blk)→Nat→List Tr→Option Far
 | [],_,_,_,_=>none
 | o::r,tm,st,nx,tr=>match ax l o ⟨tm,st,nx,nt⟩ with
  | some false=>some (far tb ow l nt (o::r) tm st nx tr)
  | some true=>(match stp tb (owd ow o) o.op ⟨tm,st,nx,nt⟩ with
   | some _=>some (far tb ow l nt (o::r) tm st nx tr)
   | none=>none)
  | none=>none
theorem QR {r:List Oper} {tm:List (Nat × V)} {st:List (Nat × Option Blk)} {nx:Nat} {tr:List Tr} {q:Far} (h:abb tb ow l nt r tm st nx tr=some q):far tb ow l nt r tm st nx tr=q:=by
 cases r with
 | nil=>cases h
 | cons o r =>
  rw [abb] at h
  split at h
  ·cases h;rfl
  ·split at h<;>cases h;rfl
  ·cases h
theorem dQ (ow:List Nat) {r r':List Oper} {tm tm':List (Nat × V)} {st st':List (Nat × Option Blk)} {nx nx':Nat} {tr tr':List Tr} (htb:aL P tb) (h:abb tb ow l nt r tm st nx tr=some (r',tm',st',nx',tr')) (k:ay P N l K r' ⟨tm',st',nx',nt⟩ tr'):ay P N l K r ⟨tm,st,nx,nt⟩ tr :=
 DX htb _ _ _ _ _ _ _ _ _ _ (QR h) k
end
end Abs
namespace Abs
open Go.RowKit Mem Facts
section
variable {P:Program} {N:Env} {l r:List Oper} {o:Oper} {tm:List (Nat × V)} {st:List (Nat × Option Blk)} {nx nt:Nat} {tr:List Tr} {K:S→List Tr→Prop} {tb:List Ty} {d T:Nat} {t t':TypeId} {x y z:Operand} {a b n:Int} {p q:List UInt8} {u v:Bool} {e ee:Ty}
theorem mq (k:ay P N l K r ⟨(d,.int .i64 n)::tm,st,nx,nt⟩ (tr++[aH l o ⟨[(x,.int .i64 a),(y,.int .i64 b)],[]⟩ []])) (ho:o.op = .binOp .add t x y t':=by rfl) (hx:S.ev ⟨tm,st,nx,nt⟩ x=some (.int .i64 a):=by rfl) (hy:S.ev ⟨tm,st,nx,nt⟩ y=some (.int .i64 b):=by rfl) (hg:ax l o ⟨tm,st,nx,nt⟩=some true:=by rfl) (hd:o.dst=some d:=by rfl) (hlt:Nat.blt d nt=true:=by rfl) (he:a+b=n:=by with_reducible assumption) (h1 : -9223372036854775808≤a+b∧a+b≤9223372036854775807:=by omega):ay P N l K (o::r) ⟨tm,st,nx,nt⟩ tr:=aJ hg hd hlt (Lf ho ((wrap64 h1.1 h1.2).trans he)) (hT hx (hT hy h0)) k
theorem rD (k:ay P N l K r ⟨(d,.int .i64 (a+b))::tm,st,nx,nt⟩ (tr++[aH l o ⟨[(x,.int .i64 a),(y,.int .i64 b)],[]⟩ []])) (ho:o.op = .binOp .add t x y t':=by rfl) (hx:S.ev ⟨tm,st,nx,nt⟩ x=some (.int .i64 a):=by rfl) (hy:S.ev ⟨tm,st,nx,nt⟩ y=some (.int .i64 b):=by rfl) (hg:ax l o ⟨tm,st,nx,nt⟩=some true:=by rfl) (hd:o.dst=some d:=by rfl) (hlt:Nat.blt d nt=true:=by rfl) (h1 : -9223372036854775808≤a+b∧a+b≤9223372036854775807:=by omega):ay P N l K (o::r) ⟨tm,st,nx,nt⟩ tr:=aJ hg hd hlt (Lf ho (wrap64 h1.1 h1.2)) (hT hx (hT hy h0)) k
theorem mX (k:ay P N l K r ⟨(d,.int .i64 n)::tm,st,nx,nt⟩ (tr++[aH l o ⟨[(x,.int .i64 a),(y,.int .i64 b)],[]⟩ []])) (ho:o.op = .binOp .sub t x y t':=by rfl) (hx:S.ev ⟨tm,st,nx,nt⟩ x=some (.int .i64 a):=by rfl) (hy:S.ev ⟨tm,st,nx,nt⟩ y=some (.int .i64 b):=by rfl) (hg:ax l o ⟨tm,st,nx,nt⟩=some true:=by rfl) (hd:o.dst=some d:=by rfl) (hlt:Nat.blt d nt=true:=by rfl) (he:a-b=n:=by with_reducible assumption) (h1 : -9223372036854775808≤a-b∧a-b≤9223372036854775807:=by omega):ay P N l K (o::r) ⟨tm,st,nx,nt⟩ tr:=aJ hg hd hlt (CY ho ((wrap64 h1.1 h1.2).trans he)) (hT hx (hT hy h0)) k
theorem sZ (k:ay P N l K r ⟨(d,.int .i64 (a-b))::tm,st,nx,nt⟩ (tr++[aH l o ⟨[(x,.int .i64 a),(y,.int .i64 b)],[]⟩ []])) (ho:o.op = .binOp .sub t x y t':=by rfl) (hx:S.ev ⟨tm,st,nx,nt⟩ x=some (.int .i64 a):=by rfl) (hy:S.ev ⟨tm,st,nx,nt⟩ y=some (.int .i64 b):=by rfl) (hg:ax l o ⟨tm,st,nx,nt⟩=some true:=by rfl) (hd:o.dst=some d:=by rfl) (hlt:Nat.blt d nt=true:=by rfl) (h1 : -9223372036854775808≤a-b∧a-b≤9223372036854775807:=by omega):ay P N l K (o::r) ⟨tm,st,nx,nt⟩ tr:=aJ hg hd hlt (CY ho (wrap64 h1.1 h1.2)) (hT hx (hT hy h0)) k
theorem ac7 (k:ay P N l K r ⟨(d,.int .i64 (a*b))::tm,st,nx,nt⟩ (tr++[aH l o ⟨[(x,.int .i64 a),(y,.int .i64 b)],[]⟩ []])) (ho:o.op = .binOp .mul t x y t':=by rfl) (hx:S.ev ⟨tm,st,nx,nt⟩ x=some (.int .i64 a):=by rfl) (hy:S.ev ⟨tm,st,nx,nt⟩ y=some (.int .i64 b):=by rfl) (hg:ax l o ⟨tm,st,nx,nt⟩=some true:=by rfl) (hd:o.dst=some d:=by rfl) (hlt:Nat.blt d nt=true:=by rfl) (h1 : -9223372036854775808≤a*b∧a*b≤9223372036854775807:=by omega):ay P N l K (o::r) ⟨tm,st,nx,nt⟩ tr:=aJ hg hd hlt (Ws ho (wrap64 h1.1 h1.2)) (hT hx (hT hy h0)) k
variable {kd:IntKind}
variable {ns:List (Nat × Blk)} {el len sz:Nat} {t1:TypeId} {us:List V} {xs:Array Operand} {ts:Array TypeId} {α:Type} {ps:Array (Nat × Operand)} {v1 w:V} {g:Operand} {m1 k:Nat} {e':Ty} {i0:Nat} {rs:List ResultVar} {s1:S} {f:Nat} {z0:V} {m:Nat} {c:Value} {vs:List V} {L:List α} {fs bs ws:List V} {off:Nat}
theorem mG (k:ay P N l K r ⟨(d,.bool true)::tm,st,nx,nt⟩ (tr++[aH l o ⟨[(x,.int kd a),(y,.int kd b)],[]⟩ []])) (ho:o.op = .binOp .lss t x y t':=by rfl) (hx:S.ev ⟨tm,st,nx,nt⟩ x=some (.int kd a):=by rfl) (hy:S.ev ⟨tm,st,nx,nt⟩ y=some (.int kd b):=by rfl) (hg:ax l o ⟨tm,st,nx,nt⟩=some true:=by rfl) (hd:o.dst=some d:=by rfl) (hlt:Nat.blt d nt=true:=by rfl) (h:a<b:=by omega):ay P N l K (o::r) ⟨tm,st,nx,nt⟩ tr:=aJ hg hd hlt (IX ho (decide_eq_true h)) (hT hx (hT hy h0)) k
theorem mF (k:ay P N l K r ⟨(d,.bool false)::tm,st,nx,nt⟩ (tr++[aH l o ⟨[(x,.int kd a),(y,.int kd b)],[]⟩ []])) (ho:o.op = .binOp .lss t x y t':=by rfl) (hx:S.ev ⟨tm,st,nx,nt⟩ x=some (.int kd a):=by rfl) (hy:S.ev ⟨tm,st,nx,nt⟩ y=some (.int kd b):=by rfl) (hg:ax l o ⟨tm,st,nx,nt⟩=some true:=by rfl) (hd:o.dst=some d:=by rfl) (hlt:Nat.blt d nt=true:=by rfl) (h:¬ (a<b):=by omega):ay P N l K (o::r) ⟨tm,st,nx,nt⟩ tr:=aJ hg hd hlt (IX ho (decide_eq_false h)) (hT hx (hT hy h0)) k
theorem rf (k1:a<b→ay P N l K r ⟨(d,.bool true)::tm,st,nx,nt⟩ (tr++[aH l o ⟨[(x,.int kd a),(y,.int kd b)],[]⟩ []])) (k2:¬ (a<b)→ay P N l K r ⟨(d,.bool false)::tm,st,nx,nt⟩ (tr++[aH l o ⟨[(x,.int kd a),(y,.int kd b)],[]⟩ []])) (ho:o.op = .binOp .lss t x y t':=by rfl) (hx:S.ev ⟨tm,st,nx,nt⟩ x=some (.int kd a):=by rfl) (hy:S.ev ⟨tm,st,nx,nt⟩ y=some (.int kd b):=by rfl) (hg:ax l o ⟨tm,st,nx,nt⟩=some true:=by rfl) (hd:o.dst=some d:=by rfl) (hlt:Nat.blt d nt=true:=by rfl):ay P N l K (o::r) ⟨tm,st,nx,nt⟩ tr:=kK hg hd hlt (fun _r h=>IX ho h) (hT hx (hT hy h0)) k1 k2
theorem aaA (k:ay P N l K r ⟨(d,.bool true)::tm,st,nx,nt⟩ (tr++[aH l o ⟨[(x,.int kd a),(y,.int kd b)],[]⟩ []])) (ho:o.op = .binOp .leq t x y t':=by rfl) (hx:S.ev ⟨tm,st,nx,nt⟩ x=some (.int kd a):=by rfl) (hy:S.ev ⟨tm,st,nx,nt⟩ y=some (.int kd b):=by rfl) (hg:ax l o ⟨tm,st,nx,nt⟩=some true:=by rfl) (hd:o.dst=some d:=by rfl) (hlt:Nat.blt d nt=true:=by rfl) (h:a≤b:=by omega):ay P N l K (o::r) ⟨tm,st,nx,nt⟩ tr:=aJ hg hd hlt (G8 ho (decide_eq_true h)) (hT hx (hT hy h0)) k
theorem abl (k:ay P N l K r ⟨(d,.bool false)::tm,st,nx,nt⟩ (tr++[aH l o ⟨[(x,.int kd a),(y,.int kd b)],[]⟩ []])) (ho:o.op = .binOp .leq t x y t':=by rfl) (hx:S.ev ⟨tm,st,nx,nt⟩ x=some (.int kd a):=by rfl) (hy:S.ev ⟨tm,st,nx,nt⟩ y=some (.int kd b):=by rfl) (hg:ax l o ⟨tm,st,nx,nt⟩=some true:=by rfl) (hd:o.dst=some d:=by rfl) (hlt:Nat.blt d nt=true:=by rfl) (h:¬ (a≤b):=by omega):ay P N l K (o::r) ⟨tm,st,nx,nt⟩ tr:=aJ hg hd hlt (G8 ho (decide_eq_false h)) (hT hx (hT hy h0)) k
theorem adK (k1:a≤b→ay P N l K r ⟨(d,.bool true)::tm,st,nx,nt⟩ (tr++[aH l o ⟨[(x,.int kd a),(y,.int kd b)],[]⟩ []])) (k2:¬ (a≤b)→ay P N l K r ⟨(d,.bool false)::tm,st,nx,nt⟩ (tr++[aH l o ⟨[(x,.int kd a),(y,.int kd b)],[]⟩ []])) (ho:o.op = .binOp .leq t x y t':=by rfl) (hx:S.ev ⟨tm,st,nx,nt⟩ x=some (.int kd a):=by rfl) (hy:S.ev ⟨tm,st,nx,nt⟩ y=some (.int kd b):=by rfl) (hg:ax l o ⟨tm,st,nx,nt⟩=some true:=by rfl) (hd:o.dst=some d:=by rfl) (hlt:Nat.blt d nt=true:=by rfl):ay P N l K (o::r) ⟨tm,st,nx,nt⟩ tr:=kK hg hd hlt (fun _r h=>G8 ho h) (hT hx (hT hy h0)) k1 k2
theorem l6 (k:ay P N l K r ⟨(d,.bool true)::tm,st,nx,nt⟩ (tr++[aH l o ⟨[(x,.int kd a),(y,.int kd b)],[]⟩ []])) (ho:o.op = .binOp .gtr t x y t':=by rfl) (hx:S.ev ⟨tm,st,nx,nt⟩ x=some (.int kd a):=by rfl) (hy:S.ev ⟨tm,st,nx,nt⟩ y=some (.int kd b):=by rfl) (hg:ax l o ⟨tm,st,nx,nt⟩=some true:=by rfl) (hd:o.dst=some d:=by rfl) (hlt:Nat.blt d nt=true:=by rfl) (h:b<a:=by omega):ay P N l K (o::r) ⟨tm,st,nx,nt⟩ tr:=aJ hg hd hlt (Hl ho (decide_eq_true h)) (hT hx (hT hy h0)) k
theorem ng (k:ay P N l K r ⟨(d,.bool false)::tm,st,nx,nt⟩ (tr++[aH l o ⟨[(x,.int kd a),(y,.int kd b)],[]⟩ []])) (ho:o.op = .binOp .gtr t x y t':=by rfl) (hx:S.ev ⟨tm,st,nx,nt⟩ x=some (.int kd a):=by rfl) (hy:S.ev ⟨tm,st,nx,nt⟩ y=some (.int kd b):=by rfl) (hg:ax l o ⟨tm,st,nx,nt⟩=some true:=by rfl) (hd:o.dst=some d:=by rfl) (hlt:Nat.blt d nt=true:=by rfl) (h:¬ (b<a):=by omega):ay P N l K (o::r) ⟨tm,st,nx,nt⟩ tr:=aJ hg hd hlt (Hl ho (decide_eq_false h)) (hT hx (hT hy h0)) k
theorem rT (k1:b<a→ay P N l K r ⟨(d,.bool true)::tm,st,nx,nt⟩ (tr++[aH l o ⟨[(x,.int kd a),(y,.int kd b)],[]⟩ []])) (k2:¬ (b<a)→ay P N l K r ⟨(d,.bool false)::tm,st,nx,nt⟩ (tr++[aH l o ⟨[(x,.int kd a),(y,.int kd b)],[]⟩ []])) (ho:o.op = .binOp .gtr t x y t':=by rfl) (hx:S.ev ⟨tm,st,nx,nt⟩ x=some (.int kd a):=by rfl) (hy:S.ev ⟨tm,st,nx,nt⟩ y=some (.int kd b):=by rfl) (hg:ax l o ⟨tm,st,nx,nt⟩=some true:=by rfl) (hd:o.dst=some d:=by rfl) (hlt:Nat.blt d nt=true:=by rfl):ay P N l K (o::r) ⟨tm,st,nx,nt⟩ tr:=kK hg hd hlt (fun _r h=>Hl ho h) (hT hx (hT hy h0)) k1 k2
theorem abz (k:ay P N l K r ⟨(d,.bool true)::tm,st,nx,nt⟩ (tr++[aH l o ⟨[(x,.int kd a),(y,.int kd b)],[]⟩ []])) (ho:o.op = .binOp .geq t x y t':=by rfl) (hx:S.ev ⟨tm,st,nx,nt⟩ x=some (.int kd a):=by rfl) (hy:S.ev ⟨tm,st,nx,nt⟩ y=some (.int kd b):=by rfl) (hg:ax l o ⟨tm,st,nx,nt⟩=some true:=by rfl) (hd:o.dst=some d:=by rfl) (hlt:Nat.blt d nt=true:=by rfl) (h:b≤a:=by omega):ay P N l K (o::r) ⟨tm,st,nx,nt⟩ tr:=aJ hg hd hlt (GY ho (decide_eq_true h)) (hT hx (hT hy h0)) k
theorem aci (k:ay P N l K r ⟨(d,.bool false)::tm,st,nx,nt⟩ (tr++[aH l o ⟨[(x,.int kd a),(y,.int kd b)],[]⟩ []])) (ho:o.op = .binOp .geq t x y t':=by rfl) (hx:S.ev ⟨tm,st,nx,nt⟩ x=some (.int kd a):=by rfl) (hy:S.ev ⟨tm,st,nx,nt⟩ y=some (.int kd b):=by rfl) (hg:ax l o ⟨tm,st,nx,nt⟩=some true:=by rfl) (hd:o.dst=some d:=by rfl) (hlt:Nat.blt d nt=true:=by rfl) (h:¬ (b≤a):=by omega):ay P N l K (o::r) ⟨tm,st,nx,nt⟩ tr:=aJ hg hd hlt (GY ho (decide_eq_false h)) (hT hx (hT hy h0)) k
theorem ado (k1:b≤a→ay P N l K r ⟨(d,.bool true)::tm,st,nx,nt⟩ (tr++[aH l o ⟨[(x,.int kd a),(y,.int kd b)],[]⟩ []])) (k2:¬ (b≤a)→ay P N l K r ⟨(d,.bool false)::tm,st,nx,nt⟩ (tr++[aH l o ⟨[(x,.int kd a),(y,.int kd b)],[]⟩ []])) (ho:o.op = .binOp .geq t x y t':=by rfl) (hx:S.ev ⟨tm,st,nx,nt⟩ x=some (.int kd a):=by rfl) (hy:S.ev ⟨tm,st,nx,nt⟩ y=some (.int kd b):=by rfl) (hg:ax l o ⟨tm,st,nx,nt⟩=some true:=by rfl) (hd:o.dst=some d:=by rfl) (hlt:Nat.blt d nt=true:=by rfl):ay P N l K (o::r) ⟨tm,st,nx,nt⟩ tr:=kK hg hd hlt (fun _r h=>GY ho h) (hT hx (hT hy h0)) k1 k2
theorem BJ (k:ay P N l K r ⟨(d,.bool true)::tm,st,nx,nt⟩ (tr++[aH l o ⟨[(x,.int kd a),(y,.int kd b)],[]⟩ []])) (ho:o.op = .binOp .eql t x y t':=by rfl) (hx:S.ev ⟨tm,st,nx,nt⟩ x=some (.int kd a):=by rfl) (hy:S.ev ⟨tm,st,nx,nt⟩ y=some (.int kd b):=by rfl) (hg:ax l o ⟨tm,st,nx,nt⟩=some true:=by rfl) (hd:o.dst=some d:=by rfl) (hlt:Nat.blt d nt=true:=by rfl) (h:a=b:=by omega):ay P N l K (o::r) ⟨tm,st,nx,nt⟩ tr:=aJ hg hd hlt (GK ho (decide_eq_true h)) (hT hx (hT hy h0)) k
theorem C8 (k:ay P N l K r ⟨(d,.bool false)::tm,st,nx,nt⟩ (tr++[aH l o ⟨[(x,.int kd a),(y,.int kd b)],[]⟩ []])) (ho:o.op = .binOp .eql t x y t':=by rfl) (hx:S.ev ⟨tm,st,nx,nt⟩ x=some (.int kd a):=by rfl) (hy:S.ev ⟨tm,st,nx,nt⟩ y=some (.int kd b):=by rfl) (hg:ax l o ⟨tm,st,nx,nt⟩=some true:=by rfl) (hd:o.dst=some d:=by rfl) (hlt:Nat.blt d nt=true:=by rfl) (h:¬ (a=b):=by omega):ay P N l K (o::r) ⟨tm,st,nx,nt⟩ tr:=aJ hg hd hlt (GK ho (decide_eq_false h)) (hT hx (hT hy h0)) k
theorem Lv (k1:a=b→ay P N l K r ⟨(d,.bool true)::tm,st,nx,nt⟩ (tr++[aH l o ⟨[(x,.int kd a),(y,.int kd b)],[]⟩ []])) (k2:¬ (a=b)→ay P N l K r ⟨(d,.bool false)::tm,st,nx,nt⟩ (tr++[aH l o ⟨[(x,.int kd a),(y,.int kd b)],[]⟩ []])) (ho:o.op = .binOp .eql t x y t':=by rfl) (hx:S.ev ⟨tm,st,nx,nt⟩ x=some (.int kd a):=by rfl) (hy:S.ev ⟨tm,st,nx,nt⟩ y=some (.int kd b):=by rfl) (hg:ax l o ⟨tm,st,nx,nt⟩=some true:=by rfl) (hd:o.dst=some d:=by rfl) (hlt:Nat.blt d nt=true:=by rfl):ay P N l K (o::r) ⟨tm,st,nx,nt⟩ tr:=kK hg hd hlt (fun _r h=>GK ho h) (hT hx (hT hy h0)) k1 k2
theorem ab5 (k:ay P N l K r ⟨(d,.bool true)::tm,st,nx,nt⟩ (tr++[aH l o ⟨[(x,.int kd a),(y,.int kd b)],[]⟩ []])) (ho:o.op = .binOp .neq t x y t':=by rfl) (hx:S.ev ⟨tm,st,nx,nt⟩ x=some (.int kd a):=by rfl) (hy:S.ev ⟨tm,st,nx,nt⟩ y=some (.int kd b):=by rfl) (hg:ax l o ⟨tm,st,nx,nt⟩=some true:=by rfl) (hd:o.dst=some d:=by rfl) (hlt:Nat.blt d nt=true:=by rfl) (h:a≠b:=by omega):ay P N l K (o::r) ⟨tm,st,nx,nt⟩ tr:=aJ hg hd hlt (Il ho (decide_eq_true h)) (hT hx (hT hy h0)) k
theorem aaJ (k:ay P N l K r ⟨(d,.bool false)::tm,st,nx,nt⟩ (tr++[aH l o ⟨[(x,.int kd a),(y,.int kd b)],[]⟩ []])) (ho:o.op = .binOp .neq t x y t':=by rfl) (hx:S.ev ⟨tm,st,nx,nt⟩ x=some (.int kd a):=by rfl) (hy:S.ev ⟨tm,st,nx,nt⟩ y=some (.int kd b):=by rfl) (hg:ax l o ⟨tm,st,nx,nt⟩=some true:=by rfl) (hd:o.dst=some d:=by rfl) (hlt:Nat.blt d nt=true:=by rfl) (h:¬ (a≠b):=by omega):ay P N l K (o::r) ⟨tm,st,nx,nt⟩ tr:=aJ hg hd hlt (Il ho (decide_eq_false h)) (hT hx (hT hy h0)) k
theorem adx (k1:a≠b→ay P N l K r ⟨(d,.bool true)::tm,st,nx,nt⟩ (tr++[aH l o ⟨[(x,.int kd a),(y,.int kd b)],[]⟩ []])) (k2:¬ (a≠b)→ay P N l K r ⟨(d,.bool false)::tm,st,nx,nt⟩ (tr++[aH l o ⟨[(x,.int kd a),(y,.int kd b)],[]⟩ []])) (ho:o.op = .binOp .neq t x y t':=by rfl) (hx:S.ev ⟨tm,st,nx,nt⟩ x=some (.int kd a):=by rfl) (hy:S.ev ⟨tm,st,nx,nt⟩ y=some (.int kd b):=by rfl) (hg:ax l o ⟨tm,st,nx,nt⟩=some true:=by rfl) (hd:o.dst=some d:=by rfl) (hlt:Nat.blt d nt=true:=by rfl):ay P N l K (o::r) ⟨tm,st,nx,nt⟩ tr:=kK hg hd hlt (fun _r h=>Il ho h) (hT hx (hT hy h0)) k1 k2
theorem xD (k:ay P N l K r ⟨(d,.bool true)::tm,st,nx,nt⟩ (tr++[aH l o ⟨[(x,au p),(y,au q)],[]⟩ []])) (ho:o.op = .binOp .eql t x y t':=by rfl) (hx:S.ev ⟨tm,st,nx,nt⟩ x=some (au p):=by rfl) (hy:S.ev ⟨tm,st,nx,nt⟩ y=some (au q):=by rfl) (hg:ax l o ⟨tm,st,nx,nt⟩=some true:=by rfl) (hd:o.dst=some d:=by rfl) (hlt:Nat.blt d nt=true:=by rfl) (h:p=q:=by first|assumption|exact rfl|exact Eq.symm (by assumption)|exact fun h=>h rfl|exact fun h=>h (by assumption)|exact fun h=>h (Eq.symm (by assumption))|exact fun h=>absurd (Eq.symm h) (by assumption)):ay P N l K (o::r) ⟨tm,st,nx,nt⟩ tr:=aJ hg hd hlt (qz ho (decide_eq_true h)) (hT hx (hT hy h0)) k
theorem xC (k:ay P N l K r ⟨(d,.bool false)::tm,st,nx,nt⟩ (tr++[aH l o ⟨[(x,au p),(y,au q)],[]⟩ []])) (ho:o.op = .binOp .eql t x y t':=by rfl) (hx:S.ev ⟨tm,st,nx,nt⟩ x=some (au p):=by rfl) (hy:S.ev ⟨tm,st,nx,nt⟩ y=some (au q):=by rfl) (hg:ax l o ⟨tm,st,nx,nt⟩=some true:=by rfl) (hd:o.dst=some d:=by rfl) (hlt:Nat.blt d nt=true:=by rfl) (h:¬ (p=q):=by first|assumption|exact rfl|exact Eq.symm (by assumption)|exact fun h=>h rfl|exact fun h=>h (by assumption)|exact fun h=>h (Eq.symm (by assumption))|exact fun h=>absurd (Eq.symm h) (by assumption)):ay P N l K (o::r) ⟨tm,st,nx,nt⟩ tr:=aJ hg hd hlt (qz ho (decide_eq_false h)) (hT hx (hT hy h0)) k
theorem Bt (k1:p=q→ay P N l K r ⟨(d,.bool true)::tm,st,nx,nt⟩ (tr++[aH l o ⟨[(x,au p),(y,au q)],[]⟩ []])) (k2:¬ (p=q)→ay P N l K r ⟨(d,.bool false)::tm,st,nx,nt⟩ (tr++[aH l o ⟨[(x,au p),(y,au q)],[]⟩ []])) (ho:o.op = .binOp .eql t x y t':=by rfl) (hx:S.ev ⟨tm,st,nx,nt⟩ x=some (au p):=by rfl) (hy:S.ev ⟨tm,st,nx,nt⟩ y=some (au q):=by rfl) (hg:ax l o ⟨tm,st,nx,nt⟩=some true:=by rfl) (hd:o.dst=some d:=by rfl) (hlt:Nat.blt d nt=true:=by rfl):ay P N l K (o::r) ⟨tm,st,nx,nt⟩ tr:=kK hg hd hlt (fun _r h=>qz ho h) (hT hx (hT hy h0)) k1 k2
theorem Cb {w:Bool} (k:ay P N l K r ⟨(d,.bool w)::tm,st,nx,nt⟩ (tr++[aH l o ⟨[(x,.bool u),(y,.bool v)],[]⟩ []])) (ho:o.op = .binOp .eql t x y t':=by rfl) (hx:S.ev ⟨tm,st,nx,nt⟩ x=some (.bool u):=by rfl) (hy:S.ev ⟨tm,st,nx,nt⟩ y=some (.bool v):=by rfl) (hg:ax l o ⟨tm,st,nx,nt⟩=some true:=by rfl) (hd:o.dst=some d:=by rfl) (hlt:Nat.blt d nt=true:=by rfl) (ht:P.underlying t=some .bool:=by rfl) (h:(u==v)=w:=by first|exact beq_self_eq_true _|rfl):ay P N l K (o::r) ⟨tm,st,nx,nt⟩ tr:=aJ hg hd hlt (IG ho ht h) (hT hx (hT hy h0)) k
theorem Hz (k:ay P N l K r ⟨(d,.bool false)::tm,st,nx,nt⟩ (tr++[aH l o ⟨[(x,.ifc t1 v1),(y,.nili)],[]⟩ []])) (ho:o.op = .binOp .eql t x y t':=by rfl) (hx:S.ev ⟨tm,st,nx,nt⟩ x=some (.ifc t1 v1):=by rfl) (hy:S.ev ⟨tm,st,nx,nt⟩ y=some (.nili):=by rfl) (hg:ax l o ⟨tm,st,nx,nt⟩=some true:=by rfl) (hd:o.dst=some d:=by rfl) (hlt:Nat.blt d nt=true:=by rfl) (ht:P.underlying t=some (.interface (P.methodsAt t)):=by kernel_rfl):ay P N l K (o::r) ⟨tm,st,nx,nt⟩ tr:=aJ hg hd hlt (JV ho ht) (hT hx (hT hy h0)) k
theorem IA (k:ay P N l K r ⟨(d,.bool true)::tm,st,nx,nt⟩ (tr++[aH l o ⟨[(x,.nili),(.const c,.nili)],[]⟩ []])) (ho:o.op = .binOp .eql t x (.const c) t':=by rfl) (hx:S.ev ⟨tm,st,nx,nt⟩ x=some (.nili):=by rfl) (hy:S.ev ⟨tm,st,nx,nt⟩ (.const c)=some (.nili):=by rfl) (hg:ax l o ⟨tm,st,nx,nt⟩=some true:=by rfl) (hd:o.dst=some d:=by rfl) (hlt:Nat.blt d nt=true:=by rfl) (ht:P.underlying t=some (.interface (P.methodsAt t)):=by kernel_rfl):ay P N l K (o::r) ⟨tm,st,nx,nt⟩ tr:=aJ hg hd hlt (I9 ho ht) (hT hx (hT hy h0)) k
theorem Xw (k:ay P N l K r ⟨(d,.bool true)::tm,st,nx,nt⟩ (tr++[aH l o ⟨[(x,au p),(y,au q)],[]⟩ []])) (ho:o.op = .binOp .neq t x y t':=by rfl) (hx:S.ev ⟨tm,st,nx,nt⟩ x=some (au p):=by rfl) (hy:S.ev ⟨tm,st,nx,nt⟩ y=some (au q):=by rfl) (hg:ax l o ⟨tm,st,nx,nt⟩=some true:=by rfl) (hd:o.dst=some d:=by rfl) (hlt:Nat.blt d nt=true:=by rfl) (h:p≠q:=by first|assumption|exact rfl|exact Eq.symm (by assumption)|exact fun h=>h rfl|exact fun h=>h (by assumption)|exact fun h=>h (Eq.symm (by assumption))|exact fun h=>absurd (Eq.symm h) (by assumption)):ay P N l K (o::r) ⟨tm,st,nx,nt⟩ tr:=aJ hg hd hlt (pE ho (decide_eq_true h)) (hT hx (hT hy h0)) k
theorem XI (k:ay P N l K r ⟨(d,.bool false)::tm,st,nx,nt⟩ (tr++[aH l o ⟨[(x,au p),(y,au q)],[]⟩ []])) (ho:o.op = .binOp .neq t x y t':=by rfl) (hx:S.ev ⟨tm,st,nx,nt⟩ x=some (au p):=by rfl) (hy:S.ev ⟨tm,st,nx,nt⟩ y=some (au q):=by rfl) (hg:ax l o ⟨tm,st,nx,nt⟩=some true:=by rfl) (hd:o.dst=some d:=by rfl) (hlt:Nat.blt d nt=true:=by rfl) (h:¬ (p≠q):=by first|assumption|exact rfl|exact Eq.symm (by assumption)|exact fun h=>h rfl|exact fun h=>h (by assumption)|exact fun h=>h (Eq.symm (by assumption))|exact fun h=>absurd (Eq.symm h) (by assumption)):ay P N l K (o::r) ⟨tm,st,nx,nt⟩ tr:=aJ hg hd hlt (pE ho (decide_eq_false h)) (hT hx (hT hy h0)) k
theorem ach (k1:p≠q→ay P N l K r ⟨(d,.bool true)::tm,st,nx,nt⟩ (tr++[aH l o ⟨[(x,au p),(y,au q)],[]⟩ []])) (k2:¬ (p≠q)→ay P N l K r ⟨(d,.bool false)::tm,st,nx,nt⟩ (tr++[aH l o ⟨[(x,au p),(y,au q)],[]⟩ []])) (ho:o.op = .binOp .neq t x y t':=by rfl) (hx:S.ev ⟨tm,st,nx,nt⟩ x=some (au p):=by rfl) (hy:S.ev ⟨tm,st,nx,nt⟩ y=some (au q):=by rfl) (hg:ax l o ⟨tm,st,nx,nt⟩=some true:=by rfl) (hd:o.dst=some d:=by rfl) (hlt:Nat.blt d nt=true:=by rfl):ay P N l K (o::r) ⟨tm,st,nx,nt⟩ tr:=kK hg hd hlt (fun _r h=>pE ho h) (hT hx (hT hy h0)) k1 k2
theorem abY (k:ay P N l K r ⟨(d,.bool true)::tm,st,nx,nt⟩ (tr++[aH l o ⟨[(x,.ifc t1 v1),(y,.nili)],[]⟩ []])) (ho:o.op = .binOp .neq t x y t':=by rfl) (hx:S.ev ⟨tm,st,nx,nt⟩ x=some (.ifc t1 v1):=by rfl) (hy:S.ev ⟨tm,st,nx,nt⟩ y=some (.nili):=by rfl) (hg:ax l o ⟨tm,st,nx,nt⟩=some true:=by rfl) (hd:o.dst=some d:=by rfl) (hlt:Nat.blt d nt=true:=by rfl) (ht:P.underlying t=some (.interface (P.methodsAt t)):=by kernel_rfl):ay P N l K (o::r) ⟨tm,st,nx,nt⟩ tr:=aJ hg hd hlt (J5 ho ht) (hT hx (hT hy h0)) k
theorem acA (k:ay P N l K r ⟨(d,.bool false)::tm,st,nx,nt⟩ (tr++[aH l o ⟨[(x,.nili),(.const c,.nili)],[]⟩ []])) (ho:o.op = .binOp .neq t x (.const c) t':=by rfl) (hx:S.ev ⟨tm,st,nx,nt⟩ x=some (.nili):=by rfl) (hy:S.ev ⟨tm,st,nx,nt⟩ (.const c)=some (.nili):=by rfl) (hg:ax l o ⟨tm,st,nx,nt⟩=some true:=by rfl) (hd:o.dst=some d:=by rfl) (hlt:Nat.blt d nt=true:=by rfl) (ht:P.underlying t=some (.interface (P.methodsAt t)):=by kernel_rfl):ay P N l K (o::r) ⟨tm,st,nx,nt⟩ tr:=aJ hg hd hlt (G5 ho ht) (hT hx (hT hy h0)) k
theorem rV (k:ay P N l K r ⟨(d,au (p++q))::tm,st,nx,nt⟩ (tr++[aH l o ⟨[(x,au p),(y,au q)],[]⟩ []])) (ho:o.op = .binOp .add t x y t':=by rfl) (hx:S.ev ⟨tm,st,nx,nt⟩ x=some (au p):=by rfl) (hy:S.ev ⟨tm,st,nx,nt⟩ y=some (au q):=by rfl) (hg:ax l o ⟨tm,st,nx,nt⟩=some true:=by rfl) (hd:o.dst=some d:=by rfl) (hlt:Nat.blt d nt=true:=by rfl) (h:p.length+q.length≤dY:=by simp only [dY,List.length_append,List.length_cons,List.length_nil] at *;omega):ay P N l K (o::r) ⟨tm,st,nx,nt⟩ tr:=aJ hg hd hlt (Qr ho h) (hT hx (hT hy h0)) k
theorem aaP  (k:ay P N l K r ⟨(d,.int .i64 p.length)::tm,st,nx,nt⟩ (tr++[aH l o ⟨[(x,au p)],[]⟩ []])) (ho:o.op = .call { callee:=.builtin .len,args := #[x],argTypes := #[t] }:=by rfl) (hx:S.ev ⟨tm,st,nx,nt⟩ x=some (au p):=by rfl) (hg:ax l o ⟨tm,st,nx,nt⟩=some true:=by rfl) (hd:o.dst=some d:=by rfl) (hlt:Nat.blt d nt=true:=by rfl) (ht:P.underlying t=some .string:=by rfl):ay P N l K (o::r) ⟨tm,st,nx,nt⟩ tr:=aJ hg hd hlt (Jl ho ht) (hT hx h0) k
theorem abL {xs:List V} (htb:aL P tb) (k:ay P N l K r ⟨(d,.int .i64 xs.length)::tm,st,nx,nt⟩ (tr++[aH l o ⟨[(x,.fro xs)],[]⟩ []])) (ho:o.op = .call { callee:=.builtin .len,args := #[x],argTypes := #[t] }:=by rfl) (hx:S.ev ⟨tm,st,nx,nt⟩ x=some (.fro xs):=by rfl) (hg:ax l o ⟨tm,st,nx,nt⟩=some true:=by rfl) (hd:o.dst=some d:=by rfl) (hlt:Nat.blt d nt=true:=by rfl) (hT':nth tb t=some e:=by rfl) (hs:e.sl=some el:=by rfl):ay P N l K (o::r) ⟨tm,st,nx,nt⟩ tr:=aJ hg hd hlt (LD htb ho hT' hs) (hT hx h0) k
theorem acH (htb:aL P tb) (k:ay P N l K r ⟨(d,.int .i64 m1)::tm,st,nx,nt⟩ (tr++[aH l o ⟨[(x,.own m i0 m1)],[]⟩ []])) (ho:o.op = .call { callee:=.builtin .len,args := #[x],argTypes := #[t] }:=by rfl) (hx:S.ev ⟨tm,st,nx,nt⟩ x=some (.own m i0 m1):=by rfl) (hg:ax l o ⟨tm,st,nx,nt⟩=some true:=by rfl) (hd:o.dst=some d:=by rfl) (hlt:Nat.blt d nt=true:=by rfl) (hT':nth tb t=some e:=by rfl) (hs:e.sl=some el:=by rfl):ay P N l K (o::r) ⟨tm,st,nx,nt⟩ tr:=aJ hg hd hlt (Kg htb ho hT' hs) (hT hx h0) k
theorem abh (htb:aL P tb) (k:ay P N l K r ⟨(d,.int .i64 0)::tm,st,nx,nt⟩ (tr++[aH l o ⟨[(x,.nils)],[]⟩ []])) (ho:o.op = .call { callee:=.builtin .len,args := #[x],argTypes := #[t] }:=by rfl) (hx:S.ev ⟨tm,st,nx,nt⟩ x=some (.nils):=by rfl) (hg:ax l o ⟨tm,st,nx,nt⟩=some true:=by rfl) (hd:o.dst=some d:=by rfl) (hlt:Nat.blt d nt=true:=by rfl) (hT':nth tb t=some e:=by rfl) (hs:e.sl=some el:=by rfl):ay P N l K (o::r) ⟨tm,st,nx,nt⟩ tr:=aJ hg hd hlt (Je htb ho hT' hs) (hT hx h0) k
theorem adl {c:UInt8} (htb:aL P tb) (k:ay P N l K r ⟨(d,bB c)::tm,st,nx,nt⟩ (tr++[aH l o ⟨[(x,au p),(y,.int kd a)],[]⟩ []])) (ho:o.op = .index T x y:=by rfl) (hx:S.ev ⟨tm,st,nx,nt⟩ x=some (au p):=by rfl) (hy:S.ev ⟨tm,st,nx,nt⟩ y=some (.int kd a):=by rfl) (hg:ax l o ⟨tm,st,nx,nt⟩=some true:=by rfl) (hd:o.dst=some d:=by rfl) (hlt:Nat.blt d nt=true:=by rfl) (hT':nth tb T=some e:=by rfl) (hk:e.knd=2:=by rfl) (h0':0≤a:=by omega) (hv:p[a.toNat]? = some c:=by first|assumption|exact rfl):ay P N l K (o::r) ⟨tm,st,nx,nt⟩ tr:=aJ hg hd hlt (Df htb ho hT' hk h0' hv) (hT hx (hT hy h0)) k
theorem sw {xs:List V} (htb:aL P tb) (k:ay P N l K r ⟨(d,.fp w.cells 0)::tm,st,nx,nt⟩ (tr++[aH l o ⟨[(x,.fro xs),(y,.int kd a)],[]⟩ []])) (ho:o.op = .indexAddr T x y:=by rfl) (hx:S.ev ⟨tm,st,nx,nt⟩ x=some (.fro xs):=by rfl) (hy:S.ev ⟨tm,st,nx,nt⟩ y=some (.int kd a):=by rfl) (hg:ax l o ⟨tm,st,nx,nt⟩=some true:=by rfl) (hd:o.dst=some d:=by rfl) (hlt:Nat.blt d nt=true:=by rfl) (hT':nth tb T=some e:=by rfl) (hs:e.sl=some el:=by rfl) (hE:nth tb el=some ee:=by rfl) (h0':0≤a:=by omega) (hv:xs[a.toNat]? = some w:=by first|assumption|exact rfl) (hz:w.cells.length=ee.size:=by rfl):ay P N l K (o::r) ⟨tm,st,nx,nt⟩ tr:=aJ hg hd hlt (EL htb ho hT' hs hE h0' hv hz) (hT hx (hT hy h0)) k
theorem tF {T1:Nat} {xs:List V} (htb:aL P tb) (k:ay P N l K r ⟨(d,.loc m (i0+a.toNat) 0)::tm,st,nx,nt⟩ (tr++[aH l o ⟨[(x,.own m i0 m1),(y,.int kd a)],[(m,.els T1 ee.size xs)]⟩ []])) (ho:o.op = .indexAddr T x y:=by rfl) (hx:S.ev ⟨tm,st,nx,nt⟩ x=some (.own m i0 m1):=by rfl) (hy:S.ev ⟨tm,st,nx,nt⟩ y=some (.int kd a):=by rfl) (hg:ax l o ⟨tm,st,nx,nt⟩=some true:=by rfl) (hd:o.dst=some d:=by rfl) (hlt:Nat.blt d nt=true:=by rfl) (hT':nth tb T=some e:=by rfl) (hs:e.sl=some el:=by rfl) (hE:nth tb el=some ee:=by rfl) (h0':0≤a:=by omega) (hB:S.blk ⟨tm,st,nx,nt⟩ m=some (.els T1 ee.size xs):=by rfl) (h1:a<m1:=by omega):ay P N l K (o::r) ⟨tm,st,nx,nt⟩ tr:=aJ hg hd hlt (xN htb ho hT' hs hE h0' h1) (hT hx (hT hy (hN hB h0))) k
theorem qY (htb:aL P tb) (k:ay P N l K r ⟨(d,.loc m i0 (off+a.toNat*ee.size))::tm,st,nx,nt⟩ (tr++[aH l o ⟨[(x,.loc m i0 off),(y,.int kd a)],[]⟩ []])) (ho:o.op = .indexAddr T x y:=by rfl) (hx:S.ev ⟨tm,st,nx,nt⟩ x=some (.loc m i0 off):=by rfl) (hy:S.ev ⟨tm,st,nx,nt⟩ y=some (.int kd a):=by rfl) (hg:ax l o ⟨tm,st,nx,nt⟩=some true:=by rfl) (hd:o.dst=some d:=by rfl) (hlt:Nat.blt d nt=true:=by rfl) (hT':nth tb T=some e:=by rfl) (hs:e.arr=some (len,el):=by rfl) (hE:nth tb el=some ee:=by rfl) (h0':0≤a:=by omega) (h1:a<len:=by omega):ay P N l K (o::r) ⟨tm,st,nx,nt⟩ tr:=aJ hg hd hlt (xL htb ho hT' hs hE h0' h1) (hT hx (hT hy h0)) k
theorem mM {cs:List V} (htb:aL P tb) (k:ay P N l K r ⟨(d,.fp cs (off+a.toNat*ee.size))::tm,st,nx,nt⟩ (tr++[aH l o ⟨[(x,.fp cs off),(y,.int kd a)],[]⟩ []])) (ho:o.op = .indexAddr T x y:=by rfl) (hx:S.ev ⟨tm,st,nx,nt⟩ x=some (.fp cs off):=by rfl) (hy:S.ev ⟨tm,st,nx,nt⟩ y=some (.int kd a):=by rfl) (hg:ax l o ⟨tm,st,nx,nt⟩=some true:=by rfl) (hd:o.dst=some d:=by rfl) (hlt:Nat.blt d nt=true:=by rfl) (hT':nth tb T=some e:=by rfl) (hs:e.arr=some (len,el):=by rfl) (hE:nth tb el=some ee:=by rfl) (h0':0≤a:=by omega) (h1:a<len:=by omega):ay P N l K (o::r) ⟨tm,st,nx,nt⟩ tr:=aJ hg hd hlt (ru htb ho hT' hs hE h0' h1) (hT hx (hT hy h0)) k
theorem aah (htb:aL P tb) (k:ay P N l K r ⟨(d,w)::tm,st,nx,nt⟩ (tr++[aH l o ⟨[(x,.agg vs),(y,.int kd a)],[]⟩ []])) (ho:o.op = .index T x y:=by rfl) (hx:S.ev ⟨tm,st,nx,nt⟩ x=some (.agg vs):=by rfl) (hy:S.ev ⟨tm,st,nx,nt⟩ y=some (.int kd a):=by rfl) (hg:ax l o ⟨tm,st,nx,nt⟩=some true:=by rfl) (hd:o.dst=some d:=by rfl) (hlt:Nat.blt d nt=true:=by rfl) (hT':nth tb T=some e:=by rfl) (hs:e.arr=some (len,el):=by rfl) (hE:nth tb el=some ee:=by rfl) (h0':0≤a:=by omega) (h1:a<len:=by omega) (hv:lJ vs (a.toNat*ee.size) ee.agg ee.size=some w:=by rfl):ay P N l K (o::r) ⟨tm,st,nx,nt⟩ tr:=aJ hg hd hlt (EX htb ho hT' hs hE h0' h1 hv) (hT hx (hT hy h0)) k
theorem abI (htb:aL P tb) (k:ay P N l K r ⟨(d,au (p.drop a.toNat))::tm,st,nx,nt⟩ (tr++[aH l o ⟨[(x,au p),(y,.int kd a)],[]⟩ []])) (ho:o.op = .slice T x (some y) none none:=by rfl) (hx:S.ev ⟨tm,st,nx,nt⟩ x=some (au p):=by rfl) (hy:S.ev ⟨tm,st,nx,nt⟩ y=some (.int kd a):=by rfl) (hg:ax l o ⟨tm,st,nx,nt⟩=some true:=by rfl) (hd:o.dst=some d:=by rfl) (hlt:Nat.blt d nt=true:=by rfl) (hT':nth tb T=some e:=by rfl) (hk:e.knd=2:=by rfl) (h0':0≤a:=by omega) (h1:a≤p.length:=by omega):ay P N l K (o::r) ⟨tm,st,nx,nt⟩ tr:=aJ hg hd hlt (uQ htb ho hT' hk h0' h1) (hT hx (hT hy h0)) k
theorem ab9 (htb:aL P tb) (k:ay P N l K r ⟨(d,au (p.take a.toNat))::tm,st,nx,nt⟩ (tr++[aH l o ⟨[(x,au p),(y,.int kd a)],[]⟩ []])) (ho:o.op = .slice T x none (some y) none:=by rfl) (hx:S.ev ⟨tm,st,nx,nt⟩ x=some (au p):=by rfl) (hy:S.ev ⟨tm,st,nx,nt⟩ y=some (.int kd a):=by rfl) (hg:ax l o ⟨tm,st,nx,nt⟩=some true:=by rfl) (hd:o.dst=some d:=by rfl) (hlt:Nat.blt d nt=true:=by rfl) (hT':nth tb T=some e:=by rfl) (hk:e.knd=2:=by rfl) (h0':0≤a:=by omega) (h1:a≤p.length:=by omega):ay P N l K (o::r) ⟨tm,st,nx,nt⟩ tr:=aJ hg hd hlt (yo htb ho hT' hk h0' h1) (hT hx (hT hy h0)) k
theorem acz {kd':IntKind} (htb:aL P tb) (k:ay P N l K r ⟨(d,au ((p.take b.toNat).drop a.toNat))::tm,st,nx,nt⟩ (tr++[aH l o ⟨[(x,au p),(y,.int kd a),(z,.int kd' b)],[]⟩ []])) (ho:o.op = .slice T x (some y) (some z) none:=by rfl) (hx:S.ev ⟨tm,st,nx,nt⟩ x=some (au p):=by rfl) (hy:S.ev ⟨tm,st,nx,nt⟩ y=some (.int kd a):=by rfl) (hz:S.ev ⟨tm,st,nx,nt⟩ z=some (.int kd' b):=by rfl) (hg:ax l o ⟨tm,st,nx,nt⟩=some true:=by rfl) (hd:o.dst=some d:=by rfl) (hlt:Nat.blt d nt=true:=by rfl) (hT':nth tb T=some e:=by rfl) (hk:e.knd=2:=by rfl) (h0':0≤a:=by omega) (h1:a≤b:=by omega) (h2:b≤p.length:=by omega):ay P N l K (o::r) ⟨tm,st,nx,nt⟩ tr:=aJ hg hd hlt (Ep htb ho hT' hk h0' h1 h2) (hT hx (hT hy (hT hz h0))) k
theorem xq (htb:aL P tb) (k:ay P N l K r ⟨(d,.fro (p.map bB))::tm,st,nx,nt⟩ (tr++[aH l o ⟨[(x,au p)],[]⟩ []])) (ho:o.op = .convert t t' x:=by rfl) (hx:S.ev ⟨tm,st,nx,nt⟩ x=some (au p):=by rfl) (hg:ax l o ⟨tm,st,nx,nt⟩=some true:=by rfl) (hd:o.dst=some d:=by rfl) (hlt:Nat.blt d nt=true:=by rfl) (hS:nth tb t=some e:=by rfl) (hD:nth tb t'=some e':=by rfl) (hk:Nat.beq e.knd 2=true:=by rfl) (hs:e'.sl=some el:=by rfl) (hE:nth tb el=some ee:=by rfl) (he:Nat.beq ee.knd 24=true:=by rfl) (h:p.length≤LIM:=by first|omega|(simp only [LIM] at *;omega)):ay P N l K (o::r) ⟨tm,st,nx,nt⟩ tr:=aJ hg hd hlt (MP htb ho hS hD hk hs hE he h) (hT hx h0) k
theorem Em (htb:aL P tb) (k:ay P N l K r ⟨(d,.int .i64 a)::tm,st,nx,nt⟩ (tr++[aH l o ⟨[(x,.int kd a)],[]⟩ []])) (ho:o.op = .convert t t' x:=by rfl) (hx:S.ev ⟨tm,st,nx,nt⟩ x=some (.int kd a):=by rfl) (hg:ax l o ⟨tm,st,nx,nt⟩=some true:=by rfl) (hd:o.dst=some d:=by rfl) (hlt:Nat.blt d nt=true:=by rfl) (hS:nth tb t=some e:=by rfl) (hD:nth tb t'=some e':=by rfl) (hk:Nat.beq e'.knd (jN .i64)=true:=by rfl) (h : -9223372036854775808≤a∧a≤9223372036854775807:=by omega):ay P N l K (o::r) ⟨tm,st,nx,nt⟩ tr:=aJ hg hd hlt (Ac htb ho hS hD hk (wrap64 h.1 h.2)) (hT hx h0) k
theorem ny (k2:IntKind) (htb:aL P tb) (k:ay P N l K r ⟨(d,.int k2 b)::tm,st,nx,nt⟩ (tr++[aH l o ⟨[(x,.int kd a)],[]⟩ []])) (ho:o.op = .convert t t' x:=by rfl) (hx:S.ev ⟨tm,st,nx,nt⟩ x=some (.int kd a):=by rfl) (hg:ax l o ⟨tm,st,nx,nt⟩=some true:=by rfl) (hd:o.dst=some d:=by rfl) (hlt:Nat.blt d nt=true:=by rfl) (hS:nth tb t=some e:=by rfl) (hD:nth tb t'=some e':=by rfl) (hk:Nat.beq e'.knd (jN k2)=true:=by rfl) (h:k2.wrap a=b:=by first|assumption|rfl):ay P N l K (o::r) ⟨tm,st,nx,nt⟩ tr:=aJ hg hd hlt (Ac htb ho hS hD hk h) (hT hx h0) k
theorem MN (htb:aL P tb) (k:ay P N l K r ⟨(d,.fro vs)::tm,st,nx,nt⟩ (tr++[aH l o ⟨(ps.toList.map (·.2)).zip vs,[]⟩ []])) (ho:o.op = .buildSlice T len ps:=by rfl) (hvs:evL ⟨tm,st,nx,nt⟩ (ps.toList.map (·.2))=some vs:=by rfl) (hg:ax l o ⟨tm,st,nx,nt⟩=some true:=by rfl) (hd:o.dst=some d:=by rfl) (hlt:Nat.blt d nt=true:=by rfl) (hl:Nat.beq vs.length ps.size=true:=by rfl) (hT':nth tb T=some e:=by rfl) (hs:e.sl=some el:=by rfl) (hE:nth tb el=some ee:=by rfl) (hz:ee.zeroV=some z0:=by rfl) (hsz:ee.size=sz:=by rfl) (hzl:z0.cells.length=sz:=by rfl) (h0':Nat.ble 1 sz=true:=by rfl) (hbig:Nat.ble (len*sz) 16777216=true:=by rfl) (hvl:Nat.beq vs.length len=true:=by rfl) (h1:(vs.all fun v=>v.cells.all V.one&&Nat.beq v.cells.length sz)=true:=by rfl) (hn:V.bf vs=[]:=by rfl) (hf:mY (fun i=>some (i*sz,sz)) (flat (List.replicate len z0)) (EZ ps.toList vs)=some (flat vs):=by rfl):ay P N l K (o::r) ⟨tm,st,nx,nt⟩ tr:=aJ hg hd hlt (DR htb ho hl hT' hs hE hz hsz hzl h0' hbig hvl h1 hn hf) (GU (vT hvs).2) k
theorem Pe (d:Nat) (htb:aL P tb) (k:ay P N l K r ⟨(d,.own nx 0 len)::tm,(nx,some (.els el sz vs))::st,nx+1,nt⟩ (tr++[aH l o ⟨(ps.toList.map (·.2)).zip vs,[]⟩ [(nx,some (.els el sz vs))]])) (ho:o.op = .buildSlice T len ps:=by rfl) (hvs:evL ⟨tm,st,nx,nt⟩ (ps.toList.map (·.2))=some vs:=by rfl) (hg:ax l o ⟨tm,st,nx,nt⟩=some true:=by rfl) (hd:o.dst=some d:=by rfl) (hlt:Nat.blt d nt=true:=by rfl) (hl:Nat.beq vs.length ps.size=true:=by rfl) (hT':nth tb T=some e:=by rfl) (hs:e.sl=some el:=by rfl) (hE:nth tb el=some ee:=by rfl) (hz:ee.zeroV=some z0:=by rfl) (hsz:ee.size=sz:=by rfl) (hzl:z0.cells.length=sz:=by rfl) (h0':Nat.ble 1 sz=true:=by rfl) (hbig:Nat.ble (len*sz) 16777216=true:=by rfl) (hvl:Nat.beq vs.length len=true:=by rfl) (h1:(vs.all fun v=>v.cells.all V.one&&Nat.beq v.cells.length sz)=true:=by rfl) (hf:mY (fun i=>some (i*sz,sz)) (flat (List.replicate len z0)) (EZ ps.toList vs)=some (flat vs):=by rfl):ay P N l K (o::r) ⟨tm,st,nx,nt⟩ tr:=FB rfl hg hd hlt (wm htb ho hl hT' hs hE hz hsz hzl h0' hbig hvl h1 hf) (GU (vT hvs).2) k
theorem kL (f:α→V) {a1:α} (htb:aL P tb) (k:ay P N l K r ⟨(d,.own nx 0 (L++[a1]).length)::tm,(m,none)::(nx,some (.els el sz ((L++[a1]).map f)))::st,nx+1,nt⟩ (tr++[aH l o ⟨[(x,.own m 0 L.length),(y,.fro [f a1])],[(m,.els el sz (L.map f))]⟩ [(m,none),(nx,some (.els el sz ((L++[a1]).map f)))]])) (ho:o.op = .call { callee:=.builtin .append,args := #[x,y],argTypes := #[T,T] }:=by rfl) (hx:S.ev ⟨tm,st,nx,nt⟩ x=some (.own m 0 L.length):=by rfl) (hy:S.ev ⟨tm,st,nx,nt⟩ y=some (.fro [f a1]):=by rfl) (hg:ax l o ⟨tm,st,nx,nt⟩=some true:=by rfl) (hd:o.dst=some d:=by rfl) (hlt:Nat.blt d nt=true:=by rfl) (hB:S.blk ⟨tm,st,nx,nt⟩ m=some (.els el sz (L.map f)):=by rfl) (hT':nth tb T=some e:=by rfl) (hs:e.sl=some el:=by rfl) (hE:nth tb el=some ee:=by rfl) (hz:ee.zeroV=some z0:=by rfl) (hsz:ee.size=sz:=by rfl) (hzl:z0.cells.length=sz:=by rfl) (hf:∀ a,(f a).cells.length=sz∧((f a).cells.all V.one)=true:=by exact fun _=>⟨rfl,rfl⟩) (hlim:L.length+1≤LIM:=by simp only [LIM];omega) (hby:(L.length+1)*ee.bytes≤140737488355328:=by show _*(_:Nat)≤_;simp;omega):ay P N l K (o::r) ⟨tm,st,nx,nt⟩ tr:=Mw rfl hg hd hlt (KT (f:=f) (fun a=>⟨(hf a).1,List.all_eq_true.1 (hf a).2⟩) htb ho hT' hs hE hz hsz hzl hlim hby) (hT hx (hT hy (hN hB h0))) k
theorem oO {s:S} {ns:List (Nat × Blk)}:∀ {xs:List Operand} {vs:List V},evL s xs=some vs→(∀ p∈ns,s.blk p.1=some p.2)→Holds ⟨jm xs vs,ns⟩ s
 | [],vs,h,k=>by rw [evL] at h;cases h;exact ⟨fun p hp=>by simp [jm] at hp,k⟩
 | x::r,vs,h,k=>by
  rw [evL] at h
  split at h<;>cases h
  rename_i v q hv hq
  exact hT hv (oO hq k)
theorem kW {s:S} (h:evL s xs.toList=some vs):vs.length=xs.size:=by simpa using (vT h).1
def FM (s:S):List Nat→Option (List (Nat × Blk))
 | []=>some []
 | n::r=>match s.blk n,FM s r with
  | some b,some q=>some ((n,b)::q)
  | _,_=>none
theorem Ce {s:S}:∀ {l:List Nat} {q:List (Nat × Blk)},FM s l=some q→∀ p∈q,s.blk p.1=some p.2
 | [],q,h=>by rw [FM] at h;cases h;exact fun p hp=>by cases hp
 | n::r,q,h=>by
  rw [FM] at h
  split at h<;>cases h
  rename_i b q hb hq
  intro p hp
  rcases List.mem_cons.1 hp with rfl|hp
  ·exact hb
  ·exact Ce hq p hp
theorem jV {f:α→V × V} (h:∀ a,(f a).2.names=[]):∀ p∈L.map f,p.2.names=[]:=fun x hx=>by
 obtain ⟨a,_,rfl⟩:=List.mem_map.1 hx
 exact h a
theorem GZ {f:α→V} (h:∀ a,(f a).names=[]):∀ x∈L.map f,x.names=[]:=fun x hx=>by
 obtain ⟨a,_,rfl⟩:=List.mem_map.1 hx
 exact h a
theorem TL (h:av P N.g f vs w) (k:ay P N l K r ⟨(d,w)::tm,st,nx,nt⟩ (tr++[aH l o ⟨jm xs.toList vs,[]⟩ []])) (ho:o.op = .call { callee:=.value (.func f),args:=xs,argTypes:=ts }:=by rfl) (he:evL ⟨tm,st,nx,nt⟩ xs.toList=some vs:=by rfl) (hg:ax l o ⟨tm,st,nx,nt⟩=some true:=by rfl) (hd:o.dst=some d:=by rfl) (hlt:Nat.blt d nt=true:=by rfl) (hb:dZ P f=true:=by kernel_rfl) (hn:V.bf vs=[]:=by rfl):ay P N l K (o::r) ⟨tm,st,nx,nt⟩ tr:=aJ hg hd hlt (Dz ho (enters hb) (kW he) h hn) (oO he fun p hp=>by cases hp) k
theorem iY (h:av P N.g f vs (.bool v)) (k1:v=true→ay P N l K r ⟨(d,.bool true)::tm,st,nx,nt⟩ (tr++[aH l o ⟨jm xs.toList vs,[]⟩ []])) (k2:v=false→ay P N l K r ⟨(d,.bool false)::tm,st,nx,nt⟩ (tr++[aH l o ⟨jm xs.toList vs,[]⟩ []])) (ho:o.op = .call { callee:=.value (.func f),args:=xs,argTypes:=ts }:=by rfl) (he:evL ⟨tm,st,nx,nt⟩ xs.toList=some vs:=by rfl) (hg:ax l o ⟨tm,st,nx,nt⟩=some true:=by rfl) (hd:o.dst=some d:=by rfl) (hlt:Nat.blt d nt=true:=by rfl) (hb:dZ P f=true:=by kernel_rfl) (hn:V.bf vs=[]:=by rfl):ay P N l K (o::r) ⟨tm,st,nx,nt⟩ tr:=si hg hd hlt (Dz ho (enters hb) (kW he) h hn) (oO he fun p hp=>by cases hp) k1 k2
theorem uj (names:List Nat) (h:av P N.g f us w) (k:ay P N l K r ⟨(d,w)::tm,st,nx,nt⟩ (tr++[aH l o ⟨jm xs.toList vs,ns⟩ []])) (ho:o.op = .call { callee:=.value (.func f),args:=xs,argTypes:=ts }:=by rfl) (he:evL ⟨tm,st,nx,nt⟩ xs.toList=some vs:=by rfl) (hg:ax l o ⟨tm,st,nx,nt⟩=some true:=by rfl) (hd:o.dst=some d:=by rfl) (hlt:Nat.blt d nt=true:=by rfl) (hb:dZ P f=true:=by kernel_rfl) (hr:FM ⟨tm,st,nx,nt⟩ names=some ns:=by rfl) (hf:j4 (lk ns) vs=some us:=by rfl) (hok:jU (lk ns) vs:=by repeat' first|exact trivial|exact rfl|exact wO (fun _=>rfl)|exact GZ (fun _=>rfl)|(intro u hu;obtain rfl:=List.mem_singleton.1 hu;exact rfl)|constructor) (hp:DJ w=true:=by rfl):ay P N l K (o::r) ⟨tm,st,nx,nt⟩ tr:=aJ hg hd hlt (wX ns ho (enters hb) (kW he) hf hok h hp) (oO he (Ce hr)) k
theorem Lc (names:List Nat) (h:av P N.g f us (.bool v)) (k1:v=true→ay P N l K r ⟨(d,.bool true)::tm,st,nx,nt⟩ (tr++[aH l o ⟨jm xs.toList vs,ns⟩ []])) (k2:v=false→ay P N l K r ⟨(d,.bool false)::tm,st,nx,nt⟩ (tr++[aH l o ⟨jm xs.toList vs,ns⟩ []])) (ho:o.op = .call { callee:=.value (.func f),args:=xs,argTypes:=ts }:=by rfl) (he:evL ⟨tm,st,nx,nt⟩ xs.toList=some vs:=by rfl) (hg:ax l o ⟨tm,st,nx,nt⟩=some true:=by rfl) (hd:o.dst=some d:=by rfl) (hlt:Nat.blt d nt=true:=by rfl) (hb:dZ P f=true:=by kernel_rfl) (hr:FM ⟨tm,st,nx,nt⟩ names=some ns:=by rfl) (hf:j4 (lk ns) vs=some us:=by rfl) (hok:jU (lk ns) vs:=by repeat' first|exact trivial|exact rfl|exact wO (fun _=>rfl)|exact GZ (fun _=>rfl)|(intro u hu;obtain rfl:=List.mem_singleton.1 hu;exact rfl)|constructor) (hp:DJ (.bool v)=true:=by rfl):ay P N l K (o::r) ⟨tm,st,nx,nt⟩ tr:=si hg hd hlt (wX ns ho (enters hb) (kW he) hf hok h hp) (oO he (Ce hr)) k1 k2
theorem ak (h:av P N.g f ws w) (k:ay P N l K r ⟨(d,w)::tm,st,nx,nt⟩ (tr++[aH l o ⟨(g,.fn (.func f) fs bs)::jm xs.toList vs,[]⟩ []])) (ho:o.op = .call { callee:=.value g,args:=xs,argTypes:=ts }:=by rfl) (hf:S.ev ⟨tm,st,nx,nt⟩ g=some (.fn (.func f) fs bs):=by rfl) (he:evL ⟨tm,st,nx,nt⟩ xs.toList=some vs:=by rfl) (hw:fs++vs++bs=ws:=by rfl) (hg:ax l o ⟨tm,st,nx,nt⟩=some true:=by rfl) (hd:o.dst=some d:=by rfl) (hlt:Nat.blt d nt=true:=by rfl) (hb:dZ P f=true:=by first|assumption|kernel_rfl) (hn:V.bf ws=[]:=by first|rfl|simp [V.bf,V.names, *]):ay P N l K (o::r) ⟨tm,st,nx,nt⟩ tr:=aJ hg hd hlt (yG ho (enters hb) (kW he) (hw ▸ h) (hw ▸ hn)) (hT hf (oO he fun p hp=>by cases hp)) k
theorem dW (h:av P N.g f ws (.bool v)) (k1:v=true→ay P N l K r ⟨(d,.bool true)::tm,st,nx,nt⟩ (tr++[aH l o ⟨(g,.fn (.func f) fs bs)::jm xs.toList vs,[]⟩ []])) (k2:v=false→ay P N l K r ⟨(d,.bool false)::tm,st,nx,nt⟩ (tr++[aH l o ⟨(g,.fn (.func f) fs bs)::jm xs.toList vs,[]⟩ []])) (ho:o.op = .call { callee:=.value g,args:=xs,argTypes:=ts }:=by rfl) (hf:S.ev ⟨tm,st,nx,nt⟩ g=some (.fn (.func f) fs bs):=by rfl) (he:evL ⟨tm,st,nx,nt⟩ xs.toList=some vs:=by rfl) (hw:fs++vs++bs=ws:=by rfl) (hg:ax l o ⟨tm,st,nx,nt⟩=some true:=by rfl) (hd:o.dst=some d:=by rfl) (hlt:Nat.blt d nt=true:=by rfl) (hb:dZ P f=true:=by first|assumption|kernel_rfl) (hn:V.bf ws=[]:=by first|rfl|simp [V.bf,V.names, *]):ay P N l K (o::r) ⟨tm,st,nx,nt⟩ tr:=si hg hd hlt (yG ho (enters hb) (kW he) (hw ▸ h) (hw ▸ hn)) (hT hf (oO he fun p hp=>by cases hp)) k1 k2
theorem sO {s:S} (h4:pack us=w) (h1:nG tb s rs=some vs:=by rfl) (h2:j4 s.blk vs=some us:=by rfl) (h3:jU s.blk vs:=by repeat' first|exact trivial|exact wO (fun _=>rfl)|constructor):qO tb rs w .ret s:=⟨vs,us,h1,h2,h3,h4⟩
theorem uV {s:S} (h4:pack us=w) (h1:nG tb s rs=some vs:=by rfl) (h2:j4 s.blk vs=some us:=by rfl) (h3:jU s.blk vs:=by repeat' first|exact trivial|exact wO (fun _=>rfl)|constructor):qO tb rs w .normal s:=⟨vs,us,h1,h2,h3,h4⟩
theorem ah {s:S} (h1:s1.nt=s.nt:=by rfl) (h2:Yd s s1.nx s1.tm:=by repeat' first|exact trivial|exact rfl|constructor|(simp only [NLt,V.names,V.bf,List.append_nil,List.nil_append, *];rfl)) (h3:StI s s1.nx s1.st:=by repeat' first|exact trivial|exact rfl|exact QB (fun _=>rfl)|exact C9 (by assumption)|exact jV (fun _=>rfl)|exact (fun _ h=>nomatch h)|constructor) (h4:rz id s1.st=true:=by rfl) (h5:Nat.ble k s1.nx=true:=by rfl):LeI k s1 s:=⟨h1,h2,h3,h4,h5⟩
theorem x_len (ns:List Nat) {s:S} (h1:s1.nt=s.nt:=by rfl) (h2:Nat.beq ns.length s1.nx=true:=by rfl) (h3:YV ns s s1.tm:=by repeat' first|exact trivial|refine And.intro ⟨_,rfl,rfl⟩ ?_) (h4:StN ns s s1.st:=by repeat' first|exact trivial|refine And.intro ⟨_,rfl,by first|exact cO.ren rfl|exact cO.same (aT fun _=>rfl)|exact cO.sit|exact cO.map (by assumption)|exact cO.map (jV fun _=>rfl)|exact cO.map (fun _ h=>nomatch h),rfl ⟩ ?_) (h5:rz (nm ns) s1.st=true:=by rfl) (h6:D9 (nm ns) k s1.nx=true:=by rfl):∃ ns,LeN ns k s1 s:=⟨ns,h1,h2,h3,h4,h5,h6⟩
end
end Abs
end
end Go.Proofs.YtlfdjpgghiemfaaGreatDoor
