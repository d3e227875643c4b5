/- Texts of the proof, joined: AbsV. -/
import Derived.Test.YtlfdjpgghiemfaaGreatDoorG10
section
namespace Go.Proofs.YtlfdjpgghiemfaaGreatDoor.Abs
open Go.RowKit Mem Facts
def evL (s:S):List Operand→Option (List V)
 | []=>some []
 | x::r=>match s.ev x,evL s r with
  | some v,some vs=>some (v::vs)
  | _,_=>none
def setNth:List V→Nat→V→Option (List V)
 | [],_,_=>none
 | _::r,0,v=>some (v::r)
 | x::r,n+1,v=>match setNth r n v with
  | some q=>some (x::q)
  | none=>none
theorem setNth_some:∀ {l:List V} {n:Nat} {v:V} {q:List V},setNth l n v=some q→l.set n v=q
 | [],_,_,_,h=>by simp [setNth] at h
 | x::r,0,v,q,h=>by rw [setNth] at h;cases h;rfl
 | x::r,n+1,v,q,h=>by
  rw [setNth] at h
  split at h<;>cases h
  rename_i q hq
  rw [List.set_cons_succ,setNth_some hq]
theorem evL_at {s:S}:∀ {xs:List Operand} {vs:List V},evL s xs=some vs→vs.length=xs.length∧∀ p∈xs.zip vs,s.ev p.1=some p.2
 | [],vs,h=>by rw [evL] at h;cases h;exact ⟨rfl,fun p hp=>by cases hp⟩
 | x::r,vs,h=>by
  rw [evL] at h
  split at h<;>cases h
  rename_i v q hv hq
  obtain ⟨h1,h2⟩:=evL_at hq
  refine ⟨by simp [h1],fun p hp=>?_⟩
  rcases List.mem_cons.1 hp with rfl|hp
  ·exact hv
  ·exact h2 p hp
abbrev Stp:=V × Fp × List (Nat × Option Blk) × List Nat × Nat
def stp (tb:List Ty) (ow:Bool) (op:Op) (s:S):Option Stp:=match op with
 | .move x=>match s.ev x with
  | some v=>some (v,⟨[(x,v)],[]⟩,[],[],s.nx)
  | none=>none
 | .assign x=>match s.ev x with
  | some v=>some (v,⟨[(x,v)],[]⟩,[],[],s.nx)
  | none=>none
 | .pick c x y=>match s.ev c with
  | some (.bool true)=>(match s.ev x with
   | some v=>some (v,⟨[(c,.bool true),(x,v)],[]⟩,[],[],s.nx)
   | none=>none)
  | some (.bool false)=>(match s.ev y with
   | some v=>some (v,⟨[(c,.bool false),(y,v)],[]⟩,[],[],s.nx)
   | none=>none)
  | _=>none
 | .extract x i=>match s.ev x with
  | some (.tup vs)=>(match nth vs i with
   | some v=>some (v,⟨[(x,.tup vs)],[]⟩,[],[],s.nx)
   | none=>none)
  | _=>none
 | .unOp .not _ x=>match s.ev x with
  | some (.bool b)=>some (.bool (!b),⟨[(x,.bool b)],[]⟩,[],[],s.nx)
  | _=>none
 | .nilCheck x=>match s.ev x with
  | some (.loc n i k)=>some (.loc n i k,⟨[(x,.loc n i k)],[]⟩,[],[],s.nx)
  | some (.fp cs k)=>some (.fp cs k,⟨[(x,.fp cs k)],[]⟩,[],[],s.nx)
  | some (.ifc t v)=>some (.ifc t v,⟨[(x,.ifc t v)],[]⟩,[],[],s.nx)
  | some (.fn (.func f) a b)=>some (.fn (.func f) a b,⟨[(x,.fn (.func f) a b)],[]⟩,[],[],s.nx)
  | _=>none
 | .load T x=>match nth tb T with
  | some e=>(match s.ev x with
   | some (.loc n i off)=>(match s.blk n with
    | some (.els T' sz xs)=>(match nth xs i with
     | some el=>(match subV el.cells off e.agg e.size with
      | some v=>some (v,⟨[(x,.loc n i off)],[(n,.els T' sz xs)]⟩,[],[],s.nx)
      | none=>none)
     | none=>none)
    | _=>none)
   | some (.fp cs off)=>(match subV cs off e.agg e.size with
    | some v=>some (v,⟨[(x,.fp cs off)],[]⟩,[],[],s.nx)
    | none=>none)
   | _=>none)
  | none=>none
 | .field T x f=>match nth tb T with
  | some e=>(match s.ev x with
   | some (.agg vs)=>(match nth e.flds f with
    | some (off,ft)=>(match nth tb ft with
     | some ef=>(match subV vs off ef.agg ef.size with
      | some v=>some (v,⟨[(x,.agg vs)],[]⟩,[],[],s.nx)
      | none=>none)
     | none=>none)
    | none=>none)
   | _=>none)
  | none=>none
 | .fieldAddr T x f=>match nth tb T with
  | some e=>(match nth e.flds f with
   | some (off,ft)=>(match nth tb ft with
    | some ef=>bif Nat.ble 1 ef.size then (match s.ev x with
     | some (.loc n i k)=>some (.loc n i (k+off),⟨[(x,.loc n i k)],[]⟩,[],[],s.nx)
     | some (.fp cs k)=>some (.fp cs (k+off),⟨[(x,.fp cs k)],[]⟩,[],[],s.nx)
     | _=>none) else none
    | none=>none)
   | none=>none)
  | none=>none
 | .alloc T=>match nth tb T with
  | some e=>(match e.zeroV with
   | some v=>some (.loc s.nx 0 0,⟨[],[]⟩,[(s.nx,some (.els T v.cells.length [v]))],[s.nx],s.nx+1)
   | none=>none)
  | none=>none
 | .box T x=>match s.ev x with
  | some v=>bif v.cells.all V.one then (bif ow then (bif Nat.ble 1 v.cells.length then some (.loc s.nx 0 0,⟨[(x,v)],[]⟩,[(s.nx,some (.els T v.cells.length [v]))],[s.nx],s.nx+1) else none)
   else (match v.names with
    | []=>some (.fp v.cells 0,⟨[(x,v)],[]⟩,[],[],s.nx)
    | _=>none)) else none
  | none=>none
 | .store T x y=>match nth tb T with
  | some e=>(match s.ev x with
   | some (.loc n i off)=>(match s.blk n with
    | some (.els T' sz xs)=>(match nth xs i with
     | some el=>(match s.ev y with
      | some v=>bif v.cells.all V.one&&Nat.beq v.cells.length e.size&&(!el.one||Nat.beq v.cells.length 1) then (match putV el off v with
       | some el'=>(match setNth xs i el' with
        | some xs'=>some (.und,⟨[(x,.loc n i off),(y,v)],[(n,.els T' sz xs)]⟩,[(n,some (.els T' sz xs'))],[],s.nx)
        | none=>none)
       | none=>none) else none
      | none=>none)
     | none=>none)
    | _=>none)
   | _=>none)
  | none=>none
 | .makeFunc f xs ys=>match evL s xs.toList,evL s ys.toList with
  | some us,some vs=>some (.fn f us vs,⟨xs.toList.zip us++ys.toList.zip vs,[]⟩,[],[],s.nx)
  | _,_=>none
 | .makeInterface t x=>match nth tb t with
  | some e=>bif Nat.beq e.knd 7 then none else (match s.ev x with
   | some v=>some (.ifc t v,⟨[(x,v)],[]⟩,[],[],s.nx)
   | none=>none)
  | none=>none
 | .build T ps=>match nth tb T with
  | some e=>bif e.agg&&e.placeOk tb then (match e.zeroV with
   | some z=>(match evL s (ps.toList.map (·.2)) with
    | some vs=>bif (vs.all fun v=>v.cells.all V.one) then (match fillV (e.place tb) z.cells (zipP ps.toList vs) with
     | some cs=>some (.agg cs,⟨(ps.toList.map (·.2)).zip vs,[]⟩,[],[],s.nx)
     | none=>none) else none
    | none=>none)
   | none=>none) else none
  | none=>none
 | _=>none
section
variable {P:Program} {N:Env} {o:Oper} {tb:List Ty} {s:S}
theorem holds1 {x:Operand} {v:V} (h:s.ev x=some v):Holds ⟨[(x,v)],[]⟩ s:=hT h h0
theorem holds2 {x y:Operand} {u v:V} (h:s.ev x=some u) (k:s.ev y=some v):Holds ⟨[(x,u),(y,v)],[]⟩ s:=hT h (hT k h0)
theorem holdsL {l:List (Operand × V)} (h:∀ p∈l,s.ev p.1=some p.2):Holds ⟨l,[]⟩ s:=⟨h,fun p hp=>by cases hp⟩
structure StpOk (P:Program) (N:Env) (o:Oper) (s:S) (v:V) (fp:Fp) (up:List (Nat × Option Blk)) (new:List Nat) (nx:Nat):Prop where
 law:OpLaw P N o fp v up new
 hh:Holds fp s
 hn:s.nx≤nx∧∀ n∈new,s.nx≤n∧n<nx
theorem stay0:s.nx≤s.nx∧∀ n∈([]:List Nat),s.nx≤n∧n<s.nx:=⟨Nat.le_refl _,fun n h=>by cases h⟩
theorem one_new:s.nx≤s.nx+1∧∀ n∈[s.nx],s.nx≤n∧n<s.nx+1:=⟨Nat.le_succ _,fun n h=>by rw [List.mem_singleton] at h;omega⟩
theorem cond_some {α:Type} {b:Bool} {x:Option α} {y:α} (h:(bif b then x else none)=some y):b=true∧x=some y:=by
 cases b with
 | true=>exact ⟨rfl,h⟩
 | false=>cases h
theorem stp_ok {ow:Bool} {op:Op} {v:V} {fp:Fp} {up:List (Nat × Option Blk)} {new:List Nat} {nx:Nat} (htb:TbOk P tb) (ho:o.op=op) (h:stp tb ow op s=some (v,fp,up,new,nx)):StpOk P N o s v fp up new nx:=by
 unfold stp at h
 split at h
 ·split at h<;>cases h
  rename_i hx
  exact ⟨law_move ho,holds1 hx,stay0⟩
 ·split at h<;>cases h
  rename_i hx
  exact ⟨law_assign ho,holds1 hx,stay0⟩
 ·split at h
  ·rename_i hc
   split at h<;>cases h
   rename_i hx
   exact ⟨law_pick_true ho,holds2 hc hx,stay0⟩
  ·rename_i hc
   split at h<;>cases h
   rename_i hx
   exact ⟨law_pick_false ho,holds2 hc hx,stay0⟩
  ·cases h
 ·split at h
  ·rename_i hx
   split at h<;>cases h
   rename_i hn
   exact ⟨law_extract ho hn,holds1 hx,stay0⟩
  ·cases h
 ·split at h<;>cases h
  rename_i hx
  exact ⟨law_not ho,holds1 hx,stay0⟩
 ·split at h<;>cases h<;>(rename_i hx;exact ⟨law_nilCheck ho rfl,holds1 hx,stay0⟩)
 ·split at h
  ·rename_i e hT'
   split at h
   ·rename_i hx
    split at h
    ·rename_i hb
     split at h
     ·rename_i el hel
      split at h<;>cases h
      rename_i hv
      rw [nth_eq] at hel
      exact ⟨law_load htb ho hT' hel hv,hT hx (hN hb h0),stay0⟩
     ·cases h
    ·cases h
   ·rename_i hx
    split at h<;>cases h
    rename_i hv
    exact ⟨law_load_fp htb ho hT' hv,holds1 hx,stay0⟩
   ·cases h
  ·cases h
 ·split at h
  ·rename_i e hT'
   split at h
   ·rename_i hx
    split at h
    ·rename_i hf
     split at h
     ·rename_i ef hF
      split at h<;>cases h
      rename_i hv
      exact ⟨law_field htb ho hT' hf hF hv,holds1 hx,stay0⟩
     ·cases h
    ·cases h
   ·cases h
  ·cases h
 ·split at h
  ·rename_i e hT'
   split at h
   ·rename_i hf
    split at h
    ·rename_i ef hF
     obtain ⟨hb,h⟩:=cond_some h
     split at h<;>cases h
     ·rename_i hx
      exact ⟨law_fieldAddr htb ho hT' hf hF hb,holds1 hx,stay0⟩
     ·rename_i hx
      exact ⟨law_fieldAddr_fp htb ho hT' hf hF hb,holds1 hx,stay0⟩
    ·cases h
   ·cases h
  ·cases h
 ·split at h
  ·rename_i e hT'
   split at h<;>cases h
   rename_i hv
   exact ⟨law_alloc htb ho hT' hv,h0,one_new⟩
  ·cases h
 ·split at h
  ·rename_i hx
   obtain ⟨h1,h⟩:=cond_some h
   cases ow with
   | true =>
    simp only [cond_true] at h
    obtain ⟨h2,h⟩:=cond_some h
    cases h
    exact ⟨law_box ho h2 h1,holds1 hx,one_new⟩
   | false =>
    simp only [cond_false] at h
    split at h<;>cases h
    rename_i hn
    exact ⟨law_box_fz ho hn h1,holds1 hx,stay0⟩
  ·cases h
 ·split at h
  ·rename_i e hT'
   split at h
   ·rename_i hx
    split at h
    ·rename_i hb
     split at h
     ·rename_i el hel
      split at h
      ·rename_i hy
       obtain ⟨hb1,h⟩:=cond_some h
       simp only [Bool.and_eq_true] at hb1
       split at h
       ·rename_i hp
        split at h<;>cases h
        rename_i hs
        rw [nth_eq] at hel
        exact ⟨law_store htb ho hT' hel hb1.1.1 (Nat.eq_of_beq_eq_true hb1.1.2) hp hb1.2 (setNth_some hs),hT hx (hT hy (hN hb h0)),stay0⟩
       ·cases h
      ·cases h
     ·cases h
    ·cases h
   ·cases h
  ·cases h
 ·split at h<;>cases h
  rename_i us vs hu hv
  obtain ⟨u1,u2⟩:=evL_at hu
  obtain ⟨v1,v2⟩:=evL_at hv
  exact ⟨law_makeFunc ho (by simpa using u1) (by simpa using v1),holdsL fun p hp=>(List.mem_append.1 hp).elim (u2 p) (v2 p),stay0⟩
 ·split at h
  ·rename_i e hT'
   cases hk:Nat.beq e.knd 7 with
   | true=>rw [hk] at h;cases h
   | false =>
    rw [hk] at h
    simp only [cond_false] at h
    split at h<;>cases h
    rename_i hx
    obtain ⟨ti,d,ht⟩:=ty_at htb hT'
    refine ⟨law_makeInterface ho ht.und ?_,holds1 hx,stay0⟩
    have:=ht.knd
    cases d<;>first|rfl|(simp only [kindOf] at this;rw [this] at hk;cases hk)
  ·cases h
 ·split at h
  ·rename_i e hT'
   obtain ⟨hb,h⟩:=cond_some h
   rw [Bool.and_eq_true] at hb
   split at h
   ·rename_i z hz
    split at h
    ·rename_i vs hvs
     obtain ⟨h1,h⟩:=cond_some h
     split at h<;>cases h
     have hf := ‹fillV _ _ _=some _›
     obtain ⟨v1,v2⟩:=evL_at hvs
     exact ⟨law_build htb ho (by simp [v1]) hT' hb.2 hz hb.1 h1 hf,holdsL v2,stay0⟩
    ·cases h
   ·cases h
  ·cases h
 ·cases h
end
def memN (d:Nat):List Nat→Bool
 | []=>false
 | n::r=>Nat.beq n d||memN d r
abbrev Far:=List Oper × List (Nat × V) × List (Nat × Option Blk) × Nat × List Tr
def owd (ow:List Nat) (o:Oper):Bool:=match o.dst with
 | some d=>memN d ow
 | none=>false
def far (tb:List Ty) (ow:List Nat) (l:List Oper) (nt:Nat):List Oper→List (Nat × V)→List (Nat × Option Blk)→Nat→List Tr→Far
 | [],tm,st,nx,tr=>([],tm,st,nx,tr)
 | o::r,tm,st,nx,tr=>match guardV l o ⟨tm,st,nx,nt⟩ with
  | some false=>(match o.dst with
   | some d=>bif Nat.blt d nt then far tb ow l nt r ((d,.und)::tm) st nx (tr++[trOf l o ⟨[],[]⟩ []]) else (o::r,tm,st,nx,tr)
   | none=>far tb ow l nt r tm st nx (tr++[trOf l o ⟨[],[]⟩ []]))
  | some true=>(match stp tb (owd ow o) o.op ⟨tm,st,nx,nt⟩ with
   | some (v,fp,up,_,nx')=>(match appO up st with
    | some st'=>(match o.dst with
     | some d=>bif Nat.blt d nt then far tb ow l nt r ((d,v)::tm) st' nx' (tr++[trOf l o fp up]) else (o::r,tm,st,nx,tr)
     | none=>far tb ow l nt r tm st' nx' (tr++[trOf l o fp up]))
    | none=>(o::r,tm,st,nx,tr))
   | none=>(o::r,tm,st,nx,tr))
  | none=>(o::r,tm,st,nx,tr)
section
variable {P:Program} {N:Env} {tb:List Ty} {ow:List Nat} {l:List Oper} {nt:Nat} {K:S→List Tr→Prop}
theorem far_ok (htb:TbOk P tb):∀ (r:List Oper) (tm:List (Nat × V)) (st:List (Nat × Option Blk)) (nx:Nat) (tr:List Tr) (r':List Oper) (tm':List (Nat × V)) (st':List (Nat × Option Blk)) (nx':Nat) (tr':List Tr),
  far tb ow l nt r tm st nx tr=(r',tm',st',nx',tr')→ARun P N l K r' ⟨tm',st',nx',nt⟩ tr'→ARun P N l K r ⟨tm,st,nx,nt⟩ tr
 | [],tm,st,nx,tr,r',tm',st',nx',tr',h,k=>by rw [far] at h;cases h;exact k
 | o::r,tm,st,nx,tr,r',tm',st',nx',tr',h,k=>by
  rw [far] at h
  split at h
  ·rename_i hg
   split at h
   ·rename_i d hd
    cases hb:Nat.blt d nt with
    | false=>rw [hb] at h;cases h;exact k
    | true =>
     rw [hb] at h
     exact r_off hg hd hb (far_ok htb r _ _ _ _ _ _ _ _ _ h k)
   ·rename_i hd
    exact r_off0 hg hd (far_ok htb r _ _ _ _ _ _ _ _ _ h k)
  ·rename_i hg
   split at h
   ·rename_i v fp up new nx1 hs
    have ok:=stp_ok (P:=P) (N:=N) htb rfl hs
    split at h
    ·rename_i st1 ha
     have ea:=appO_eq ha
     split at h
     ·rename_i d hd
      cases hb:Nat.blt d nt with
      | false=>rw [hb] at h;cases h;exact k
      | true =>
       rw [hb] at h
       refine .on fp v up new nx1 hg ok.law ok.hh ok.hn (fun d' h=>by rw [hd] at h;cases h;exact blt_lt hb) ?_
       have e:S.eff ⟨tm,st,nx,nt⟩ o.dst v up nx1=⟨(d,v)::tm,st1,nx1,nt⟩:=by rw [hd,ea];rfl
       rw [e]
       exact far_ok htb r _ _ _ _ _ _ _ _ _ h k
     ·rename_i hd
      refine .on fp v up new nx1 hg ok.law ok.hh ok.hn (fun d' h=>by rw [hd] at h;cases h) ?_
      have e:S.eff ⟨tm,st,nx,nt⟩ o.dst v up nx1=⟨tm,st1,nx1,nt⟩:=by rw [hd,ea];rfl
      rw [e]
      exact far_ok htb r _ _ _ _ _ _ _ _ _ h k
    ·cases h;exact k
   ·cases h;exact k
  ·cases h;exact k
def far1 (tb:List Ty) (ow:List Nat) (l:List Oper) (nt:Nat):List Oper→List (Nat × V)→List (Nat × Option Blk)→Nat→List Tr→Option Far
 | [],_,_,_,_=>none
 | o::r,tm,st,nx,tr=>match guardV l o ⟨tm,st,nx,nt⟩ with
  | some false=>some (far tb ow l nt (o::r) tm st nx tr)
  | some true=>(match stp tb (owd ow o) o.op ⟨tm,st,nx,nt⟩ with
   | some _=>some (far tb ow l nt (o::r) tm st nx tr)
   | none=>none)
  | none=>none
theorem far1_some {r:List Oper} {tm:List (Nat × V)} {st:List (Nat × Option Blk)} {nx:Nat} {tr:List Tr} {q:Far} (h:far1 tb ow l nt r tm st nx tr=some q):far tb ow l nt r tm st nx tr=q:=by
 cases r with
 | nil=>cases h
 | cons o r =>
  rw [far1] at h
  split at h
  ·cases h;rfl
  ·split at h<;>cases h;rfl
  ·cases h
theorem x_far (ow:List Nat) {r r':List Oper} {tm tm':List (Nat × V)} {st st':List (Nat × Option Blk)} {nx nx':Nat} {tr tr':List Tr} (htb:TbOk P tb) (h:far1 tb ow l nt r tm st nx tr=some (r',tm',st',nx',tr')) (k:ARun P N l K r' ⟨tm',st',nx',nt⟩ tr'):ARun P N l K r ⟨tm,st,nx,nt⟩ tr :=
 far_ok htb _ _ _ _ _ _ _ _ _ _ (far1_some h) k
end
end Go.Proofs.YtlfdjpgghiemfaaGreatDoor.Abs
namespace Go.Proofs.YtlfdjpgghiemfaaGreatDoor.Abs
open Go.RowKit Mem Facts
section
variable {P:Program} {N:Env} {l r:List Oper} {o:Oper} {tm:List (Nat × V)} {st:List (Nat × Option Blk)} {nx nt:Nat} {tr:List Tr} {K:S→List Tr→Prop} {tb:List Ty} {d T:Nat} {t t':TypeId} {x y z:Operand} {a b n:Int} {p q:List UInt8} {u v:Bool} {e ee:Ty}
theorem x_addE (k:ARun P N l K r ⟨(d,.int .i64 n)::tm,st,nx,nt⟩ (tr++[trOf l o ⟨[(x,.int .i64 a),(y,.int .i64 b)],[]⟩ []])) (ho:o.op = .binOp .add t x y t':=by rfl) (hx:S.ev ⟨tm,st,nx,nt⟩ x=some (.int .i64 a):=by rfl) (hy:S.ev ⟨tm,st,nx,nt⟩ y=some (.int .i64 b):=by rfl) (hg:guardV l o ⟨tm,st,nx,nt⟩=some true:=by rfl) (hd:o.dst=some d:=by rfl) (hlt:Nat.blt d nt=true:=by rfl) (he:a+b=n:=by with_reducible assumption) (h1 : -9223372036854775808≤a+b∧a+b≤9223372036854775807:=by omega):ARun P N l K (o::r) ⟨tm,st,nx,nt⟩ tr:=r_val hg hd hlt (law_add' ho ((wrap64 h1.1 h1.2).trans he)) (hT hx (hT hy h0)) k
theorem x_add (k:ARun P N l K r ⟨(d,.int .i64 (a+b))::tm,st,nx,nt⟩ (tr++[trOf l o ⟨[(x,.int .i64 a),(y,.int .i64 b)],[]⟩ []])) (ho:o.op = .binOp .add t x y t':=by rfl) (hx:S.ev ⟨tm,st,nx,nt⟩ x=some (.int .i64 a):=by rfl) (hy:S.ev ⟨tm,st,nx,nt⟩ y=some (.int .i64 b):=by rfl) (hg:guardV l o ⟨tm,st,nx,nt⟩=some true:=by rfl) (hd:o.dst=some d:=by rfl) (hlt:Nat.blt d nt=true:=by rfl) (h1 : -9223372036854775808≤a+b∧a+b≤9223372036854775807:=by omega):ARun P N l K (o::r) ⟨tm,st,nx,nt⟩ tr:=r_val hg hd hlt (law_add' ho (wrap64 h1.1 h1.2)) (hT hx (hT hy h0)) k
theorem x_subE (k:ARun P N l K r ⟨(d,.int .i64 n)::tm,st,nx,nt⟩ (tr++[trOf l o ⟨[(x,.int .i64 a),(y,.int .i64 b)],[]⟩ []])) (ho:o.op = .binOp .sub t x y t':=by rfl) (hx:S.ev ⟨tm,st,nx,nt⟩ x=some (.int .i64 a):=by rfl) (hy:S.ev ⟨tm,st,nx,nt⟩ y=some (.int .i64 b):=by rfl) (hg:guardV l o ⟨tm,st,nx,nt⟩=some true:=by rfl) (hd:o.dst=some d:=by rfl) (hlt:Nat.blt d nt=true:=by rfl) (he:a-b=n:=by with_reducible assumption) (h1 : -9223372036854775808≤a-b∧a-b≤9223372036854775807:=by omega):ARun P N l K (o::r) ⟨tm,st,nx,nt⟩ tr:=r_val hg hd hlt (law_sub' ho ((wrap64 h1.1 h1.2).trans he)) (hT hx (hT hy h0)) k
theorem x_sub (k:ARun P N l K r ⟨(d,.int .i64 (a-b))::tm,st,nx,nt⟩ (tr++[trOf l o ⟨[(x,.int .i64 a),(y,.int .i64 b)],[]⟩ []])) (ho:o.op = .binOp .sub t x y t':=by rfl) (hx:S.ev ⟨tm,st,nx,nt⟩ x=some (.int .i64 a):=by rfl) (hy:S.ev ⟨tm,st,nx,nt⟩ y=some (.int .i64 b):=by rfl) (hg:guardV l o ⟨tm,st,nx,nt⟩=some true:=by rfl) (hd:o.dst=some d:=by rfl) (hlt:Nat.blt d nt=true:=by rfl) (h1 : -9223372036854775808≤a-b∧a-b≤9223372036854775807:=by omega):ARun P N l K (o::r) ⟨tm,st,nx,nt⟩ tr:=r_val hg hd hlt (law_sub' ho (wrap64 h1.1 h1.2)) (hT hx (hT hy h0)) k
theorem x_mul (k:ARun P N l K r ⟨(d,.int .i64 (a*b))::tm,st,nx,nt⟩ (tr++[trOf l o ⟨[(x,.int .i64 a),(y,.int .i64 b)],[]⟩ []])) (ho:o.op = .binOp .mul t x y t':=by rfl) (hx:S.ev ⟨tm,st,nx,nt⟩ x=some (.int .i64 a):=by rfl) (hy:S.ev ⟨tm,st,nx,nt⟩ y=some (.int .i64 b):=by rfl) (hg:guardV l o ⟨tm,st,nx,nt⟩=some true:=by rfl) (hd:o.dst=some d:=by rfl) (hlt:Nat.blt d nt=true:=by rfl) (h1 : -9223372036854775808≤a*b∧a*b≤9223372036854775807:=by omega):ARun P N l K (o::r) ⟨tm,st,nx,nt⟩ tr:=r_val hg hd hlt (law_mul' ho (wrap64 h1.1 h1.2)) (hT hx (hT hy h0)) k
variable {kd:IntKind}
theorem x_lssT (k:ARun P N l K r ⟨(d,.bool true)::tm,st,nx,nt⟩ (tr++[trOf l o ⟨[(x,.int kd a),(y,.int kd b)],[]⟩ []])) (ho:o.op = .binOp .lss t x y t':=by rfl) (hx:S.ev ⟨tm,st,nx,nt⟩ x=some (.int kd a):=by rfl) (hy:S.ev ⟨tm,st,nx,nt⟩ y=some (.int kd b):=by rfl) (hg:guardV l o ⟨tm,st,nx,nt⟩=some true:=by rfl) (hd:o.dst=some d:=by rfl) (hlt:Nat.blt d nt=true:=by rfl) (h:a<b:=by omega):ARun P N l K (o::r) ⟨tm,st,nx,nt⟩ tr:=r_val hg hd hlt (law_lss ho (decide_eq_true h)) (hT hx (hT hy h0)) k
theorem x_lssF (k:ARun P N l K r ⟨(d,.bool false)::tm,st,nx,nt⟩ (tr++[trOf l o ⟨[(x,.int kd a),(y,.int kd b)],[]⟩ []])) (ho:o.op = .binOp .lss t x y t':=by rfl) (hx:S.ev ⟨tm,st,nx,nt⟩ x=some (.int kd a):=by rfl) (hy:S.ev ⟨tm,st,nx,nt⟩ y=some (.int kd b):=by rfl) (hg:guardV l o ⟨tm,st,nx,nt⟩=some true:=by rfl) (hd:o.dst=some d:=by rfl) (hlt:Nat.blt d nt=true:=by rfl) (h:¬ (a<b):=by omega):ARun P N l K (o::r) ⟨tm,st,nx,nt⟩ tr:=r_val hg hd hlt (law_lss ho (decide_eq_false h)) (hT hx (hT hy h0)) k
theorem x_lss (k1:a<b→ARun P N l K r ⟨(d,.bool true)::tm,st,nx,nt⟩ (tr++[trOf l o ⟨[(x,.int kd a),(y,.int kd b)],[]⟩ []])) (k2:¬ (a<b)→ARun P N l K r ⟨(d,.bool false)::tm,st,nx,nt⟩ (tr++[trOf l o ⟨[(x,.int kd a),(y,.int kd b)],[]⟩ []])) (ho:o.op = .binOp .lss t x y t':=by rfl) (hx:S.ev ⟨tm,st,nx,nt⟩ x=some (.int kd a):=by rfl) (hy:S.ev ⟨tm,st,nx,nt⟩ y=some (.int kd b):=by rfl) (hg:guardV l o ⟨tm,st,nx,nt⟩=some true:=by rfl) (hd:o.dst=some d:=by rfl) (hlt:Nat.blt d nt=true:=by rfl):ARun P N l K (o::r) ⟨tm,st,nx,nt⟩ tr:=r_splitP hg hd hlt (fun _r h=>law_lss ho h) (hT hx (hT hy h0)) k1 k2
theorem x_leqT (k:ARun P N l K r ⟨(d,.bool true)::tm,st,nx,nt⟩ (tr++[trOf l o ⟨[(x,.int kd a),(y,.int kd b)],[]⟩ []])) (ho:o.op = .binOp .leq t x y t':=by rfl) (hx:S.ev ⟨tm,st,nx,nt⟩ x=some (.int kd a):=by rfl) (hy:S.ev ⟨tm,st,nx,nt⟩ y=some (.int kd b):=by rfl) (hg:guardV l o ⟨tm,st,nx,nt⟩=some true:=by rfl) (hd:o.dst=some d:=by rfl) (hlt:Nat.blt d nt=true:=by rfl) (h:a≤b:=by omega):ARun P N l K (o::r) ⟨tm,st,nx,nt⟩ tr:=r_val hg hd hlt (law_leq ho (decide_eq_true h)) (hT hx (hT hy h0)) k
theorem x_leqF (k:ARun P N l K r ⟨(d,.bool false)::tm,st,nx,nt⟩ (tr++[trOf l o ⟨[(x,.int kd a),(y,.int kd b)],[]⟩ []])) (ho:o.op = .binOp .leq t x y t':=by rfl) (hx:S.ev ⟨tm,st,nx,nt⟩ x=some (.int kd a):=by rfl) (hy:S.ev ⟨tm,st,nx,nt⟩ y=some (.int kd b):=by rfl) (hg:guardV l o ⟨tm,st,nx,nt⟩=some true:=by rfl) (hd:o.dst=some d:=by rfl) (hlt:Nat.blt d nt=true:=by rfl) (h:¬ (a≤b):=by omega):ARun P N l K (o::r) ⟨tm,st,nx,nt⟩ tr:=r_val hg hd hlt (law_leq ho (decide_eq_false h)) (hT hx (hT hy h0)) k
theorem x_leq (k1:a≤b→ARun P N l K r ⟨(d,.bool true)::tm,st,nx,nt⟩ (tr++[trOf l o ⟨[(x,.int kd a),(y,.int kd b)],[]⟩ []])) (k2:¬ (a≤b)→ARun P N l K r ⟨(d,.bool false)::tm,st,nx,nt⟩ (tr++[trOf l o ⟨[(x,.int kd a),(y,.int kd b)],[]⟩ []])) (ho:o.op = .binOp .leq t x y t':=by rfl) (hx:S.ev ⟨tm,st,nx,nt⟩ x=some (.int kd a):=by rfl) (hy:S.ev ⟨tm,st,nx,nt⟩ y=some (.int kd b):=by rfl) (hg:guardV l o ⟨tm,st,nx,nt⟩=some true:=by rfl) (hd:o.dst=some d:=by rfl) (hlt:Nat.blt d nt=true:=by rfl):ARun P N l K (o::r) ⟨tm,st,nx,nt⟩ tr:=r_splitP hg hd hlt (fun _r h=>law_leq ho h) (hT hx (hT hy h0)) k1 k2
theorem x_gtrT (k:ARun P N l K r ⟨(d,.bool true)::tm,st,nx,nt⟩ (tr++[trOf l o ⟨[(x,.int kd a),(y,.int kd b)],[]⟩ []])) (ho:o.op = .binOp .gtr t x y t':=by rfl) (hx:S.ev ⟨tm,st,nx,nt⟩ x=some (.int kd a):=by rfl) (hy:S.ev ⟨tm,st,nx,nt⟩ y=some (.int kd b):=by rfl) (hg:guardV l o ⟨tm,st,nx,nt⟩=some true:=by rfl) (hd:o.dst=some d:=by rfl) (hlt:Nat.blt d nt=true:=by rfl) (h:b<a:=by omega):ARun P N l K (o::r) ⟨tm,st,nx,nt⟩ tr:=r_val hg hd hlt (law_gtr ho (decide_eq_true h)) (hT hx (hT hy h0)) k
theorem x_gtrF (k:ARun P N l K r ⟨(d,.bool false)::tm,st,nx,nt⟩ (tr++[trOf l o ⟨[(x,.int kd a),(y,.int kd b)],[]⟩ []])) (ho:o.op = .binOp .gtr t x y t':=by rfl) (hx:S.ev ⟨tm,st,nx,nt⟩ x=some (.int kd a):=by rfl) (hy:S.ev ⟨tm,st,nx,nt⟩ y=some (.int kd b):=by rfl) (hg:guardV l o ⟨tm,st,nx,nt⟩=some true:=by rfl) (hd:o.dst=some d:=by rfl) (hlt:Nat.blt d nt=true:=by rfl) (h:¬ (b<a):=by omega):ARun P N l K (o::r) ⟨tm,st,nx,nt⟩ tr:=r_val hg hd hlt (law_gtr ho (decide_eq_false h)) (hT hx (hT hy h0)) k
theorem x_gtr (k1:b<a→ARun P N l K r ⟨(d,.bool true)::tm,st,nx,nt⟩ (tr++[trOf l o ⟨[(x,.int kd a),(y,.int kd b)],[]⟩ []])) (k2:¬ (b<a)→ARun P N l K r ⟨(d,.bool false)::tm,st,nx,nt⟩ (tr++[trOf l o ⟨[(x,.int kd a),(y,.int kd b)],[]⟩ []])) (ho:o.op = .binOp .gtr t x y t':=by rfl) (hx:S.ev ⟨tm,st,nx,nt⟩ x=some (.int kd a):=by rfl) (hy:S.ev ⟨tm,st,nx,nt⟩ y=some (.int kd b):=by rfl) (hg:guardV l o ⟨tm,st,nx,nt⟩=some true:=by rfl) (hd:o.dst=some d:=by rfl) (hlt:Nat.blt d nt=true:=by rfl):ARun P N l K (o::r) ⟨tm,st,nx,nt⟩ tr:=r_splitP hg hd hlt (fun _r h=>law_gtr ho h) (hT hx (hT hy h0)) k1 k2
theorem x_geqT (k:ARun P N l K r ⟨(d,.bool true)::tm,st,nx,nt⟩ (tr++[trOf l o ⟨[(x,.int kd a),(y,.int kd b)],[]⟩ []])) (ho:o.op = .binOp .geq t x y t':=by rfl) (hx:S.ev ⟨tm,st,nx,nt⟩ x=some (.int kd a):=by rfl) (hy:S.ev ⟨tm,st,nx,nt⟩ y=some (.int kd b):=by rfl) (hg:guardV l o ⟨tm,st,nx,nt⟩=some true:=by rfl) (hd:o.dst=some d:=by rfl) (hlt:Nat.blt d nt=true:=by rfl) (h:b≤a:=by omega):ARun P N l K (o::r) ⟨tm,st,nx,nt⟩ tr:=r_val hg hd hlt (law_geq ho (decide_eq_true h)) (hT hx (hT hy h0)) k
theorem x_geqF (k:ARun P N l K r ⟨(d,.bool false)::tm,st,nx,nt⟩ (tr++[trOf l o ⟨[(x,.int kd a),(y,.int kd b)],[]⟩ []])) (ho:o.op = .binOp .geq t x y t':=by rfl) (hx:S.ev ⟨tm,st,nx,nt⟩ x=some (.int kd a):=by rfl) (hy:S.ev ⟨tm,st,nx,nt⟩ y=some (.int kd b):=by rfl) (hg:guardV l o ⟨tm,st,nx,nt⟩=some true:=by rfl) (hd:o.dst=some d:=by rfl) (hlt:Nat.blt d nt=true:=by rfl) (h:¬ (b≤a):=by omega):ARun P N l K (o::r) ⟨tm,st,nx,nt⟩ tr:=r_val hg hd hlt (law_geq ho (decide_eq_false h)) (hT hx (hT hy h0)) k
theorem x_geq (k1:b≤a→ARun P N l K r ⟨(d,.bool true)::tm,st,nx,nt⟩ (tr++[trOf l o ⟨[(x,.int kd a),(y,.int kd b)],[]⟩ []])) (k2:¬ (b≤a)→ARun P N l K r ⟨(d,.bool false)::tm,st,nx,nt⟩ (tr++[trOf l o ⟨[(x,.int kd a),(y,.int kd b)],[]⟩ []])) (ho:o.op = .binOp .geq t x y t':=by rfl) (hx:S.ev ⟨tm,st,nx,nt⟩ x=some (.int kd a):=by rfl) (hy:S.ev ⟨tm,st,nx,nt⟩ y=some (.int kd b):=by rfl) (hg:guardV l o ⟨tm,st,nx,nt⟩=some true:=by rfl) (hd:o.dst=some d:=by rfl) (hlt:Nat.blt d nt=true:=by rfl):ARun P N l K (o::r) ⟨tm,st,nx,nt⟩ tr:=r_splitP hg hd hlt (fun _r h=>law_geq ho h) (hT hx (hT hy h0)) k1 k2
theorem x_eqlT (k:ARun P N l K r ⟨(d,.bool true)::tm,st,nx,nt⟩ (tr++[trOf l o ⟨[(x,.int kd a),(y,.int kd b)],[]⟩ []])) (ho:o.op = .binOp .eql t x y t':=by rfl) (hx:S.ev ⟨tm,st,nx,nt⟩ x=some (.int kd a):=by rfl) (hy:S.ev ⟨tm,st,nx,nt⟩ y=some (.int kd b):=by rfl) (hg:guardV l o ⟨tm,st,nx,nt⟩=some true:=by rfl) (hd:o.dst=some d:=by rfl) (hlt:Nat.blt d nt=true:=by rfl) (h:a=b:=by omega):ARun P N l K (o::r) ⟨tm,st,nx,nt⟩ tr:=r_val hg hd hlt (law_eql ho (decide_eq_true h)) (hT hx (hT hy h0)) k
theorem x_eqlF (k:ARun P N l K r ⟨(d,.bool false)::tm,st,nx,nt⟩ (tr++[trOf l o ⟨[(x,.int kd a),(y,.int kd b)],[]⟩ []])) (ho:o.op = .binOp .eql t x y t':=by rfl) (hx:S.ev ⟨tm,st,nx,nt⟩ x=some (.int kd a):=by rfl) (hy:S.ev ⟨tm,st,nx,nt⟩ y=some (.int kd b):=by rfl) (hg:guardV l o ⟨tm,st,nx,nt⟩=some true:=by rfl) (hd:o.dst=some d:=by rfl) (hlt:Nat.blt d nt=true:=by rfl) (h:¬ (a=b):=by omega):ARun P N l K (o::r) ⟨tm,st,nx,nt⟩ tr:=r_val hg hd hlt (law_eql ho (decide_eq_false h)) (hT hx (hT hy h0)) k
theorem x_eql (k1:a=b→ARun P N l K r ⟨(d,.bool true)::tm,st,nx,nt⟩ (tr++[trOf l o ⟨[(x,.int kd a),(y,.int kd b)],[]⟩ []])) (k2:¬ (a=b)→ARun P N l K r ⟨(d,.bool false)::tm,st,nx,nt⟩ (tr++[trOf l o ⟨[(x,.int kd a),(y,.int kd b)],[]⟩ []])) (ho:o.op = .binOp .eql t x y t':=by rfl) (hx:S.ev ⟨tm,st,nx,nt⟩ x=some (.int kd a):=by rfl) (hy:S.ev ⟨tm,st,nx,nt⟩ y=some (.int kd b):=by rfl) (hg:guardV l o ⟨tm,st,nx,nt⟩=some true:=by rfl) (hd:o.dst=some d:=by rfl) (hlt:Nat.blt d nt=true:=by rfl):ARun P N l K (o::r) ⟨tm,st,nx,nt⟩ tr:=r_splitP hg hd hlt (fun _r h=>law_eql ho h) (hT hx (hT hy h0)) k1 k2
theorem x_neqT (k:ARun P N l K r ⟨(d,.bool true)::tm,st,nx,nt⟩ (tr++[trOf l o ⟨[(x,.int kd a),(y,.int kd b)],[]⟩ []])) (ho:o.op = .binOp .neq t x y t':=by rfl) (hx:S.ev ⟨tm,st,nx,nt⟩ x=some (.int kd a):=by rfl) (hy:S.ev ⟨tm,st,nx,nt⟩ y=some (.int kd b):=by rfl) (hg:guardV l o ⟨tm,st,nx,nt⟩=some true:=by rfl) (hd:o.dst=some d:=by rfl) (hlt:Nat.blt d nt=true:=by rfl) (h:a≠b:=by omega):ARun P N l K (o::r) ⟨tm,st,nx,nt⟩ tr:=r_val hg hd hlt (law_neq ho (decide_eq_true h)) (hT hx (hT hy h0)) k
theorem x_neqF (k:ARun P N l K r ⟨(d,.bool false)::tm,st,nx,nt⟩ (tr++[trOf l o ⟨[(x,.int kd a),(y,.int kd b)],[]⟩ []])) (ho:o.op = .binOp .neq t x y t':=by rfl) (hx:S.ev ⟨tm,st,nx,nt⟩ x=some (.int kd a):=by rfl) (hy:S.ev ⟨tm,st,nx,nt⟩ y=some (.int kd b):=by rfl) (hg:guardV l o ⟨tm,st,nx,nt⟩=some true:=by rfl) (hd:o.dst=some d:=by rfl) (hlt:Nat.blt d nt=true:=by rfl) (h:¬ (a≠b):=by omega):ARun P N l K (o::r) ⟨tm,st,nx,nt⟩ tr:=r_val hg hd hlt (law_neq ho (decide_eq_false h)) (hT hx (hT hy h0)) k
theorem x_neq (k1:a≠b→ARun P N l K r ⟨(d,.bool true)::tm,st,nx,nt⟩ (tr++[trOf l o ⟨[(x,.int kd a),(y,.int kd b)],[]⟩ []])) (k2:¬ (a≠b)→ARun P N l K r ⟨(d,.bool false)::tm,st,nx,nt⟩ (tr++[trOf l o ⟨[(x,.int kd a),(y,.int kd b)],[]⟩ []])) (ho:o.op = .binOp .neq t x y t':=by rfl) (hx:S.ev ⟨tm,st,nx,nt⟩ x=some (.int kd a):=by rfl) (hy:S.ev ⟨tm,st,nx,nt⟩ y=some (.int kd b):=by rfl) (hg:guardV l o ⟨tm,st,nx,nt⟩=some true:=by rfl) (hd:o.dst=some d:=by rfl) (hlt:Nat.blt d nt=true:=by rfl):ARun P N l K (o::r) ⟨tm,st,nx,nt⟩ tr:=r_splitP hg hd hlt (fun _r h=>law_neq ho h) (hT hx (hT hy h0)) k1 k2
theorem x_eqlST (k:ARun P N l K r ⟨(d,.bool true)::tm,st,nx,nt⟩ (tr++[trOf l o ⟨[(x,strT p),(y,strT q)],[]⟩ []])) (ho:o.op = .binOp .eql t x y t':=by rfl) (hx:S.ev ⟨tm,st,nx,nt⟩ x=some (strT p):=by rfl) (hy:S.ev ⟨tm,st,nx,nt⟩ y=some (strT q):=by rfl) (hg:guardV l o ⟨tm,st,nx,nt⟩=some true:=by rfl) (hd:o.dst=some d:=by rfl) (hlt:Nat.blt d nt=true:=by rfl) (h:p=q:=by first|assumption|exact rfl|exact Eq.symm (by assumption)|exact fun h=>h rfl|exact fun h=>h (by assumption)|exact fun h=>h (Eq.symm (by assumption))|exact fun h=>absurd (Eq.symm h) (by assumption)):ARun P N l K (o::r) ⟨tm,st,nx,nt⟩ tr:=r_val hg hd hlt (law_eql_strL ho (decide_eq_true h)) (hT hx (hT hy h0)) k
theorem x_eqlSF (k:ARun P N l K r ⟨(d,.bool false)::tm,st,nx,nt⟩ (tr++[trOf l o ⟨[(x,strT p),(y,strT q)],[]⟩ []])) (ho:o.op = .binOp .eql t x y t':=by rfl) (hx:S.ev ⟨tm,st,nx,nt⟩ x=some (strT p):=by rfl) (hy:S.ev ⟨tm,st,nx,nt⟩ y=some (strT q):=by rfl) (hg:guardV l o ⟨tm,st,nx,nt⟩=some true:=by rfl) (hd:o.dst=some d:=by rfl) (hlt:Nat.blt d nt=true:=by rfl) (h:¬ (p=q):=by first|assumption|exact rfl|exact Eq.symm (by assumption)|exact fun h=>h rfl|exact fun h=>h (by assumption)|exact fun h=>h (Eq.symm (by assumption))|exact fun h=>absurd (Eq.symm h) (by assumption)):ARun P N l K (o::r) ⟨tm,st,nx,nt⟩ tr:=r_val hg hd hlt (law_eql_strL ho (decide_eq_false h)) (hT hx (hT hy h0)) k
theorem x_eqlS (k1:p=q→ARun P N l K r ⟨(d,.bool true)::tm,st,nx,nt⟩ (tr++[trOf l o ⟨[(x,strT p),(y,strT q)],[]⟩ []])) (k2:¬ (p=q)→ARun P N l K r ⟨(d,.bool false)::tm,st,nx,nt⟩ (tr++[trOf l o ⟨[(x,strT p),(y,strT q)],[]⟩ []])) (ho:o.op = .binOp .eql t x y t':=by rfl) (hx:S.ev ⟨tm,st,nx,nt⟩ x=some (strT p):=by rfl) (hy:S.ev ⟨tm,st,nx,nt⟩ y=some (strT q):=by rfl) (hg:guardV l o ⟨tm,st,nx,nt⟩=some true:=by rfl) (hd:o.dst=some d:=by rfl) (hlt:Nat.blt d nt=true:=by rfl):ARun P N l K (o::r) ⟨tm,st,nx,nt⟩ tr:=r_splitP hg hd hlt (fun _r h=>law_eql_strL ho h) (hT hx (hT hy h0)) k1 k2
theorem x_eqlB {w:Bool} (k:ARun P N l K r ⟨(d,.bool w)::tm,st,nx,nt⟩ (tr++[trOf l o ⟨[(x,.bool u),(y,.bool v)],[]⟩ []])) (ho:o.op = .binOp .eql t x y t':=by rfl) (hx:S.ev ⟨tm,st,nx,nt⟩ x=some (.bool u):=by rfl) (hy:S.ev ⟨tm,st,nx,nt⟩ y=some (.bool v):=by rfl) (hg:guardV l o ⟨tm,st,nx,nt⟩=some true:=by rfl) (hd:o.dst=some d:=by rfl) (hlt:Nat.blt d nt=true:=by rfl) (ht:P.underlying t=some .bool:=by rfl) (h:(u==v)=w:=by first|exact beq_self_eq_true _|rfl):ARun P N l K (o::r) ⟨tm,st,nx,nt⟩ tr:=r_val hg hd hlt (law_eql_bool ho ht h) (hT hx (hT hy h0)) k
theorem x_eqlI {t1:TypeId} {v1:V} (k:ARun P N l K r ⟨(d,.bool false)::tm,st,nx,nt⟩ (tr++[trOf l o ⟨[(x,.ifc t1 v1),(y,.nili)],[]⟩ []])) (ho:o.op = .binOp .eql t x y t':=by rfl) (hx:S.ev ⟨tm,st,nx,nt⟩ x=some (.ifc t1 v1):=by rfl) (hy:S.ev ⟨tm,st,nx,nt⟩ y=some (.nili):=by rfl) (hg:guardV l o ⟨tm,st,nx,nt⟩=some true:=by rfl) (hd:o.dst=some d:=by rfl) (hlt:Nat.blt d nt=true:=by rfl) (ht:P.underlying t=some (.interface (P.methodsAt t)):=by kernel_rfl):ARun P N l K (o::r) ⟨tm,st,nx,nt⟩ tr:=r_val hg hd hlt (law_eql_ifc ho ht) (hT hx (hT hy h0)) k
theorem x_eqlN {c:Value} (k:ARun P N l K r ⟨(d,.bool true)::tm,st,nx,nt⟩ (tr++[trOf l o ⟨[(x,.nili),(.const c,.nili)],[]⟩ []])) (ho:o.op = .binOp .eql t x (.const c) t':=by rfl) (hx:S.ev ⟨tm,st,nx,nt⟩ x=some (.nili):=by rfl) (hy:S.ev ⟨tm,st,nx,nt⟩ (.const c)=some (.nili):=by rfl) (hg:guardV l o ⟨tm,st,nx,nt⟩=some true:=by rfl) (hd:o.dst=some d:=by rfl) (hlt:Nat.blt d nt=true:=by rfl) (ht:P.underlying t=some (.interface (P.methodsAt t)):=by kernel_rfl):ARun P N l K (o::r) ⟨tm,st,nx,nt⟩ tr:=r_val hg hd hlt (law_eql_nili ho ht) (hT hx (hT hy h0)) k
theorem x_neqST (k:ARun P N l K r ⟨(d,.bool true)::tm,st,nx,nt⟩ (tr++[trOf l o ⟨[(x,strT p),(y,strT q)],[]⟩ []])) (ho:o.op = .binOp .neq t x y t':=by rfl) (hx:S.ev ⟨tm,st,nx,nt⟩ x=some (strT p):=by rfl) (hy:S.ev ⟨tm,st,nx,nt⟩ y=some (strT q):=by rfl) (hg:guardV l o ⟨tm,st,nx,nt⟩=some true:=by rfl) (hd:o.dst=some d:=by rfl) (hlt:Nat.blt d nt=true:=by rfl) (h:p≠q:=by first|assumption|exact rfl|exact Eq.symm (by assumption)|exact fun h=>h rfl|exact fun h=>h (by assumption)|exact fun h=>h (Eq.symm (by assumption))|exact fun h=>absurd (Eq.symm h) (by assumption)):ARun P N l K (o::r) ⟨tm,st,nx,nt⟩ tr:=r_val hg hd hlt (law_neq_strL ho (decide_eq_true h)) (hT hx (hT hy h0)) k
theorem x_neqSF (k:ARun P N l K r ⟨(d,.bool false)::tm,st,nx,nt⟩ (tr++[trOf l o ⟨[(x,strT p),(y,strT q)],[]⟩ []])) (ho:o.op = .binOp .neq t x y t':=by rfl) (hx:S.ev ⟨tm,st,nx,nt⟩ x=some (strT p):=by rfl) (hy:S.ev ⟨tm,st,nx,nt⟩ y=some (strT q):=by rfl) (hg:guardV l o ⟨tm,st,nx,nt⟩=some true:=by rfl) (hd:o.dst=some d:=by rfl) (hlt:Nat.blt d nt=true:=by rfl) (h:¬ (p≠q):=by first|assumption|exact rfl|exact Eq.symm (by assumption)|exact fun h=>h rfl|exact fun h=>h (by assumption)|exact fun h=>h (Eq.symm (by assumption))|exact fun h=>absurd (Eq.symm h) (by assumption)):ARun P N l K (o::r) ⟨tm,st,nx,nt⟩ tr:=r_val hg hd hlt (law_neq_strL ho (decide_eq_false h)) (hT hx (hT hy h0)) k
theorem x_neqS (k1:p≠q→ARun P N l K r ⟨(d,.bool true)::tm,st,nx,nt⟩ (tr++[trOf l o ⟨[(x,strT p),(y,strT q)],[]⟩ []])) (k2:¬ (p≠q)→ARun P N l K r ⟨(d,.bool false)::tm,st,nx,nt⟩ (tr++[trOf l o ⟨[(x,strT p),(y,strT q)],[]⟩ []])) (ho:o.op = .binOp .neq t x y t':=by rfl) (hx:S.ev ⟨tm,st,nx,nt⟩ x=some (strT p):=by rfl) (hy:S.ev ⟨tm,st,nx,nt⟩ y=some (strT q):=by rfl) (hg:guardV l o ⟨tm,st,nx,nt⟩=some true:=by rfl) (hd:o.dst=some d:=by rfl) (hlt:Nat.blt d nt=true:=by rfl):ARun P N l K (o::r) ⟨tm,st,nx,nt⟩ tr:=r_splitP hg hd hlt (fun _r h=>law_neq_strL ho h) (hT hx (hT hy h0)) k1 k2
theorem x_neqI {t1:TypeId} {v1:V} (k:ARun P N l K r ⟨(d,.bool true)::tm,st,nx,nt⟩ (tr++[trOf l o ⟨[(x,.ifc t1 v1),(y,.nili)],[]⟩ []])) (ho:o.op = .binOp .neq t x y t':=by rfl) (hx:S.ev ⟨tm,st,nx,nt⟩ x=some (.ifc t1 v1):=by rfl) (hy:S.ev ⟨tm,st,nx,nt⟩ y=some (.nili):=by rfl) (hg:guardV l o ⟨tm,st,nx,nt⟩=some true:=by rfl) (hd:o.dst=some d:=by rfl) (hlt:Nat.blt d nt=true:=by rfl) (ht:P.underlying t=some (.interface (P.methodsAt t)):=by kernel_rfl):ARun P N l K (o::r) ⟨tm,st,nx,nt⟩ tr:=r_val hg hd hlt (law_neq_ifc ho ht) (hT hx (hT hy h0)) k
theorem x_neqN {c:Value} (k:ARun P N l K r ⟨(d,.bool false)::tm,st,nx,nt⟩ (tr++[trOf l o ⟨[(x,.nili),(.const c,.nili)],[]⟩ []])) (ho:o.op = .binOp .neq t x (.const c) t':=by rfl) (hx:S.ev ⟨tm,st,nx,nt⟩ x=some (.nili):=by rfl) (hy:S.ev ⟨tm,st,nx,nt⟩ (.const c)=some (.nili):=by rfl) (hg:guardV l o ⟨tm,st,nx,nt⟩=some true:=by rfl) (hd:o.dst=some d:=by rfl) (hlt:Nat.blt d nt=true:=by rfl) (ht:P.underlying t=some (.interface (P.methodsAt t)):=by kernel_rfl):ARun P N l K (o::r) ⟨tm,st,nx,nt⟩ tr:=r_val hg hd hlt (law_neq_nili ho ht) (hT hx (hT hy h0)) k
theorem x_cat (k:ARun P N l K r ⟨(d,strT (p++q))::tm,st,nx,nt⟩ (tr++[trOf l o ⟨[(x,strT p),(y,strT q)],[]⟩ []])) (ho:o.op = .binOp .add t x y t':=by rfl) (hx:S.ev ⟨tm,st,nx,nt⟩ x=some (strT p):=by rfl) (hy:S.ev ⟨tm,st,nx,nt⟩ y=some (strT q):=by rfl) (hg:guardV l o ⟨tm,st,nx,nt⟩=some true:=by rfl) (hd:o.dst=some d:=by rfl) (hlt:Nat.blt d nt=true:=by rfl) (h:p.length+q.length≤SLIM:=by simp only [SLIM,List.length_append,List.length_cons,List.length_nil] at *;omega):ARun P N l K (o::r) ⟨tm,st,nx,nt⟩ tr:=r_val hg hd hlt (law_cat_L ho h) (hT hx (hT hy h0)) k
theorem x_lenS  (k:ARun P N l K r ⟨(d,.int .i64 p.length)::tm,st,nx,nt⟩ (tr++[trOf l o ⟨[(x,strT p)],[]⟩ []])) (ho:o.op = .call { callee:=.builtin .len,args := #[x],argTypes := #[t] }:=by rfl) (hx:S.ev ⟨tm,st,nx,nt⟩ x=some (strT p):=by rfl) (hg:guardV l o ⟨tm,st,nx,nt⟩=some true:=by rfl) (hd:o.dst=some d:=by rfl) (hlt:Nat.blt d nt=true:=by rfl) (ht:P.underlying t=some .string:=by rfl):ARun P N l K (o::r) ⟨tm,st,nx,nt⟩ tr:=r_val hg hd hlt (law_len_strL ho ht) (hT hx h0) k
theorem x_lenF {xs:List V} {el:Nat} (htb:TbOk P tb) (k:ARun P N l K r ⟨(d,.int .i64 xs.length)::tm,st,nx,nt⟩ (tr++[trOf l o ⟨[(x,.fro xs)],[]⟩ []])) (ho:o.op = .call { callee:=.builtin .len,args := #[x],argTypes := #[t] }:=by rfl) (hx:S.ev ⟨tm,st,nx,nt⟩ x=some (.fro xs):=by rfl) (hg:guardV l o ⟨tm,st,nx,nt⟩=some true:=by rfl) (hd:o.dst=some d:=by rfl) (hlt:Nat.blt d nt=true:=by rfl) (hT':nth tb t=some e:=by rfl) (hs:e.sl=some el:=by rfl):ARun P N l K (o::r) ⟨tm,st,nx,nt⟩ tr:=r_val hg hd hlt (law_len_fro htb ho hT' hs) (hT hx h0) k
theorem x_lenO {m i0 m1 el:Nat} (htb:TbOk P tb) (k:ARun P N l K r ⟨(d,.int .i64 m1)::tm,st,nx,nt⟩ (tr++[trOf l o ⟨[(x,.own m i0 m1)],[]⟩ []])) (ho:o.op = .call { callee:=.builtin .len,args := #[x],argTypes := #[t] }:=by rfl) (hx:S.ev ⟨tm,st,nx,nt⟩ x=some (.own m i0 m1):=by rfl) (hg:guardV l o ⟨tm,st,nx,nt⟩=some true:=by rfl) (hd:o.dst=some d:=by rfl) (hlt:Nat.blt d nt=true:=by rfl) (hT':nth tb t=some e:=by rfl) (hs:e.sl=some el:=by rfl):ARun P N l K (o::r) ⟨tm,st,nx,nt⟩ tr:=r_val hg hd hlt (law_len_own htb ho hT' hs) (hT hx h0) k
theorem x_lenN {el:Nat} (htb:TbOk P tb) (k:ARun P N l K r ⟨(d,.int .i64 0)::tm,st,nx,nt⟩ (tr++[trOf l o ⟨[(x,.nils)],[]⟩ []])) (ho:o.op = .call { callee:=.builtin .len,args := #[x],argTypes := #[t] }:=by rfl) (hx:S.ev ⟨tm,st,nx,nt⟩ x=some (.nils):=by rfl) (hg:guardV l o ⟨tm,st,nx,nt⟩=some true:=by rfl) (hd:o.dst=some d:=by rfl) (hlt:Nat.blt d nt=true:=by rfl) (hT':nth tb t=some e:=by rfl) (hs:e.sl=some el:=by rfl):ARun P N l K (o::r) ⟨tm,st,nx,nt⟩ tr:=r_val hg hd hlt (law_len_nils htb ho hT' hs) (hT hx h0) k
theorem x_ixS {c:UInt8} (htb:TbOk P tb) (k:ARun P N l K r ⟨(d,byteT c)::tm,st,nx,nt⟩ (tr++[trOf l o ⟨[(x,strT p),(y,.int kd a)],[]⟩ []])) (ho:o.op = .index T x y:=by rfl) (hx:S.ev ⟨tm,st,nx,nt⟩ x=some (strT p):=by rfl) (hy:S.ev ⟨tm,st,nx,nt⟩ y=some (.int kd a):=by rfl) (hg:guardV l o ⟨tm,st,nx,nt⟩=some true:=by rfl) (hd:o.dst=some d:=by rfl) (hlt:Nat.blt d nt=true:=by rfl) (hT':nth tb T=some e:=by rfl) (hk:e.knd=2:=by rfl) (h0':0≤a:=by omega) (hv:p[a.toNat]? = some c:=by first|assumption|exact rfl):ARun P N l K (o::r) ⟨tm,st,nx,nt⟩ tr:=r_val hg hd hlt (law_index_strL htb ho hT' hk h0' hv) (hT hx (hT hy h0)) k
theorem x_iaF {xs:List V} {w:V} {el:Nat} (htb:TbOk P tb) (k:ARun P N l K r ⟨(d,.fp w.cells 0)::tm,st,nx,nt⟩ (tr++[trOf l o ⟨[(x,.fro xs),(y,.int kd a)],[]⟩ []])) (ho:o.op = .indexAddr T x y:=by rfl) (hx:S.ev ⟨tm,st,nx,nt⟩ x=some (.fro xs):=by rfl) (hy:S.ev ⟨tm,st,nx,nt⟩ y=some (.int kd a):=by rfl) (hg:guardV l o ⟨tm,st,nx,nt⟩=some true:=by rfl) (hd:o.dst=some d:=by rfl) (hlt:Nat.blt d nt=true:=by rfl) (hT':nth tb T=some e:=by rfl) (hs:e.sl=some el:=by rfl) (hE:nth tb el=some ee:=by rfl) (h0':0≤a:=by omega) (hv:xs[a.toNat]? = some w:=by first|assumption|exact rfl) (hz:w.cells.length=ee.size:=by rfl):ARun P N l K (o::r) ⟨tm,st,nx,nt⟩ tr:=r_val hg hd hlt (law_indexAddr htb ho hT' hs hE h0' hv hz) (hT hx (hT hy h0)) k
theorem x_iaO {m i0 m1 el T1:Nat} {xs:List V} (htb:TbOk P tb) (k:ARun P N l K r ⟨(d,.loc m (i0+a.toNat) 0)::tm,st,nx,nt⟩ (tr++[trOf l o ⟨[(x,.own m i0 m1),(y,.int kd a)],[(m,.els T1 ee.size xs)]⟩ []])) (ho:o.op = .indexAddr T x y:=by rfl) (hx:S.ev ⟨tm,st,nx,nt⟩ x=some (.own m i0 m1):=by rfl) (hy:S.ev ⟨tm,st,nx,nt⟩ y=some (.int kd a):=by rfl) (hg:guardV l o ⟨tm,st,nx,nt⟩=some true:=by rfl) (hd:o.dst=some d:=by rfl) (hlt:Nat.blt d nt=true:=by rfl) (hT':nth tb T=some e:=by rfl) (hs:e.sl=some el:=by rfl) (hE:nth tb el=some ee:=by rfl) (h0':0≤a:=by omega) (hB:S.blk ⟨tm,st,nx,nt⟩ m=some (.els T1 ee.size xs):=by rfl) (h1:a<m1:=by omega):ARun P N l K (o::r) ⟨tm,st,nx,nt⟩ tr:=r_val hg hd hlt (law_indexAddr_own htb ho hT' hs hE h0' h1) (hT hx (hT hy (hN hB h0))) k
theorem x_iaA {m i0 off len el:Nat} (htb:TbOk P tb) (k:ARun P N l K r ⟨(d,.loc m i0 (off+a.toNat*ee.size))::tm,st,nx,nt⟩ (tr++[trOf l o ⟨[(x,.loc m i0 off),(y,.int kd a)],[]⟩ []])) (ho:o.op = .indexAddr T x y:=by rfl) (hx:S.ev ⟨tm,st,nx,nt⟩ x=some (.loc m i0 off):=by rfl) (hy:S.ev ⟨tm,st,nx,nt⟩ y=some (.int kd a):=by rfl) (hg:guardV l o ⟨tm,st,nx,nt⟩=some true:=by rfl) (hd:o.dst=some d:=by rfl) (hlt:Nat.blt d nt=true:=by rfl) (hT':nth tb T=some e:=by rfl) (hs:e.arr=some (len,el):=by rfl) (hE:nth tb el=some ee:=by rfl) (h0':0≤a:=by omega) (h1:a<len:=by omega):ARun P N l K (o::r) ⟨tm,st,nx,nt⟩ tr:=r_val hg hd hlt (law_indexAddr_arr htb ho hT' hs hE h0' h1) (hT hx (hT hy h0)) k
theorem x_iaAF {cs:List V} {off len el:Nat} (htb:TbOk P tb) (k:ARun P N l K r ⟨(d,.fp cs (off+a.toNat*ee.size))::tm,st,nx,nt⟩ (tr++[trOf l o ⟨[(x,.fp cs off),(y,.int kd a)],[]⟩ []])) (ho:o.op = .indexAddr T x y:=by rfl) (hx:S.ev ⟨tm,st,nx,nt⟩ x=some (.fp cs off):=by rfl) (hy:S.ev ⟨tm,st,nx,nt⟩ y=some (.int kd a):=by rfl) (hg:guardV l o ⟨tm,st,nx,nt⟩=some true:=by rfl) (hd:o.dst=some d:=by rfl) (hlt:Nat.blt d nt=true:=by rfl) (hT':nth tb T=some e:=by rfl) (hs:e.arr=some (len,el):=by rfl) (hE:nth tb el=some ee:=by rfl) (h0':0≤a:=by omega) (h1:a<len:=by omega):ARun P N l K (o::r) ⟨tm,st,nx,nt⟩ tr:=r_val hg hd hlt (law_indexAddr_arr_fp htb ho hT' hs hE h0' h1) (hT hx (hT hy h0)) k
theorem x_ixA {vs:List V} {w:V} {len el:Nat} (htb:TbOk P tb) (k:ARun P N l K r ⟨(d,w)::tm,st,nx,nt⟩ (tr++[trOf l o ⟨[(x,.agg vs),(y,.int kd a)],[]⟩ []])) (ho:o.op = .index T x y:=by rfl) (hx:S.ev ⟨tm,st,nx,nt⟩ x=some (.agg vs):=by rfl) (hy:S.ev ⟨tm,st,nx,nt⟩ y=some (.int kd a):=by rfl) (hg:guardV l o ⟨tm,st,nx,nt⟩=some true:=by rfl) (hd:o.dst=some d:=by rfl) (hlt:Nat.blt d nt=true:=by rfl) (hT':nth tb T=some e:=by rfl) (hs:e.arr=some (len,el):=by rfl) (hE:nth tb el=some ee:=by rfl) (h0':0≤a:=by omega) (h1:a<len:=by omega) (hv:subV vs (a.toNat*ee.size) ee.agg ee.size=some w:=by rfl):ARun P N l K (o::r) ⟨tm,st,nx,nt⟩ tr:=r_val hg hd hlt (law_index_arr htb ho hT' hs hE h0' h1 hv) (hT hx (hT hy h0)) k
theorem x_slSf (htb:TbOk P tb) (k:ARun P N l K r ⟨(d,strT (p.drop a.toNat))::tm,st,nx,nt⟩ (tr++[trOf l o ⟨[(x,strT p),(y,.int kd a)],[]⟩ []])) (ho:o.op = .slice T x (some y) none none:=by rfl) (hx:S.ev ⟨tm,st,nx,nt⟩ x=some (strT p):=by rfl) (hy:S.ev ⟨tm,st,nx,nt⟩ y=some (.int kd a):=by rfl) (hg:guardV l o ⟨tm,st,nx,nt⟩=some true:=by rfl) (hd:o.dst=some d:=by rfl) (hlt:Nat.blt d nt=true:=by rfl) (hT':nth tb T=some e:=by rfl) (hk:e.knd=2:=by rfl) (h0':0≤a:=by omega) (h1:a≤p.length:=by omega):ARun P N l K (o::r) ⟨tm,st,nx,nt⟩ tr:=r_val hg hd hlt (law_slice_strL_from htb ho hT' hk h0' h1) (hT hx (hT hy h0)) k
theorem x_slSt (htb:TbOk P tb) (k:ARun P N l K r ⟨(d,strT (p.take a.toNat))::tm,st,nx,nt⟩ (tr++[trOf l o ⟨[(x,strT p),(y,.int kd a)],[]⟩ []])) (ho:o.op = .slice T x none (some y) none:=by rfl) (hx:S.ev ⟨tm,st,nx,nt⟩ x=some (strT p):=by rfl) (hy:S.ev ⟨tm,st,nx,nt⟩ y=some (.int kd a):=by rfl) (hg:guardV l o ⟨tm,st,nx,nt⟩=some true:=by rfl) (hd:o.dst=some d:=by rfl) (hlt:Nat.blt d nt=true:=by rfl) (hT':nth tb T=some e:=by rfl) (hk:e.knd=2:=by rfl) (h0':0≤a:=by omega) (h1:a≤p.length:=by omega):ARun P N l K (o::r) ⟨tm,st,nx,nt⟩ tr:=r_val hg hd hlt (law_slice_strL_to htb ho hT' hk h0' h1) (hT hx (hT hy h0)) k
theorem x_bytes {e':Ty} {el:Nat} (htb:TbOk P tb) (k:ARun P N l K r ⟨(d,.fro (p.map byteT))::tm,st,nx,nt⟩ (tr++[trOf l o ⟨[(x,strT p)],[]⟩ []])) (ho:o.op = .convert t t' x:=by rfl) (hx:S.ev ⟨tm,st,nx,nt⟩ x=some (strT p):=by rfl) (hg:guardV l o ⟨tm,st,nx,nt⟩=some true:=by rfl) (hd:o.dst=some d:=by rfl) (hlt:Nat.blt d nt=true:=by rfl) (hS:nth tb t=some e:=by rfl) (hD:nth tb t'=some e':=by rfl) (hk:Nat.beq e.knd 2=true:=by rfl) (hs:e'.sl=some el:=by rfl) (hE:nth tb el=some ee:=by rfl) (he:Nat.beq ee.knd 24=true:=by rfl) (h:p.length≤LIM:=by first|omega|(simp only [LIM] at *;omega)):ARun P N l K (o::r) ⟨tm,st,nx,nt⟩ tr:=r_val hg hd hlt (law_bytesL htb ho hS hD hk hs hE he h) (hT hx h0) k
theorem x_cv64 {e':Ty} (htb:TbOk P tb) (k:ARun P N l K r ⟨(d,.int .i64 a)::tm,st,nx,nt⟩ (tr++[trOf l o ⟨[(x,.int kd a)],[]⟩ []])) (ho:o.op = .convert t t' x:=by rfl) (hx:S.ev ⟨tm,st,nx,nt⟩ x=some (.int kd a):=by rfl) (hg:guardV l o ⟨tm,st,nx,nt⟩=some true:=by rfl) (hd:o.dst=some d:=by rfl) (hlt:Nat.blt d nt=true:=by rfl) (hS:nth tb t=some e:=by rfl) (hD:nth tb t'=some e':=by rfl) (hk:Nat.beq e'.knd (kcode .i64)=true:=by rfl) (h : -9223372036854775808≤a∧a≤9223372036854775807:=by omega):ARun P N l K (o::r) ⟨tm,st,nx,nt⟩ tr:=r_val hg hd hlt (law_convert htb ho hS hD hk (wrap64 h.1 h.2)) (hT hx h0) k
theorem x_cv {e':Ty} (k2:IntKind) (htb:TbOk P tb) (k:ARun P N l K r ⟨(d,.int k2 b)::tm,st,nx,nt⟩ (tr++[trOf l o ⟨[(x,.int kd a)],[]⟩ []])) (ho:o.op = .convert t t' x:=by rfl) (hx:S.ev ⟨tm,st,nx,nt⟩ x=some (.int kd a):=by rfl) (hg:guardV l o ⟨tm,st,nx,nt⟩=some true:=by rfl) (hd:o.dst=some d:=by rfl) (hlt:Nat.blt d nt=true:=by rfl) (hS:nth tb t=some e:=by rfl) (hD:nth tb t'=some e':=by rfl) (hk:Nat.beq e'.knd (kcode k2)=true:=by rfl) (h:k2.wrap a=b:=by first|assumption|rfl):ARun P N l K (o::r) ⟨tm,st,nx,nt⟩ tr:=r_val hg hd hlt (law_convert htb ho hS hD hk h) (hT hx h0) k
theorem x_bs {ps:Array (Nat × Operand)} {vs:List V} {len el sz:Nat} {z0:V} (htb:TbOk P tb) (k:ARun P N l K r ⟨(d,.fro vs)::tm,st,nx,nt⟩ (tr++[trOf l o ⟨(ps.toList.map (·.2)).zip vs,[]⟩ []])) (ho:o.op = .buildSlice T len ps:=by rfl) (hvs:evL ⟨tm,st,nx,nt⟩ (ps.toList.map (·.2))=some vs:=by rfl) (hg:guardV l o ⟨tm,st,nx,nt⟩=some true:=by rfl) (hd:o.dst=some d:=by rfl) (hlt:Nat.blt d nt=true:=by rfl) (hl:Nat.beq vs.length ps.size=true:=by rfl) (hT':nth tb T=some e:=by rfl) (hs:e.sl=some el:=by rfl) (hE:nth tb el=some ee:=by rfl) (hz:ee.zeroV=some z0:=by rfl) (hsz:ee.size=sz:=by rfl) (hzl:z0.cells.length=sz:=by rfl) (h0':Nat.ble 1 sz=true:=by rfl) (hbig:Nat.ble (len*sz) 16777216=true:=by rfl) (hvl:Nat.beq vs.length len=true:=by rfl) (h1:(vs.all fun v=>v.cells.all V.one&&Nat.beq v.cells.length sz)=true:=by rfl) (hn:V.namesL vs=[]:=by rfl) (hf:fillV (fun i=>some (i*sz,sz)) (flat (List.replicate len z0)) (zipP ps.toList vs)=some (flat vs):=by rfl):ARun P N l K (o::r) ⟨tm,st,nx,nt⟩ tr:=r_val hg hd hlt (law_buildSlice htb ho hl hT' hs hE hz hsz hzl h0' hbig hvl h1 hn hf) (holdsL (evL_at hvs).2) k
theorem x_bsO {ps:Array (Nat × Operand)} {vs:List V} {len el sz:Nat} {z0:V} (d:Nat) (htb:TbOk P tb) (k:ARun P N l K r ⟨(d,.own nx 0 len)::tm,(nx,some (.els el sz vs))::st,nx+1,nt⟩ (tr++[trOf l o ⟨(ps.toList.map (·.2)).zip vs,[]⟩ [(nx,some (.els el sz vs))]])) (ho:o.op = .buildSlice T len ps:=by rfl) (hvs:evL ⟨tm,st,nx,nt⟩ (ps.toList.map (·.2))=some vs:=by rfl) (hg:guardV l o ⟨tm,st,nx,nt⟩=some true:=by rfl) (hd:o.dst=some d:=by rfl) (hlt:Nat.blt d nt=true:=by rfl) (hl:Nat.beq vs.length ps.size=true:=by rfl) (hT':nth tb T=some e:=by rfl) (hs:e.sl=some el:=by rfl) (hE:nth tb el=some ee:=by rfl) (hz:ee.zeroV=some z0:=by rfl) (hsz:ee.size=sz:=by rfl) (hzl:z0.cells.length=sz:=by rfl) (h0':Nat.ble 1 sz=true:=by rfl) (hbig:Nat.ble (len*sz) 16777216=true:=by rfl) (hvl:Nat.beq vs.length len=true:=by rfl) (h1:(vs.all fun v=>v.cells.all V.one&&Nat.beq v.cells.length sz)=true:=by rfl) (hf:fillV (fun i=>some (i*sz,sz)) (flat (List.replicate len z0)) (zipP ps.toList vs)=some (flat vs):=by rfl):ARun P N l K (o::r) ⟨tm,st,nx,nt⟩ tr:=r_new rfl hg hd hlt (law_buildSlice_own htb ho hl hT' hs hE hz hsz hzl h0' hbig hvl h1 hf) (holdsL (evL_at hvs).2) k
theorem x_app {α:Type} (f:α→V) {L:List α} {a1:α} {m el sz:Nat} {z0:V} (htb:TbOk P tb) (k:ARun P N l K r ⟨(d,.own nx 0 (L++[a1]).length)::tm,(m,none)::(nx,some (.els el sz ((L++[a1]).map f)))::st,nx+1,nt⟩ (tr++[trOf l o ⟨[(x,.own m 0 L.length),(y,.fro [f a1])],[(m,.els el sz (L.map f))]⟩ [(m,none),(nx,some (.els el sz ((L++[a1]).map f)))]])) (ho:o.op = .call { callee:=.builtin .append,args := #[x,y],argTypes := #[T,T] }:=by rfl) (hx:S.ev ⟨tm,st,nx,nt⟩ x=some (.own m 0 L.length):=by rfl) (hy:S.ev ⟨tm,st,nx,nt⟩ y=some (.fro [f a1]):=by rfl) (hg:guardV l o ⟨tm,st,nx,nt⟩=some true:=by rfl) (hd:o.dst=some d:=by rfl) (hlt:Nat.blt d nt=true:=by rfl) (hB:S.blk ⟨tm,st,nx,nt⟩ m=some (.els el sz (L.map f)):=by rfl) (hT':nth tb T=some e:=by rfl) (hs:e.sl=some el:=by rfl) (hE:nth tb el=some ee:=by rfl) (hz:ee.zeroV=some z0:=by rfl) (hsz:ee.size=sz:=by rfl) (hzl:z0.cells.length=sz:=by rfl) (hf:∀ a,(f a).cells.length=sz∧((f a).cells.all V.one)=true:=by exact fun _=>⟨rfl,rfl⟩) (hlim:L.length+1≤LIM:=by simp only [LIM];omega) (hby:(L.length+1)*ee.bytes≤140737488355328:=by show _*(_:Nat)≤_;simp;omega):ARun P N l K (o::r) ⟨tm,st,nx,nt⟩ tr:=r_turn rfl hg hd hlt (law_append1 (f:=f) (fun a=>⟨(hf a).1,List.all_eq_true.1 (hf a).2⟩) htb ho hT' hs hE hz hsz hzl hlim hby) (hT hx (hT hy (hN hB h0))) k
theorem ts_of {s:S} {ns:List (Nat × Blk)}:∀ {xs:List Operand} {vs:List V},evL s xs=some vs→(∀ p∈ns,s.blk p.1=some p.2)→Holds ⟨tsOf xs vs,ns⟩ s
 | [],vs,h,k=>by rw [evL] at h;cases h;exact ⟨fun p hp=>by simp [tsOf] at hp,k⟩
 | x::r,vs,h,k=>by
  rw [evL] at h
  split at h<;>cases h
  rename_i v q hv hq
  exact hT hv (ts_of hq k)
theorem ev_len {s:S} {xs:Array Operand} {vs:List V} (h:evL s xs.toList=some vs):vs.length=xs.size:=by simpa using (evL_at h).1
def rowsO (s:S):List Nat→Option (List (Nat × Blk))
 | []=>some []
 | n::r=>match s.blk n,rowsO s r with
  | some b,some q=>some ((n,b)::q)
  | _,_=>none
theorem rowsO_at {s:S}:∀ {l:List Nat} {q:List (Nat × Blk)},rowsO s l=some q→∀ p∈q,s.blk p.1=some p.2
 | [],q,h=>by rw [rowsO] at h;cases h;exact fun p hp=>by cases hp
 | n::r,q,h=>by
  rw [rowsO] at h
  split at h<;>cases h
  rename_i b q hb hq
  intro p hp
  rcases List.mem_cons.1 hp with rfl|hp
  ·exact hb
  ·exact rowsO_at hq p hp
theorem map_nl {α:Type} {L:List α} {f:α→V × V} (h:∀ a,(f a).2.names=[]):∀ p∈L.map f,p.2.names=[]:=fun x hx=>by
 obtain ⟨a,_,rfl⟩:=List.mem_map.1 hx
 exact h a
theorem frz_row {α:Type} {L:List α} {f:α→V} (h:∀ a,(f a).names=[]):∀ x∈L.map f,x.names=[]:=fun x hx=>by
 obtain ⟨a,_,rfl⟩:=List.mem_map.1 hx
 exact h a
theorem x_call {f:Nat} {xs:Array Operand} {ts:Array TypeId} {vs:List V} {w:V} (h:ACallsG P N.g f vs w) (k:ARun P N l K r ⟨(d,w)::tm,st,nx,nt⟩ (tr++[trOf l o ⟨tsOf xs.toList vs,[]⟩ []])) (ho:o.op = .call { callee:=.value (.func f),args:=xs,argTypes:=ts }:=by rfl) (he:evL ⟨tm,st,nx,nt⟩ xs.toList=some vs:=by rfl) (hg:guardV l o ⟨tm,st,nx,nt⟩=some true:=by rfl) (hd:o.dst=some d:=by rfl) (hlt:Nat.blt d nt=true:=by rfl) (hb:hasBody P f=true:=by kernel_rfl) (hn:V.namesL vs=[]:=by rfl):ARun P N l K (o::r) ⟨tm,st,nx,nt⟩ tr:=r_val hg hd hlt (law_call ho (enters hb) (ev_len he) h hn) (ts_of he fun p hp=>by cases hp) k
theorem x_callS {f:Nat} {xs:Array Operand} {ts:Array TypeId} {vs:List V}  (h:ACallsG P N.g f vs (.bool v)) (k1:v=true→ARun P N l K r ⟨(d,.bool true)::tm,st,nx,nt⟩ (tr++[trOf l o ⟨tsOf xs.toList vs,[]⟩ []])) (k2:v=false→ARun P N l K r ⟨(d,.bool false)::tm,st,nx,nt⟩ (tr++[trOf l o ⟨tsOf xs.toList vs,[]⟩ []])) (ho:o.op = .call { callee:=.value (.func f),args:=xs,argTypes:=ts }:=by rfl) (he:evL ⟨tm,st,nx,nt⟩ xs.toList=some vs:=by rfl) (hg:guardV l o ⟨tm,st,nx,nt⟩=some true:=by rfl) (hd:o.dst=some d:=by rfl) (hlt:Nat.blt d nt=true:=by rfl) (hb:hasBody P f=true:=by kernel_rfl) (hn:V.namesL vs=[]:=by rfl):ARun P N l K (o::r) ⟨tm,st,nx,nt⟩ tr:=r_splitB hg hd hlt (law_call ho (enters hb) (ev_len he) h hn) (ts_of he fun p hp=>by cases hp) k1 k2
theorem x_callz {f:Nat} {xs:Array Operand} {ts:Array TypeId} {vs us:List V} {w:V} {ns:List (Nat × Blk)} (names:List Nat) (h:ACallsG P N.g f us w) (k:ARun P N l K r ⟨(d,w)::tm,st,nx,nt⟩ (tr++[trOf l o ⟨tsOf xs.toList vs,ns⟩ []])) (ho:o.op = .call { callee:=.value (.func f),args:=xs,argTypes:=ts }:=by rfl) (he:evL ⟨tm,st,nx,nt⟩ xs.toList=some vs:=by rfl) (hg:guardV l o ⟨tm,st,nx,nt⟩=some true:=by rfl) (hd:o.dst=some d:=by rfl) (hlt:Nat.blt d nt=true:=by rfl) (hb:hasBody P f=true:=by kernel_rfl) (hr:rowsO ⟨tm,st,nx,nt⟩ names=some ns:=by rfl) (hf:frzL (lk ns) vs=some us:=by rfl) (hok:FrzOkL (lk ns) vs:=by repeat' first|exact trivial|exact rfl|exact frz_map (fun _=>rfl)|exact frz_row (fun _=>rfl)|(intro u hu;obtain rfl:=List.mem_singleton.1 hu;exact rfl)|constructor) (hp:plainR w=true:=by rfl):ARun P N l K (o::r) ⟨tm,st,nx,nt⟩ tr:=r_val hg hd hlt (law_call_frz ns ho (enters hb) (ev_len he) hf hok h hp) (ts_of he (rowsO_at hr)) k
theorem x_callzS {f:Nat} {xs:Array Operand} {ts:Array TypeId} {vs us:List V}  {ns:List (Nat × Blk)} (names:List Nat) (h:ACallsG P N.g f us (.bool v)) (k1:v=true→ARun P N l K r ⟨(d,.bool true)::tm,st,nx,nt⟩ (tr++[trOf l o ⟨tsOf xs.toList vs,ns⟩ []])) (k2:v=false→ARun P N l K r ⟨(d,.bool false)::tm,st,nx,nt⟩ (tr++[trOf l o ⟨tsOf xs.toList vs,ns⟩ []])) (ho:o.op = .call { callee:=.value (.func f),args:=xs,argTypes:=ts }:=by rfl) (he:evL ⟨tm,st,nx,nt⟩ xs.toList=some vs:=by rfl) (hg:guardV l o ⟨tm,st,nx,nt⟩=some true:=by rfl) (hd:o.dst=some d:=by rfl) (hlt:Nat.blt d nt=true:=by rfl) (hb:hasBody P f=true:=by kernel_rfl) (hr:rowsO ⟨tm,st,nx,nt⟩ names=some ns:=by rfl) (hf:frzL (lk ns) vs=some us:=by rfl) (hok:FrzOkL (lk ns) vs:=by repeat' first|exact trivial|exact rfl|exact frz_map (fun _=>rfl)|exact frz_row (fun _=>rfl)|(intro u hu;obtain rfl:=List.mem_singleton.1 hu;exact rfl)|constructor) (hp:plainR (.bool v)=true:=by rfl):ARun P N l K (o::r) ⟨tm,st,nx,nt⟩ tr:=r_splitB hg hd hlt (law_call_frz ns ho (enters hb) (ev_len he) hf hok h hp) (ts_of he (rowsO_at hr)) k1 k2
theorem x_callv {f:Nat} {g:Operand} {xs:Array Operand} {ts:Array TypeId} {vs fs bs ws:List V} {w:V} (h:ACallsG P N.g f ws w) (k:ARun P N l K r ⟨(d,w)::tm,st,nx,nt⟩ (tr++[trOf l o ⟨(g,.fn (.func f) fs bs)::tsOf xs.toList vs,[]⟩ []])) (ho:o.op = .call { callee:=.value g,args:=xs,argTypes:=ts }:=by rfl) (hf:S.ev ⟨tm,st,nx,nt⟩ g=some (.fn (.func f) fs bs):=by rfl) (he:evL ⟨tm,st,nx,nt⟩ xs.toList=some vs:=by rfl) (hw:fs++vs++bs=ws:=by rfl) (hg:guardV l o ⟨tm,st,nx,nt⟩=some true:=by rfl) (hd:o.dst=some d:=by rfl) (hlt:Nat.blt d nt=true:=by rfl) (hb:hasBody P f=true:=by first|assumption|kernel_rfl) (hn:V.namesL ws=[]:=by first|rfl|simp [V.namesL,V.names, *]):ARun P N l K (o::r) ⟨tm,st,nx,nt⟩ tr:=r_val hg hd hlt (law_callv ho (enters hb) (ev_len he) (hw ▸ h) (hw ▸ hn)) (hT hf (ts_of he fun p hp=>by cases hp)) k
theorem x_callvS {f:Nat} {g:Operand} {xs:Array Operand} {ts:Array TypeId} {vs fs bs ws:List V}  (h:ACallsG P N.g f ws (.bool v)) (k1:v=true→ARun P N l K r ⟨(d,.bool true)::tm,st,nx,nt⟩ (tr++[trOf l o ⟨(g,.fn (.func f) fs bs)::tsOf xs.toList vs,[]⟩ []])) (k2:v=false→ARun P N l K r ⟨(d,.bool false)::tm,st,nx,nt⟩ (tr++[trOf l o ⟨(g,.fn (.func f) fs bs)::tsOf xs.toList vs,[]⟩ []])) (ho:o.op = .call { callee:=.value g,args:=xs,argTypes:=ts }:=by rfl) (hf:S.ev ⟨tm,st,nx,nt⟩ g=some (.fn (.func f) fs bs):=by rfl) (he:evL ⟨tm,st,nx,nt⟩ xs.toList=some vs:=by rfl) (hw:fs++vs++bs=ws:=by rfl) (hg:guardV l o ⟨tm,st,nx,nt⟩=some true:=by rfl) (hd:o.dst=some d:=by rfl) (hlt:Nat.blt d nt=true:=by rfl) (hb:hasBody P f=true:=by first|assumption|kernel_rfl) (hn:V.namesL ws=[]:=by first|rfl|simp [V.namesL,V.names, *]):ARun P N l K (o::r) ⟨tm,st,nx,nt⟩ tr:=r_splitB hg hd hlt (law_callv ho (enters hb) (ev_len he) (hw ▸ h) (hw ▸ hn)) (hT hf (ts_of he fun p hp=>by cases hp)) k1 k2
theorem x_ret {rs:List ResultVar} {s:S} {w:V} {us vs:List V} (h4:pack us=w) (h1:resVs tb s rs=some vs:=by rfl) (h2:frzL s.blk vs=some us:=by rfl) (h3:FrzOkL s.blk vs:=by repeat' first|exact trivial|exact frz_map (fun _=>rfl)|constructor):AEnd tb rs w .ret s:=⟨vs,us,h1,h2,h3,h4⟩
theorem x_nor {rs:List ResultVar} {s:S} {w:V} {us vs:List V} (h4:pack us=w) (h1:resVs tb s rs=some vs:=by rfl) (h2:frzL s.blk vs=some us:=by rfl) (h3:FrzOkL s.blk vs:=by repeat' first|exact trivial|exact frz_map (fun _=>rfl)|constructor):AEnd tb rs w .normal s:=⟨vs,us,h1,h2,h3,h4⟩
theorem x_le {k:Nat} {s1 s:S} (h1:s1.nt=s.nt:=by rfl) (h2:TmsI s s1.nx s1.tm:=by repeat' first|exact trivial|exact rfl|constructor|(simp only [NLt,V.names,V.namesL,List.append_nil,List.nil_append, *];rfl)) (h3:StI s s1.nx s1.st:=by repeat' first|exact trivial|exact rfl|exact names_map (fun _=>rfl)|exact names_none (by assumption)|exact map_nl (fun _=>rfl)|exact (fun _ h=>nomatch h)|constructor) (h4:keysOk id s1.st=true:=by rfl) (h5:Nat.ble k s1.nx=true:=by rfl):LeI k s1 s:=⟨h1,h2,h3,h4,h5⟩
theorem x_len (ns:List Nat) {k:Nat} {s1 s:S} (h1:s1.nt=s.nt:=by rfl) (h2:Nat.beq ns.length s1.nx=true:=by rfl) (h3:TmsN ns s s1.tm:=by repeat' first|exact trivial|refine And.intro ⟨_,rfl,rfl⟩ ?_) (h4:StN ns s s1.st:=by repeat' first|exact trivial|refine And.intro ⟨_,rfl,by first|exact RenB.ren rfl|exact RenB.same (nl_map fun _=>rfl)|exact RenB.sit|exact RenB.map (by assumption)|exact RenB.map (map_nl fun _=>rfl)|exact RenB.map (fun _ h=>nomatch h),rfl ⟩ ?_) (h5:keysOk (nm ns) s1.st=true:=by rfl) (h6:pinOk (nm ns) k s1.nx=true:=by rfl):∃ ns,LeN ns k s1 s:=⟨ns,h1,h2,h3,h4,h5,h6⟩
end
end Go.Proofs.YtlfdjpgghiemfaaGreatDoor.Abs
end
