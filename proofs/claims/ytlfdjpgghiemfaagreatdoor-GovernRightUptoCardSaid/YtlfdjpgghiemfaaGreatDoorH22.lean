/- Texts of the proof, joined: Eld, JarC. -/
import Derived.Test.YtlfdjpgghiemfaaGreatDoorH21
namespace Go.Proofs.YtlfdjpgghiemfaaGreatDoor
section
namespace Abs
open Go.RowKit Mem Facts
section
variable {X A A':Nat→Prop} {φ φ':Nat→Pl} {w w':World} {P:Program} {tb:List Ty} {T:Nat} {e ee e':Ty} {N:Env} {M:Nat→Prop} {o:Oper} {s:S} {a:Act} {x y:Operand} {el:Nat} {L:List UInt8}
theorem Jm {y:Operand} {T':TypeId} {us vs:List V} {r:Bool} {len:Nat} (htb:aL P tb) (ho:o.op = .binOp .eql T x y T') (hT:nth tb T=some e) (ha:e.arr=some (len,el)) (hE:nth tb el=some ee) (hc:P.cellsOf el=1) (hq:P.eqGuardType P.depth T=false) (hok:okI ee.knd us vs (List.range len)=true) (h:eqI us vs (List.range len)=r) :
  aC P N o ⟨[(x,.agg us),(y,.agg vs)],[]⟩ (.bool r) [] []:=aD fun s M A φ ac w hh hr=>by
 obtain ⟨cx,e1,h1,h2,h3⟩:=jw (hr.ev hh.a)
 obtain ⟨cy,e2,g1,g2,g3⟩:=jw (hr.ev hh.b)
 obtain ⟨ti,d,ht⟩:=aV htb hT
 obtain ⟨tj,dj,hj⟩:=aV htb hE
 have hd:d = .array len el:=by
  have:=ht.arr
  rw [ha] at this
  cases d<;>simp [yC] at this
  rw [this.1,this.2]
 have hu:P.underlying T=some (.array len el):=by rw [ht.und,hd]
 have hrun:(Op.equalIn 10000 T (.agg cx) (.agg cy)).run P w = .ok (eqI us vs (List.range len)) w:=by
  rw [run_equalIn_array (P:=P) w 9999 cx cy hu hj.info,hc]
  exact Im (w:=w) htb hE (gG.mk' (by simpa using h1) fun j u c hu hc=>h3 j u c hu (by simpa using hc)) (gG.mk' (by simpa using g1) fun j u c hu hc=>g3 j u c hu (by simpa using hc)) 9998 _ hok w
 refine ⟨.bool r,?_,.fz .bool⟩
 unfold execOp
 simp only [ho,e1,e2,Sem.run_bind,run_eqGuard_agg w .eql T x y cx cy hq,Result.andThen_ok,run_eql_struct,hrun,Sem.run_pure,h]
end
section
variable {P:Program} {N:Env} {l r:List Oper} {o:Oper} {tm:List (Nat × V)} {st:List (Nat × Option Blk)} {nx nt:Nat} {tr:List Tr} {K:S→List Tr→Prop} {tb:List Ty} {d T:Nat} {t t':TypeId} {x y z:Operand} {a b n:Int} {p q:List UInt8} {u v:Bool} {e ee:Ty} {kd:IntKind}
variable {α:Type} {i0:Nat} {a0:α} {sz m off:Nat}
theorem aak (f:α→V) {L:List α} {a1:α} {w:V} {el:Nat} (j:Nat) (htb:aL P tb) (k:ay P N l K r ⟨tm,(m,some (.els el sz ((L.set j a1).map f)))::st,nx,nt⟩ (tr++[aH l o ⟨[(x,.loc m i0 off),(y,w)],[(m,.els el sz (L.map f))]⟩ [(m,some (.els el sz ((L.set j a1).map f)))]])) (ho:o.op = .store t x y:=by rfl) (hx:S.ev ⟨tm,st,nx,nt⟩ x=some (.loc m i0 off):=by rfl) (hy:S.ev ⟨tm,st,nx,nt⟩ y=some w:=by rfl) (hg:ax l o ⟨tm,st,nx,nt⟩=some true:=by rfl) (hd:o.dst=none:=by rfl) (hB:S.blk ⟨tm,st,nx,nt⟩ m=some (.els el sz (L.map f)):=by rfl) (hT':nth tb t=some e:=by rfl) (hi:i0=j:=by omega) (hL:L[j]? = some a0:=by assumption) (h1:w.cells.all V.one=true:=by rfl) (h2:w.cells.length=e.size:=by rfl) (hp:Km (f a0) off w=some (f a1):=by rfl) (hel:(!(f a0).one||Nat.beq w.cells.length 1)=true:=by rfl):ay P N l K (o::r) ⟨tm,st,nx,nt⟩ tr:=BD hg hd (uh htb ho hT' (i:=i0) (el:=f a0) (by subst hi;rw [List.getElem?_map,hL];rfl) h1 h2 hp hel (by subst hi;rw [List.map_set])) (hT hx (hT hy (hN hB h0))) k
theorem Ta (f:α→V) {L:List α} {w:V} {el:Nat} (j:Nat) (htb:aL P tb) (k:ay P N l K r ⟨(d,w)::tm,st,nx,nt⟩ (tr++[aH l o ⟨[(x,.loc m i0 off)],[(m,.els el sz (L.map f))]⟩ []])) (ho:o.op = .load t x:=by rfl) (hx:S.ev ⟨tm,st,nx,nt⟩ x=some (.loc m i0 off):=by rfl) (hg:ax l o ⟨tm,st,nx,nt⟩=some true:=by rfl) (hd:o.dst=some d:=by rfl) (hlt:Nat.blt d nt=true:=by rfl) (hB:S.blk ⟨tm,st,nx,nt⟩ m=some (.els el sz (L.map f)):=by rfl) (hT':nth tb t=some e:=by rfl) (hi:i0=j:=by omega) (hL:L[j]? = some a0:=by assumption) (hv:lJ (f a0).cells off e.agg e.size=some w:=by rfl):ay P N l K (o::r) ⟨tm,st,nx,nt⟩ tr:=aJ hg hd hlt (Dl htb ho hT' (i:=i0) (el:=f a0) (by subst hi;rw [List.getElem?_map,hL];rfl) hv) (hT hx (hN hB h0)) k
theorem adB {xs xs1:List V} {w0 w:V} {el:Nat} (w1:V) (htb:aL P tb) (k:ay P N l K r ⟨tm,(m,some (.els el sz xs1))::st,nx,nt⟩ (tr++[aH l o ⟨[(x,.loc m i0 off),(y,w)],[(m,.els el sz xs)]⟩ [(m,some (.els el sz xs1))]])) (hp:Km w0 off w=some w1) (ho:o.op = .store t x y:=by rfl) (hx:S.ev ⟨tm,st,nx,nt⟩ x=some (.loc m i0 off):=by rfl) (hy:S.ev ⟨tm,st,nx,nt⟩ y=some w:=by rfl) (hg:ax l o ⟨tm,st,nx,nt⟩=some true:=by rfl) (hd:o.dst=none:=by rfl) (hB:S.blk ⟨tm,st,nx,nt⟩ m=some (.els el sz xs):=by rfl) (hT':nth tb t=some e:=by rfl) (hL:xs[i0]? = some w0:=by rfl) (h1:w.cells.all V.one=true:=by rfl) (h2:w.cells.length=e.size:=by rfl) (hel:(!w0.one||Nat.beq w.cells.length 1)=true:=by rfl) (hs:xs.set i0 w1=xs1:=by rfl):ay P N l K (o::r) ⟨tm,st,nx,nt⟩ tr:=BD hg hd (uh htb ho hT' (i:=i0) (el:=w0) hL h1 h2 hp hel hs) (hT hx (hT hy (hN hB h0))) k
theorem vU {us vs:List V} {w:Bool} {len el:Nat} (htb:aL P tb) (k:ay P N l K r ⟨(d,.bool w)::tm,st,nx,nt⟩ (tr++[aH l o ⟨[(x,.agg us),(y,.agg vs)],[]⟩ []])) (ho:o.op = .binOp .eql t x y t':=by rfl) (hx:S.ev ⟨tm,st,nx,nt⟩ x=some (.agg us):=by rfl) (hy:S.ev ⟨tm,st,nx,nt⟩ y=some (.agg vs):=by rfl) (hg:ax l o ⟨tm,st,nx,nt⟩=some true:=by rfl) (hd:o.dst=some d:=by rfl) (hlt:Nat.blt d nt=true:=by rfl) (hT':nth tb t=some e:=by rfl) (ha:e.arr=some (len,el):=by rfl) (hE:nth tb el=some ee:=by rfl) (hc:P.cellsOf el=1:=by kernel_rfl) (hq:P.eqGuardType P.depth t=false:=by kernel_rfl) (hok:okI ee.knd us vs (List.range len)=true:=by rfl) (h:eqI us vs (List.range len)=w:=by first|assumption|rfl):ay P N l K (o::r) ⟨tm,st,nx,nt⟩ tr:=aJ hg hd hlt (Jm htb ho hT' ha hE hc hq hok h) (hT hx (hT hy h0)) k
end
end Abs
namespace Abs
open Go.RowKit Mem Facts
section
variable {P:Program} {N:Env} {c:Code} {Q:Exit→S→Prop}
variable {m sz:Nat} {α:Type} {f:α→V}
theorem Zt {L:List α} (h:L.length=m):V.fro (List.take m (L.map f))=V.fro (L.map f):=by
 rw [List.take_of_length_le]
 rw [List.length_map,h]
 exact Nat.le_refl _
theorem MK {L:List α} {tm:List (Nat × V)} {st:List (Nat × Option Blk)} {nx nt T:Nat} (n t:Nat) (hm:m=L.length) (hf:∀ a,(f a).names=[]) (k:AWp P N c Q ⟨(t,.fro (L.map f))::tm,(n,none)::st,nx,nt⟩) (hB:S.blk ⟨tm,st,nx,nt⟩ n=some (.els T sz (L.map f)):=by rfl) (ht:lk tm t=some (.own n 0 m):=by rfl):AWp P N c Q ⟨tm,st,nx,nt⟩:=fun M φ a w hr=>by
 let M':Nat→Prop:=fun b=>M b∧(φ n).blk≠some b
 let M2:Nat→Prop:=fun b=>M b∧(φ n).blk=some b
 let N2:Env:=⟨⟨fun b=>M' b∨N b,N.g⟩,0,N.pl,N.df⟩
 have hset:∀ b,(M2 b∨N2 b)↔(M b∨N b):=fun b=>by
  show (M b∧(φ n).blk=some b)∨(M b∧(φ n).blk≠some b)∨N b↔_
  by_cases e:(φ n).blk=some b
  ·simp [e]
  ·simp [e]
 obtain ⟨hn,hbk⟩:=hr.st n _ hB
 have hbl:∀ q,S.blk ⟨[],[(n,some (.els T sz (L.map f)))],nx,nt⟩ q=if n=q then some (.els T sz (L.map f)) else none:=fun q=>by
  unfold S.blk
  simp only [bW]
  by_cases e:n=q<;>simp [e,lk]
 have r2:Rel N2 M2 (· < nx) φ ⟨[],[(n,some (.els T sz (L.map f)))],nx,nt⟩ a w:=by
  refine ⟨fun q v hq=>(by cases hq),hr.nt,fun q b hb=>?_,fun q q' b b' x e1 e2 e3 e4=>?_,fun b hb=>hr.lim b ((hset b).1 hb),fun b h1 h2=>?_,hr.df,fun q hq=>absurd hq (Nat.not_lt_zero q),?_⟩
  ·rw [hbl] at hb
   split at hb
   ·rename_i e
    subst e;cases hb
    refine ⟨hn,?_⟩
    obtain ⟨h1,h2,h3,h4,h5⟩:=hbk
    refine ⟨h1,h2,h3,h4,h5.imp id ?_⟩
    rintro ⟨b,cur,g1,g2,g3,g4,g5,g6,g7⟩
    refine ⟨b,cur,g1,⟨g2,g1⟩,g3,g4,g5,g6,fun i j x u hx hu=>?_⟩
    obtain ⟨y,hy,hq⟩:=g7 i j x u hx hu
    exact ⟨y,hy,hq.mono (fun b _ h=>(hset b).1 h) (.refl _ w) (fun _ h=>h) fun _ _=>rfl⟩
   ·cases hb
  ·rw [hbl] at e1 e2
   split at e1
   ·split at e2
    ·rename_i h1 h2;exact h1 ▸ h2
    ·cases e2
   ·cases e1
  ·rcases h2 with h2|h2
   ·exact h2.2 h1.2
   ·exact hr.dis b h1.1 h2
  ·exact hr.gl.sub fun b h=>(hset b).1 h
 have hv:=(hr.tm t _ ht)
 have hv2:Rep (fun b=>M2 b∨N2 b) (· < nx) φ w (.own n 0 m) (a.tmps.getD t undef):=hv.2.mono (fun b _ h=>(hset b).1 h) (.refl _ w) (fun _ h=>h) fun _ _=>rfl
 have hz:Fz N2 w (.fro (L.map f)) (a.tmps.getD t undef):=by
  refine r2.frz (b:=fun q=>if n=q then some (.els T sz (L.map f)) else none) (fun q k h=>by rw [hbl];exact h) hv2 ?_ ?_
  ·show (match (if n=n then some (Blk.els T sz (L.map f)) else none) with
    | some (.els _ _ xs)=>some (V.fro ((xs.drop 0).take m))
    | _=>none)=_
   rw [if_pos rfl]
   simp only [List.drop_zero]
   rw [List.take_of_length_le (by rw [List.length_map,hm];exact Nat.le_refl _)]
  ·show match (if n=n then some (Blk.els T sz (L.map f)) else none) with
    | some (.els _ _ xs)=>(∀ x∈xs,x.names=[])∧0+m≤xs.length
    | _=>False
   rw [if_pos rfl]
   refine ⟨fun x hx=>?_,by rw [List.length_map,hm];omega⟩
   obtain ⟨y,_,rfl⟩:=List.mem_map.1 hx
   exact hf y
 have hsub:∀ b,M' b∨N b→M b∨N b:=fun b h=>h.imp (·.1) id
 have hbn:∀ q,S.blk ⟨(t,.fro (L.map f))::tm,(n,none)::st,nx,nt⟩ q=if n=q then none else S.blk ⟨tm,st,nx,nt⟩ q:=fun q=>by
  unfold S.blk
  simp only [bW]
  by_cases e:n=q<;>simp [e]
 have r3:Rel N M' (· < nx) φ ⟨(t,.fro (L.map f))::tm,(n,none)::st,nx,nt⟩ a w:=by
  refine ⟨fun q v hq=>?_,hr.nt,fun q b hb=>?_,fun q q' b b' x e1 e2 e3 e4=>?_,fun b hb=>hr.lim b (hsub b hb),fun b h1 h2=>hr.dis b h1.1 h2,hr.df,hr.pin,hr.gl.sub hsub⟩
  ·change lk ((t,.fro (L.map f))::tm) q=some v at hq
   rw [bW] at hq
   split at hq
   ·rename_i e
    subst e;cases hq
    exact ⟨hv.1,.fz (hz.mono (fun b _ h=>h) (.refl _ w))⟩
   ·obtain ⟨g1,g2⟩:=hr.tm q v hq
    exact ⟨g1,g2.mono (fun b _ h=>hsub b h) (.refl _ w) (fun _ h=>h) fun _ _=>rfl⟩
  ·rw [hbn] at hb
   split at hb
   ·cases hb
   ·rename_i hne
    obtain ⟨g1,g2⟩:=hr.st q b hb
    have hdif:∀ y,(φ q).blk=some y→(φ n).blk≠some y:=fun y h1 h2=>hne (hr.inj n q _ _ y hB hb h2 h1)
    refine ⟨g1,?_⟩
    cases b with
    | els T' sz' xs =>
     obtain ⟨h1,h2,h3,h4,h5⟩:=g2
     refine ⟨h1,h2,h3,h4,h5.imp id ?_⟩
     rintro ⟨b,cur,k1,k2,k3,k4,k5,k6,k7⟩
     refine ⟨b,cur,k1,⟨k2,hdif b k1⟩,k3,k4,k5,k6,fun i j x u hx hu=>?_⟩
     obtain ⟨y,hy,hq⟩:=k7 i j x u hx hu
     exact ⟨y,hy,hq.mono (fun b _ h=>hsub b h) (.refl _ w) (fun _ h=>h) fun _ _=>rfl⟩
    | map es =>
     obtain ⟨b,ents,clock,k1,k2,k3,k4,k5⟩:=g2
     exact ⟨b,ents,clock,k1,⟨k2,hdif b k1⟩,k3,k4,fun i k v e hk he=>⟨(k5 i k v e hk he).1.mono (fun b _ h=>hsub b h) (.refl _ w),(k5 i k v e hk he).2.mono (fun b _ h=>hsub b h) (.refl _ w) (fun _ h=>h) fun _ _=>rfl⟩⟩
    | sit s pos =>
     obtain ⟨h0,b,k1,k2,k3⟩:=g2
     exact ⟨h0,b,k1,⟨k2,hdif b k1⟩,k3⟩
  ·rw [hbn] at e1 e2
   split at e1
   ·cases e1
   ·split at e2
    ·cases e2
    ·exact hr.inj q q' b b' x e1 e2 e3 e4
 refine wp_mono (k M' φ a w r3) fun e a' w' ⟨M3,φ3,s3,h1,h2,h3,h4⟩=>⟨M3,φ3,s3,⟨h1.os,h1.tape,h1.output,h1.size,fun b hb hM=>h1.block b hb fun h=>hM h.1⟩,fun b hb h=>(h2 b hb h).1,h3,h4⟩
theorem sM {L:List α} {tm:List (Nat × V)} {st:List (Nat × Option Blk)} {nx nt T T2 sz2:Nat} {cs cs':List V} (n2 i n:Nat) (hm:m=L.length) (hf:∀ a,(f a).names=[]) (k:AWp P N c Q ⟨tm,(n2,some (.els T2 sz2 [.agg cs']))::(n,none)::st,nx,nt⟩) (hB2:S.blk ⟨tm,st,nx,nt⟩ n2=some (.els T2 sz2 [.agg cs]):=by rfl) (hi:nth cs i=some (.own n 0 m):=by rfl) (hcs:cs.set i (.fro (L.map f))=cs':=by rfl) (hB:S.blk ⟨tm,st,nx,nt⟩ n=some (.els T sz (L.map f)):=by rfl) (hne:Nat.beq n2 n=false:=by rfl):AWp P N c Q ⟨tm,st,nx,nt⟩:=fun M φ a w hr=>by
 let M':Nat→Prop:=fun b=>M b∧(φ n).blk≠some b
 let M2:Nat→Prop:=fun b=>M b∧(φ n).blk=some b
 let N2:Env:=⟨⟨fun b=>M' b∨N b,N.g⟩,0,N.pl,N.df⟩
 have hnn:n2≠n:=fun e=>by rw [e,Nat.beq_refl] at hne;cases hne
 have hset:∀ b,(M2 b∨N2 b)↔(M b∨N b):=fun b=>by
  show (M b∧(φ n).blk=some b)∨(M b∧(φ n).blk≠some b)∨N b↔_
  by_cases e:(φ n).blk=some b
  ·simp [e]
  ·simp [e]
 obtain ⟨hn,hbk⟩:=hr.st n _ hB
 have hbl:∀ q,S.blk ⟨[],[(n,some (.els T sz (L.map f)))],nx,nt⟩ q=if n=q then some (.els T sz (L.map f)) else none:=fun q=>by
  unfold S.blk
  simp only [bW]
  by_cases e:n=q<;>simp [e,lk]
 have r2:Rel N2 M2 (· < nx) φ ⟨[],[(n,some (.els T sz (L.map f)))],nx,nt⟩ a w:=by
  refine ⟨fun q v hq=>(by cases hq),hr.nt,fun q b hb=>?_,fun q q' b b' x e1 e2 e3 e4=>?_,fun b hb=>hr.lim b ((hset b).1 hb),fun b h1 h2=>?_,hr.df,fun q hq=>absurd hq (Nat.not_lt_zero q),?_⟩
  ·rw [hbl] at hb
   split at hb
   ·rename_i e
    subst e;cases hb
    refine ⟨hn,?_⟩
    obtain ⟨h1,h2,h3,h4,h5⟩:=hbk
    refine ⟨h1,h2,h3,h4,h5.imp id ?_⟩
    rintro ⟨b,cur,g1,g2,g3,g4,g5,g6,g7⟩
    refine ⟨b,cur,g1,⟨g2,g1⟩,g3,g4,g5,g6,fun i j x u hx hu=>?_⟩
    obtain ⟨y,hy,hq⟩:=g7 i j x u hx hu
    exact ⟨y,hy,hq.mono (fun b _ h=>(hset b).1 h) (.refl _ w) (fun _ h=>h) fun _ _=>rfl⟩
   ·cases hb
  ·rw [hbl] at e1 e2
   split at e1
   ·split at e2
    ·rename_i h1 h2;exact h1 ▸ h2
    ·cases e2
   ·cases e1
  ·rcases h2 with h2|h2
   ·exact h2.2 h1.2
   ·exact hr.dis b h1.1 h2
  ·exact hr.gl.sub fun b h=>(hset b).1 h
 have hz:∀ x,Rep (fun b=>M b∨N b) (· < nx) φ w (.own n 0 m) x→Fz N2 w (.fro (L.map f)) x:=fun x hx=>by
  have hv2:Rep (fun b=>M2 b∨N2 b) (· < nx) φ w (.own n 0 m) x:=hx.mono (fun b _ h=>(hset b).1 h) (.refl _ w) (fun _ h=>h) fun _ _=>rfl
  refine r2.frz (b:=fun q=>if n=q then some (.els T sz (L.map f)) else none) (fun q k h=>by rw [hbl];exact h) hv2 ?_ ?_
  ·show (match (if n=n then some (Blk.els T sz (L.map f)) else none) with
    | some (.els _ _ xs)=>some (V.fro ((xs.drop 0).take m))
    | _=>none)=_
   rw [if_pos rfl]
   simp only [List.drop_zero]
   rw [List.take_of_length_le (by rw [List.length_map,hm];exact Nat.le_refl _)]
  ·show match (if n=n then some (Blk.els T sz (L.map f)) else none) with
    | some (.els _ _ xs)=>(∀ x∈xs,x.names=[])∧0+m≤xs.length
    | _=>False
   rw [if_pos rfl]
   refine ⟨fun x hx=>?_,by rw [List.length_map,hm];omega⟩
   obtain ⟨y,_,rfl⟩:=List.mem_map.1 hx
   exact hf y
 have hsub:∀ b,M' b∨N b→M b∨N b:=fun b h=>h.imp (·.1) id
 have hbn:∀ q,S.blk ⟨tm,(n2,some (.els T2 sz2 [.agg cs']))::(n,none)::st,nx,nt⟩ q=if n2=q then some (.els T2 sz2 [.agg cs']) else if n=q then none else S.blk ⟨tm,st,nx,nt⟩ q:=fun q=>by
  unfold S.blk
  simp only [bW]
  by_cases e:n2=q<;>by_cases e2:n=q<;>simp [e,e2]
 have keep:∀ q b,S.blk ⟨tm,st,nx,nt⟩ q=some b→n≠q→iT (fun b=>M b∨N b) M (· < nx) φ w (φ q) b→iT (fun b=>M' b∨N b) M' (· < nx) φ w (φ q) b:=fun q b hb hq g2=>by
  have hdif:∀ y,(φ q).blk=some y→(φ n).blk≠some y:=fun y h1 h2=>hq (hr.inj n q _ _ y hB hb h2 h1)
  cases b with
  | els T' sz' xs =>
   obtain ⟨h1,h2,h3,h4,h5⟩:=g2
   refine ⟨h1,h2,h3,h4,h5.imp id ?_⟩
   rintro ⟨b,cur,k1,k2,k3,k4,k5,k6,k7⟩
   refine ⟨b,cur,k1,⟨k2,hdif b k1⟩,k3,k4,k5,k6,fun i j x u hx hu=>?_⟩
   obtain ⟨y,hy,hq⟩:=k7 i j x u hx hu
   exact ⟨y,hy,hq.mono (fun b _ h=>hsub b h) (.refl _ w) (fun _ h=>h) fun _ _=>rfl⟩
  | map es =>
   obtain ⟨b,ents,clock,k1,k2,k3,k4,k5⟩:=g2
   exact ⟨b,ents,clock,k1,⟨k2,hdif b k1⟩,k3,k4,fun i k v e hk he=>⟨(k5 i k v e hk he).1.mono (fun b _ h=>hsub b h) (.refl _ w),(k5 i k v e hk he).2.mono (fun b _ h=>hsub b h) (.refl _ w) (fun _ h=>h) fun _ _=>rfl⟩⟩
  | sit s pos =>
   obtain ⟨h0,b,k1,k2,k3⟩:=g2
   exact ⟨h0,b,k1,⟨k2,hdif b k1⟩,k3⟩
 obtain ⟨hn2,hb2⟩:=hr.st n2 _ hB2
 have hrow:iT (fun b=>M' b∨N b) M' (· < nx) φ w (φ n2) (.els T2 sz2 [.agg cs']):=by
  have h0:=keep n2 _ hB2 (fun e=>hnn e.symm) hb2
  obtain ⟨h1,h2,h3,h4,h5⟩:=h0
  obtain ⟨_,_,_,_,o5⟩:=hb2
  rw [dw] at hi
  subst hcs
  obtain ⟨q1,q2⟩:=h4 (.agg cs) (List.mem_singleton.2 rfl)
  have hlen:(cs.set i (.fro (L.map f))).length=cs.length:=List.length_set
  refine ⟨h1,h2,h3,fun x hx=>?_,?_⟩
  ·rw [List.mem_singleton] at hx
   subst hx
   refine ⟨by rw [← q1];exact hlen,fun u hu=>?_⟩
   rcases List.mem_or_eq_of_mem_set hu with hu|rfl
   ·exact q2 u hu
   ·rfl
  ·rcases h5 with h5|⟨b,cur,k1,k2,k3,k4,k5,k6,k7⟩
   ·cases h5.2.1
   ·rcases o5 with o5|⟨b',cur',o1,o2,o3,o4,o6,o7,o8⟩
    ·cases o5.2.1
    rw [k1] at o1
    cases o1
    rw [k3] at o3
    cases o3
    refine .inr ⟨b,cur,k1,k2,k3,k4,k5,k6,fun p j x u hx hu=>?_⟩
    rcases p with _|p
    ·cases hx
     change (cs.set i (.fro (L.map f)))[j]? = some u at hu
     by_cases hj:i=j
     ·subst hj
      have hil:i<cs.length:=(List.getElem?_eq_some_iff.1 hi).1
      rw [List.getElem?_set_self hil] at hu
      cases hu
      obtain ⟨y,hy,hq⟩:=o8 0 i (.agg cs) (.own n 0 m) rfl hi
      exact ⟨y,hy,.fz ((hz y hq).mono (fun b _ h=>h) (.refl _ w))⟩
     ·rw [List.getElem?_set_ne hj] at hu
      exact k7 0 j (.agg cs) u rfl hu
    ·cases hx
 have r3:Rel N M' (· < nx) φ ⟨tm,(n2,some (.els T2 sz2 [.agg cs']))::(n,none)::st,nx,nt⟩ a w:=by
  refine ⟨fun q v hq=>?_,hr.nt,fun q b hb=>?_,fun q q' b b' x e1 e2 e3 e4=>?_,fun b hb=>hr.lim b (hsub b hb),fun b h1 h2=>hr.dis b h1.1 h2,hr.df,hr.pin,hr.gl.sub hsub⟩
  ·obtain ⟨g1,g2⟩:=hr.tm q v hq
   exact ⟨g1,g2.mono (fun b _ h=>hsub b h) (.refl _ w) (fun _ h=>h) fun _ _=>rfl⟩
  ·rw [hbn] at hb
   split at hb
   ·rename_i e
    subst e;cases hb
    exact ⟨hn2,hrow⟩
   ·split at hb
    ·cases hb
    ·rename_i h1 h2
     obtain ⟨g1,g2⟩:=hr.st q b hb
     exact ⟨g1,keep q b hb h2 g2⟩
  ·have old:∀ q b,S.blk ⟨tm,(n2,some (.els T2 sz2 [.agg cs']))::(n,none)::st,nx,nt⟩ q=some b→∃ b0,S.blk ⟨tm,st,nx,nt⟩ q=some b0:=fun q b hb=>by
    rw [hbn] at hb
    split at hb
    ·rename_i e;subst e;exact ⟨_,hB2⟩
    ·split at hb
     ·cases hb
     ·exact ⟨_,hb⟩
   obtain ⟨b0,e1'⟩:=old q b e1
   obtain ⟨b1,e2'⟩:=old q' b' e2
   exact hr.inj q q' b0 b1 x e1' e2' e3 e4
 refine wp_mono (k M' φ a w r3) fun e a' w' ⟨M3,φ3,s3,h1,h2,h3,h4⟩=>⟨M3,φ3,s3,⟨h1.os,h1.tape,h1.output,h1.size,fun b hb hM=>h1.block b hb fun h=>hM h.1⟩,fun b hb h=>(h2 b hb h).1,h3,h4⟩
end
end Abs
namespace Abs
open Go.RowKit Mem Facts
def Pz (P:Program) (g:iI) (f:FuncId) (args:List V) (st:List Blk) (ch:List PanicEntry):Prop :=
 ∀ (N M:Nat→Prop) (φ:Nat→Pl) (w:World) (vs:Array Value),zH g N M (· < st.length) φ (st.map some) w→args.length=vs.size →
  (∀ (i:Nat) v x,args[i]? = some v→vs[i]? = some x→Rep (fun b=>M b∨N b) (· < st.length) φ w v x) →
  Calls P f vs w (fun e w'=>e = .panicked ch∧bF M w w')
def Xr (P:Program) (f:FuncId) (args:List V) (st:List Blk) (ch:List PanicEntry):Prop:=∀ g,Pz P g f args st ch
def adT (ch:List PanicEntry):Exit→S→Prop
 | .panic ch',_=>ch'=ch
 | _,_=>False
section
variable {P:Program} {tb:List Ty} {N:Env} {M A:Nat→Prop} {φ:Nat→Pl} {s:S} {a:Act} {w w':World} {o:Oper} {l:List Oper} {Q:Exit→S→Prop}
variable {ns:List Nat} {ch:List PanicEntry} {post:List Oper} {args:List V} {k:IntKind}
theorem CS {g:iI} {f:FuncId} {fn:Func} {c:Code} {st:List Blk} (hf:P.funcs[f]? = some fn) (hb:fn.body=some c) (hn:Nat.ble args.length fn.ntmps=true) (h:∀ (bl:Nat→Prop) (pl:Nat→Pl),AWp P ⟨⟨bl,g⟩,st.length,pl,[]⟩ c (adT ch) ⟨kG args 0,gU st 0,st.length,fn.ntmps⟩):Pz P g f args st ch:=fun N M φ w vs hrow hl hv=>by
 have hnt:args.length≤fn.ntmps:=Nat.le_of_ble_eq_true hn
 have eb:∀ n,S.blk ⟨kG args 0,gU st 0,st.length,fn.ntmps⟩ n=st[n]? := fun n=>by
  have e:=A8 st 0 n
  rw [if_pos (Nat.zero_le _),Nat.sub_zero] at e
  unfold S.blk
  rw [e]
  cases st[n]? <;> rfl
 have em:∀ n k,st[n]? = some k→(st.map some)[n]? = some (some k):=fun n k h=>by rw [List.getElem?_map,h];rfl
 refine calls_of_wp hf hb (wp_mono (h N φ M φ _ w ⟨fun t v ht=>?_,?_,fun n k hk=>?_,fun n n' k k' b h1 h2=>?_,hrow.lim,hrow.dis,rfl,fun n hn=>⟨hn,rfl⟩,hrow.gl⟩) ?_)
 ·change lk (kG args 0) t=some v at ht
  rw [GI,if_pos (Nat.zero_le _),Nat.sub_zero] at ht
  have hlt:t<args.length:=(List.getElem?_eq_some_iff.1 ht).1
  refine ⟨Nat.lt_of_lt_of_le hlt hnt,?_⟩
  have hvt:vs[t]? = some vs[t]:=by simp [show t<vs.size by omega]
  have e:(vs++Array.replicate (fn.ntmps-vs.size) undef).getD t undef=vs[t]'(by omega):=by
   rw [Array.getD_eq_getD_getElem?,Array.getElem?_append_left (by omega),hvt];rfl
  rw [e]
  exact hv t v _ ht hvt
 ·simp;omega
 ·rw [eb] at hk
  exact hrow.st n k (em n k hk)
 ·rw [eb] at h1 h2
  exact hrow.inj n n' k k' b (em _ _ h1) (em _ _ h2)
 ·rintro e a' w' ⟨M',φ',s',h1,h2,h3,h4⟩
  cases e with
  | panic c=>exact ⟨h3.df,by rw [show c=ch from h4],h1⟩
  | _=>exact h4.elim
def Io (P:Program) (N:Env) (o:Oper) (fp:Fp) (ch:List PanicEntry) (ns:List Nat):Prop :=
 ∀ s M A φ a w,Holds fp s→Rel N M A φ s a w →
  o.wp P a w (fun _ _=>False) (fun e a' w'=>e = .panic ch∧a'=a∧∃ H:Nat→Prop,(∀ b,H b→M b)∧(∀ n k b,s.blk n=some k→n ∉ ns→(φ n).blk=some b→¬ H b)∧bF H w w')
structure Pf (P:Program) (N:Env) (l:List Oper) (o:Oper) (Q:Exit→S→Prop) (s:S):Prop where
 ex:∃ fp ch ns,ax l o s=some true∧Io P N o fp ch ns∧Holds fp s∧Q (.panic ch) ⟨s.tm,ns.map (fun n=>(n,none))++s.st,s.nx,s.nt⟩
theorem XA {st:List (Nat × Option Blk)} {n:Nat}:lk (ns.map (fun n=>(n,(none:Option Blk)))++st) n=if n∈ns then some none else lk st n:=by
 induction ns with
 | nil=>simp
 | cons m r ih =>
  rw [List.map_cons,List.cons_append,lk]
  by_cases h:m=n
  ·subst h
   simp
  ·have h':Nat.beq m n=false:=by
    cases hb:Nat.beq m n with
    | false=>rfl
    | true=>exact absurd (Nat.eq_of_beq_eq_true hb) h
   simp only [h',cond_false,ih]
   by_cases h2:n∈r
   ·rw [if_pos h2,if_pos (by simp [h2])]
   ·rw [if_neg h2,if_neg (by simp [h2];exact fun e=>h e.symm)]
theorem UH {fp:Fp} (law:Io P N o fp ch ns) (hh:Holds fp s) (hr:Rel N M (· < s.nx) φ s a w) (hq:Q (.panic ch) ⟨s.tm,ns.map (fun n=>(n,none))++s.st,s.nx,s.nt⟩) {K:Act→World→Prop}:o.wp P a w K (Post N Q M w):=by
 have h:=law s M _ φ a w hh hr
 have key:∀ e a' w',(e=Exit.panic ch∧a'=a∧∃ H:Nat→Prop,(∀ b,H b→M b)∧(∀ n k b,s.blk n=some k→n ∉ ns→(φ n).blk=some b→¬ H b)∧bF H w w')→Post N Q M w e a' w':=by
  rintro e a' w' ⟨rfl,rfl,H,h1,h2,h3⟩
  have hsM:bF M w w':=⟨h3.os,h3.tape,h3.output,h3.size,fun b hb hm=>h3.block b hb fun h=>hm (h1 b h)⟩
  have hsX:bF (fun b=>M b∨N b) w w':=⟨h3.os,h3.tape,h3.output,h3.size,fun b hb hm=>h3.block b hb fun h=>hm (.inl (h1 b h))⟩
  have hbk:∀ n k,S.blk ⟨s.tm,ns.map (fun n=>(n,none))++s.st,s.nx,s.nt⟩ n=some k→n ∉ ns∧s.blk n=some k:=fun n k hk=>by
   unfold S.blk at hk
   rw [show S.st ⟨s.tm,ns.map (fun n=>(n,none))++s.st,s.nx,s.nt⟩=ns.map (fun n=>(n,none))++s.st from rfl,XA] at hk
   by_cases hn:n∈ns
   ·rw [if_pos hn] at hk;cases hk
   ·rw [if_neg hn] at hk;exact ⟨hn,hk⟩
  refine ⟨M,φ,⟨s.tm,ns.map (fun n=>(n,none))++s.st,s.nx,s.nt⟩,hsM,fun _ _ h=>h,⟨fun t v ht=>⟨(hr.tm t v ht).1,(hr.tm t v ht).2.mono (fun _ _ h=>h) hsX (fun _ h=>h) fun _ _=>rfl⟩,hr.nt,fun n k hk=>?_,fun n n' k k' b e1 e2=>?_,fun b hb=>Nat.lt_of_lt_of_le (hr.lim b hb) h3.size,hr.dis,hr.df,hr.pin,hr.gl.stays hsX fun _ _ h=>h⟩,hq⟩
  ·obtain ⟨g1,g2⟩:=hbk n k hk
   have:=hr.st n k g2
   exact ⟨this.1,this.2.mono (fun _ _ h=>h) hsX (fun _ h=>h) (fun _ _=>rfl) (fun _ h=>h) fun b hb=>h3.block b (hr.lim b (.inl (hr.gy g2 hb))) (h2 n k b g2 g1 hb)⟩
  ·exact hr.inj n n' k k' b (hbk n k e1).2 (hbk n' k' e2).2
 unfold Oper.wp at *
 revert h
 generalize (execOp a.eval o).run P w=q
 intro h
 cases q with
 | ok x w1 =>
  cases x<;>simp only [Oper.upon] at h ⊢ <;>
   first
    | exact h.elim
    | exact Calls.mono h (fun e w'' he=>by
     cases e with
     | returned v=>exact he.elim
     | panicked c=>exact key _ _ _ ⟨he.1,rfl,he.2.2⟩
     | outgrown=>obtain ⟨a3,w3,he⟩:=he;cases he.1)
    | exact Rows.mono h (fun _ _ h=>h.elim)
 | halt x w1=>cases x<;>simp only [Oper.upon] at h ⊢ <;> first|exact h.elim|exact key _ _ _ h|exact key _ _ _ ⟨h.1,rfl,h.2.2⟩
theorem Xd {r:List Oper} {tr:List Tr} (h:ay P N l (fun s _=>Pf P N l o Q s) r s tr):∀ M φ a w,Rel N M (· < s.nx) φ s a w→wpList P l.toArray (Post N Q M w) (r++o::post) a w:=by
 induction h with
 | nil h =>
  intro M φ a w hr
  obtain ⟨fp,ch,ns,hg,law,hh,hq⟩:=h.ex
  refine wpList_step fun K hK=>?_
  rw [if_pos (dX hg hr)]
  exact UH law hh hr hq
 | @on o r s tr fp v up new nx hg hl hh hn hd _ ih =>
  intro M φ a w hr
  refine wpList_step fun K hK=>?_
  rw [if_pos (dX hg hr)]
  refine Hf (Oper.wp_mono (fun a' w' ⟨M',φ',h1,h2,h3⟩=>hK a' w' ?_) (hl s M _ φ a w hh hr (fun n h9 h8=>Nat.lt_irrefl _ (Nat.lt_of_lt_of_le h8 (hn.2 n h9).1)) hd))
  have h4:Rel N M' (· < nx) φ' (s.eff o.dst v up nx) a' w':=(h3.wider (A':=(· < nx)) fun n h=>h.elim (fun h=>Nat.lt_of_lt_of_le h hn.1) fun h=>(hn.2 n h).2).as (fun _=>rfl) (fun _=>rfl) rfl
  have:=ih M' φ' a' w' h4
  exact tY h1 h2 this
 | @off o r s tr hg hd _ ih =>
  intro M φ a w hr
  refine wpList_step fun K hK=>?_
  rw [if_neg (by rw [dX hg hr];decide)]
  exact hK _ _ (ih M φ _ w (eX hr (.fz .und) hd))
theorem bZ {id:Nat} (n:Nat) (h:ay P N l (fun s _=>Pf P N l o Q s) (l.take n) s []) (hl:l.drop n=o::post:=by rfl):AWp P N (.region id l.toArray false) Q s:=fun M φ a w hr=>wp_region_lit (by
 have:=Xd (post:=post) h M φ a w hr
 rw [← hl,List.take_append_drop] at this
 exact this)
theorem nO {K:S→List Tr→Prop} {tr:List Tr} (h:K s tr):ay P N l K [] s tr:=.nil h
theorem Zm {X A:Nat→Prop} {w:World} {n:Int} {y:Value} (h:Rep X A φ w (.agg [.int k n]) y):y = .agg #[.int k n]:=by
 obtain ⟨cs,rfl,hlen,_,hat⟩:=jw h
 obtain ⟨cs⟩:=cs
 match cs,hlen with
 | [c],_ =>
  have:=fJ (hat 0 _ c rfl rfl)
  rw [this]
theorem OU {X A:Nat→Prop} {w:World} {t:TypeId} {v:V} {y:Value} (h:Rep X A φ w (.ifc t v) y):∃ u,y = .iface t u∧Rep X A φ w v u:=by
 cases h with
 | fz h=>cases h with|ifc h=>exact ⟨_,rfl,.fz h⟩
 | ifc h=>exact ⟨_,rfl,h⟩
theorem RB {x:Operand} {T:TypeId} {n:Int} (ho:o.op = .panic x):Io P N o ⟨[(x,.ifc T (.agg [.int k n]))],[]⟩ [{ v:=.iface T (.agg #[.int k n]),recovered:=false }] []:=fun s M A φ a w hh hr=>by
 obtain ⟨u,hu,h2⟩:=OU (hr.ev hh.a)
 rw [Zm h2] at hu
 unfold Oper.wp execOp
 simp only [ho,hu]
 exact ⟨rfl,rfl,fun _=>False,fun _ h=>h.elim,fun _ _ _ _ _ _ h=>h,.refl _ w⟩
theorem RP {f:Nat} {xs:Array Operand} {ts:Array TypeId} {vs:List V} {st bs:List Blk} (ns:List Nat) (ho:o.op = .call { callee:=.value (.func f),args:=xs,argTypes:=ts }) (hc:∀ (fs:Array Value) (w:World),(callFunc f fs).run P w = .ok (.enter f fs) w) (h:Pz P N.g f args st ch) (hargs:jM ns args=some vs) (hl:vs.length=xs.size) (hst:gJ ns st bs) (hlen0:Nat.beq ns.length st.length=true) (hdis:dO ns=true):Io P N o ⟨jm xs.toList vs,uS ns bs⟩ ch ns:=fun s M A φ a w hh hr=>by
 have hlen:=Nat.eq_of_beq_eq_true hlen0
 have hop:∃ gs:Array Value,(execOp a.eval o).run P w = .ok (.enter f gs) w∧vs.length=gs.size∧∀ (i:Nat) v x,vs[i]? = some v→gs[i]? = some x→Rep (fun b=>M b∨N b) A φ w v x:=⟨_,wN ho hc,by simpa using hl,fun i v x hv hx=>by
  simp only [Array.getElem?_map,Option.map_eq_some_iff] at hx
  obtain ⟨p,hp,rfl⟩:=hx
  exact hr.ev (Ag hh i p v (by simpa using hp) hv)⟩
 obtain ⟨gs,hrun,hgl,hgv⟩:=hop
 unfold Oper.wp
 rw [hrun]
 obtain ⟨a1,a2⟩:=ic hargs
 rw [dK] at a1
 have hinj:=lH hdis
 have hrow:∀ n k,st[n]? = some k→∃ c,s.blk (nm ns n)=some c∧cO ns k c:=fun n k hk=>by
  obtain ⟨c,hc,hren⟩:=hst.at n k hk
  have hn:n<ns.length:=by rw [hlen];exact (List.getElem?_eq_some_iff.1 hk).1
  have e:ns[n]? = some ns[n]:=by simp [hn]
  have:=hh.2 _ (Bh n e hc)
  refine ⟨c,?_,hren⟩
  have e2:nth ns n=some ns[n]:=by rw [dw];exact e
  rw [(lu e2).1];exact this
 let H:Nat→Prop:=fun b=>∃ n,n<ns.length∧(φ (nm ns n)).blk=some b
 have hHM:∀ b,H b→M b:=fun b ⟨n,hn,hb⟩=>by
  obtain ⟨c,hc,_⟩:=hrow n _ (List.getElem?_eq_getElem (by omega))
  exact hr.gy hc hb
 have hX:∀ b,(H b∨((M b∧¬ H b)∨N b))→M b∨N b:=fun b hb=>by
  rcases hb with hb|hb|hb
  ·exact .inl (hHM b hb)
  ·exact .inl hb.1
  ·exact .inr hb
 have rows:zH N.g (fun b=>(M b∧¬ H b)∨N b) H (· < st.length) (fun n=>φ (nm ns n)) (st.map some) w:=by
  refine ⟨fun n k hk=>?_,fun n n' k k' b e1 e2 e3 e4=>?_,fun b hb=>hr.lim b (hX b hb),fun b hb hn=>?_,hr.gl.sub hX⟩
  ·have hk:st[n]? = some k:=by simpa using hk
   have hn:n<ns.length:=by rw [hlen];exact (List.getElem?_eq_some_iff.1 hk).1
   obtain ⟨c,hc,hren⟩:=hrow n k hk
   exact ⟨by rw [← hlen];exact hn,iT.BM (fun b _ h=>hX b h) hren (fun m hm=>⟨by rw [← hlen];exact hm,rfl⟩) (fun b hb _=>⟨n,hn,hb⟩) (hr.st _ _ hc).2⟩
  ·have e1:st[n]? = some k:=by simpa using e1
   have e2:st[n']? = some k':=by simpa using e2
   obtain ⟨c,hc,_⟩:=hrow n k e1
   obtain ⟨c',hc',_⟩:=hrow n' k' e2
   have h1:n<ns.length:=by rw [hlen];exact (List.getElem?_eq_some_iff.1 e1).1
   have h2:n'<ns.length:=by rw [hlen];exact (List.getElem?_eq_some_iff.1 e2).1
   exact hinj n n' h1 h2 (hr.inj _ _ _ _ b hc hc' e3 e4)
  ·rcases hn with hn|hn
   ·exact hn.2 hb
   ·exact hr.dis b (hHM b hb) hn
 refine Calls.mono (h (fun b=>(M b∧¬ H b)∨N b) H (fun n=>φ (nm ns n)) w gs rows (by rw [← hgl,a1];simp) fun i v x hv hx=>?_) ?_
 ·have hvs:vs[i]? = some (v.ren (nm ns)):=by rw [a1];simp [hv]
  refine Rep.ren (ρ:=nm ns) (fun n hn=>⟨?_,rfl⟩) ((hgv i _ x hvs hx).mono (fun b _ h=>hX b h) (.refl _ w) (fun _ h=>h) fun _ _=>rfl)
  rw [← hlen]
  exact a2 n (aB.2 ⟨v,List.mem_of_getElem? hv,hn⟩)
 ·rintro e w' ⟨rfl,hs⟩
  refine ⟨rfl,rfl,H,hHM,fun n k b hk hn hb hH=>?_,hs⟩
  obtain ⟨m,hm,hmb⟩:=hH
  obtain ⟨c,hc,_⟩:=hrow m _ (List.getElem?_eq_getElem (by omega))
  have e:=hr.inj n (nm ns m) _ _ b hk hc hb hmb
  have e2:nth ns m=some ns[m]:=by rw [dw];simp [hm]
  rw [(lu e2).1] at e
  exact hn (e ▸ List.getElem_mem hm)
end
section
variable {P:Program} {N:Env} {l:List Oper} {o:Oper} {tm:List (Nat × V)} {st:List (Nat × Option Blk)} {nx nt:Nat} {Q:Exit→S→Prop}
theorem kR {f:Nat} {xs:Array Operand} {ts:Array TypeId} {args vs:List V} {sts bs:List Blk} {ch:List PanicEntry} (ns:List Nat) (h:Pz P N.g f args sts ch) (k:Q (.panic ch) ⟨tm,ns.map (fun n=>(n,none))++st,nx,nt⟩)
  (ho:o.op = .call { callee:=.value (.func f),args:=xs,argTypes:=ts }:=by rfl) (hx:evL ⟨tm,st,nx,nt⟩ xs.toList=some vs:=by rfl) (hb:yD ⟨tm,st,nx,nt⟩ ns=some bs:=by rfl) (hc:dZ P f=true:=by kernel_rfl) (hargs:jM ns args=some vs:=by rfl) (hst:gJ ns sts bs:=by repeat' first|exact gJ.nil|apply gJ.cons|exact cO.same (aT fun _=>rfl)|exact cO.ren rfl|exact cO.sit|exact cO.map (jV fun _=>rfl)|exact cO.map (by assumption)) (hlen:Nat.beq ns.length sts.length=true:=by rfl) (hdis:dO ns=true:=by rfl) (hg:ax l o ⟨tm,st,nx,nt⟩=some true:=by rfl):Pf P N l o Q ⟨tm,st,nx,nt⟩ :=
 ⟨_,ch,ns,hg,RP ns ho (enters hc) h hargs (kW hx) hst hlen hdis,oO hx (oL hb),k⟩
theorem OY {x:Operand} {T:TypeId} {k0:IntKind} {n:Int} (k:Q (.panic [{ v:=.iface T (.agg #[.int k0 n]),recovered:=false }]) ⟨tm,st,nx,nt⟩) (ho:o.op = .panic x:=by rfl) (hx:S.ev ⟨tm,st,nx,nt⟩ x=some (.ifc T (.agg [.int k0 n])):=by rfl) (hg:ax l o ⟨tm,st,nx,nt⟩=some true:=by rfl):Pf P N l o Q ⟨tm,st,nx,nt⟩:=⟨_,_,[],hg,RB ho,hT hx h0,k⟩
end
end Abs
namespace Abs
open Go.RowKit Mem Facts
section
variable {P:Program} {tb:List Ty} {N:Env} {M A:Nat→Prop} {φ:Nat→Pl} {s:S} {a:Act} {w:World} {o:Oper} {l:List Oper}
theorem wF {fn:Func} {rs:List ResultVar} {r:V} (htb:aL P tb) (hrs:fn.results.toList=rs) (hr:Rel N M A φ s a w) (he:Ends tb rs s r):∃ v,(results fn a.tmps).run P w = .ok v w∧Fz N w r v:=by
 obtain ⟨ws,us,g1,g2,g3,g4⟩:=he
 subst hrs
 obtain ⟨xs,k1,k2,k3⟩:=uJ htb hr g1
 obtain ⟨l1,l2⟩:=ji g2
 have hfz:∀ (i:Nat) u x,us[i]? = some u→xs[i]? = some x→Fz N w u x:=fun i u x hu hx=>by
  have hil:i<ws.length:=by rw [l1];exact (List.getElem?_eq_some_iff.1 hu).1
  obtain ⟨u',m1,m2⟩:=l2 i ws[i] (List.getElem?_eq_getElem hil)
  rw [hu] at m1;cases m1
  exact hr.frz (fun _ _ h=>h) (k3 i ws[i] x (List.getElem?_eq_getElem hil) hx) m2 (jf g3 _ (List.getElem_mem hil))
 have hrun:(results fn a.tmps).run P w = .ok (if h:xs.toArray.size=1 then xs.toArray[0] else .tuple xs.toArray) w:=by
  unfold results
  rw [Array.mapM_eq_mapM_toList]
  have e:∀ (m:Sem (List Value)),m.run P w = .ok xs w→(List.toArray <$> m).run P w = .ok xs.toArray w:=fun m hm=>by
   have:(List.toArray <$> m)=(m >>= fun l=>pure l.toArray):=rfl
   rw [this]
   simp only [Sem.run_bind,hm,Result.andThen_ok,Sem.run_pure]
  simp only [Sem.run_bind]
  erw [e _ k1]
  simp only [Result.andThen_ok,Sem.run_pure]
 refine ⟨_,hrun,?_⟩
 subst g4
 match us,xs,l1,k2,hfz with
 | [u],[x],_,_,hfz=>exact hfz 0 u x rfl rfl
 | [],[],_,_,_=>exact .tup rfl (fun i v c h=>by simp at h)
 | u1::u2::us,x1::x2::xs,l1,k2,hfz=>exact .tup (by simp at l1 k2 ⊢;omega) (fun i v c hv hc=>hfz i v c hv (by simpa using hc))
 | [],_::_,l1,k2,_=>simp at l1 k2;simp [l1] at k2
 | _::_,[],l1,k2,_=>simp at l1 k2;simp [k2] at l1
 | [_],_::_::_,l1,k2,_=>simp at l1 k2;omega
 | _::_::_,[_],l1,k2,_=>simp at l1 k2;omega
theorem L6 {x:Operand} {xT t:TypeId} {v:V} {d:TypeDesc} (ho:o.op = .typeAssert x xT t true) (ht:P.underlying t=some d) (hd:(match d with|.interface _=>false|_=>true)=true):aC P N o ⟨[(x,.ifc t v)],[]⟩ (.tup [v,.bool true]) [] []:=aD fun s M A φ a w hh hr=>by
 obtain ⟨u,hu,h2⟩:=OU (hr.ev hh.a)
 refine ⟨.tuple #[u,.bool true],?_,.tup rfl fun i x c hx hc=>?_⟩
 ·unfold execOp
  simp only [ho,hu,Instr.typeAssert,Sem.run_bind,run_underlying ht,Result.andThen_ok]
  cases d<;>first|(simp at hd;done)|(simp [Sem.run_pure])
 ·have hi:i<2:=(List.getElem?_eq_some_iff.1 hx).1
  have:i=0∨i=1:=by omega
  rcases this with rfl|rfl<;>(cases hx;cases hc)
  ·exact h2
  ·exact .fz .bool
end
section
variable {P:Program} {Q:Exit→Act→List Frame→World→Prop} {a:Act} {cs:List Frame} {w:World} {ops:Array Oper} {o:Oper} {i:Nat} {rest:List Nat}
theorem YI (ho:ops[i]? = some o) (hw:Region.wanted o (yielded ops a.tmps)=true) (hr:(execOp a.eval o).run P w = .ok .recover w) (hn:recoverD cs=none) (k:wpOpsS P ops Q rest (a.put o.dst .nilIface) cs w):wpOpsS P ops Q (i::rest) a cs w:=by
 simp only [wpOpsS,ho,hw,if_true,hr,hn]
 exact k
theorem VG {v:Value} {cs':List Frame} (ho:ops[i]? = some o) (hw:Region.wanted o (yielded ops a.tmps)=true) (hr:(execOp a.eval o).run P w = .ok .recover w) (hn:recoverD cs=some (v,cs')) (k:wpOpsS P ops Q rest (a.put o.dst v) cs' w):wpOpsS P ops Q (i::rest) a cs w:=by
 simp only [wpOpsS,ho,hw,if_true,hr,hn]
 exact k
theorem KG {v:Value} (ho:ops[i]? = some o) (hw:Region.wanted o (yielded ops a.tmps)=true) (hr:(execOp a.eval o).run P w = .ok (.value v) w) (k:wpOpsS P ops Q rest (a.put o.dst v) cs w):wpOpsS P ops Q (i::rest) a cs w:=by
 simp only [wpOpsS,ho,hw,if_true,hr]
 exact k
end
def BWp (P:Program) (N:Env) (c:Code) (J:(Nat→Prop)→(Nat→Pl)→Exit→Act→World→Prop) (s:S):Prop :=
 ∀ M φ a w,Rel N M (· < s.nx) φ s a w→c.wp P (fun e a' w'=>∃ M' φ',bF M w w'∧(∀ b,b<w.heap.size→M' b→M b)∧J M' φ' e a' w') a w
theorem HV {P:Program} {N:Env} {x y:Code} {J:(Nat→Prop)→(Nat→Pl)→Exit→Act→World→Prop} {s:S} (h:AWp P N x (lg (fun s'=>BWp P N y J s') fun _ _=>False) s):BWp P N (.seq x y) J s:=fun M φ a w hr=>by
 refine wp_seq (wp_mono (h M φ a w hr) fun e a' w' ⟨M',φ',s',h1,h2,h3,h4⟩=>?_)
 cases e with
 | normal =>
  exact wp_mono (h4 M' φ' a' w' h3) fun e a2 w2 ⟨M2,φ2,g1,g2,g3⟩=>⟨M2,φ2,h1.trans g1 h2,fun b hb h=>h2 b hb (g2 b (Nat.lt_of_lt_of_le hb h1.size) h),g3⟩
 | _=>exact h4.elim
end Abs
end
namespace iQ
open Go.RowKit Mem Abs Scan fI gF iG iP
theorem lY {p:ai→Bool} {L:List ai}:∀ {k a:Nat},l5 p L k=some a→a<k∧∃ e,L[a]? = some e∧p e=true
 | 0,a,h=>by cases h
 | k+1,a,h=>by
  rw [l5] at h
  cases hc:L[k]? with
  | none=>rw [hc] at h;obtain ⟨h1,h2⟩:=lY (k:=k) h;exact ⟨by omega,h2⟩
  | some c =>
   rw [hc] at h
   dsimp only at h
   by_cases hp:p c=true
   ·rw [if_pos hp] at h
    cases hm:l5 p L k with
    | none=>rw [hm] at h;cases h;exact ⟨Nat.lt_succ_self k,c,hc,hp⟩
    | some b =>
     rw [hm] at h
     dsimp only at h
     split at h
     ·cases h;exact ⟨Nat.lt_succ_self k,c,hc,hp⟩
     ·cases h;obtain ⟨h1,h2⟩:=lY (k:=k) hm;exact ⟨by omega,h2⟩
   ·rw [if_neg hp] at h
    obtain ⟨h1,h2⟩:=lY (k:=k) h
    exact ⟨by omega,h2⟩
def Ew (o:Option Nat):Int:=match o with
 | none => -1
 | some a=>(a:Int)
def ofP (d:List UInt8) (all:Bool) (c:ai):Bool:=all||decide (c.domain=d)
end iQ
end Go.Proofs.YtlfdjpgghiemfaaGreatDoor
