/- Texts of the proof, joined: CoD, GovW, HeadP, HeadW, HeadR. -/
import Derived.Test.YtlfdjpgghiemfaaGreatDoorH39
import Derived.Test.YtlfdjpgghiemfaaGreatDoorH40
set_option maxHeartbeats 4000000
set_option maxRecDepth 100000
namespace Go.Proofs.YtlfdjpgghiemfaaGreatDoor
section
namespace adv
open Go.RowKit Mem Abs gT eu jL jZ mr pG Ji E8 lG EM IZ Jp ZV aaM acw
abbrev TE:Nat:=40
abbrev RD:Nat:=147
abbrev eG (x:V):Blk:=.els TC 12 [x]
abbrev aaH (n:Nat):Blk:=.els TE 1 [.int .i64 (n:Int)]
section
variable {s:List UInt8}
theorem Sb (hs:s.length≤1048576) {U:List Nat} (hc:gI (aF s)=0) (hv:mJ (aF s)=some U):aK Tryz.prog 148 [.loc 0 0 0] [oF TS s 0] (Jh (given (aF s)) (fG (aF s)) U) [none]:=by
 refine bP af Tryz.func148 rfl Tryz.ntmps148 Tryz.results148 rfl rfl rfl rfl fun N pl=>?_
 refine xE hs rfl (fun V s' h1 h2 h3=>?_) (fun s' h=>?_) fun s' h=>?_
 ·rw [hv] at h2
  cases h2
  exact h3
 ·rw [hc] at h;cases h
 ·rw [hc] at h;cases h
theorem Gi (hs:s.length≤1048576) {k:Nat} (hk:gI (aF s)=k) (h0:k≠0):Xr Tryz.prog 148 [.loc 0 0 0] [oF TS s 0] (qf k):=fun g=>by
 refine CS Tryz.func148 rfl rfl fun bl pl=>?_
 rw [Tryz.ntmps148]
 refine xE hs rfl (fun V s' h1 h2 h3=>?_) (fun s' h=>?_) fun s' h=>?_
 ·exact absurd (hk.symm.trans h1) h0
 ·rw [hk] at h;subst h;rfl
 ·rw [hk] at h;subst h;rfl
theorem codes (l:List Nat):gI l=0∨gI l=5∨gI l=7:=by
 unfold gI
 split
 ·simp
 ·split
  ·simp
  ·split
   ·simp
   ·split<;>simp
theorem Xh {l:List Nat} (h:gI l=0):∃ U,mJ l=some U:=by
 unfold gI at h
 split at h
 ·cases h
 ·split at h
  ·cases h
  ·split at h
   ·cases h
   ·cases hv:mJ l with
    | none=>rw [hv] at h;cases h
    | some U=>exact ⟨U,rfl⟩
end
variable {r:V} {w:World} {φ:Nat→Pl} {x:Value} {P:Program} {N:Env} {k:Nat}
abbrev N0:Env:=⟨⟨fun _=>False,⟨0,fun _=>True⟩⟩,0,fun _=>⟨none,0,0⟩,[]⟩
theorem XY (x y:Value) (w:World):CallsD Tryz.prog RD #[x,y] .returning w fun e u' w'=>(∃ v,e = .returned v)∧u' = .returning∧Below w.heap.size w w':=by
 refine callsD_of_wpS Tryz.func147 rfl fun c0 cs hu=>?_
 have hnone:recoverD (c0::cs)=none:=by simp only [recoverD,hu]
 refine wpS_seq (wpS_region ?_)
 refine YI rfl rfl rfl hnone ?_
 refine KG rfl rfl rfl ?_
 refine wpS_of_wp ?_
 have r0:Rel N0 (fun _=>False) (· < 0) (fun _=>⟨none,0,0⟩) ⟨[],[],0,19⟩ { tmps := #[x,y]++Array.replicate (19-2) undef,defers:=[] } w:=⟨fun t v ht=>(by cases ht),(by simp),fun n k hk=>(by simp [S.blk,lk] at hk),fun n n' k k' b hk=>(by simp [S.blk,lk] at hk),fun b hb=>hb.elim (fun h=>h.elim) fun h=>h.elim,fun b hb=>hb.elim,rfl,fun n hn=>absurd hn (Nat.not_lt_zero n),⟨Nat.zero_le _,fun b hb=>Nat.zero_le _,trivial⟩⟩
 have r1:=eX (dst:=some 5) (nx:=0) r0 (v:=.nili) (.fz .nili) (fun d h=>by cases h;decide)
 have r2:=eX (dst:=some 2) (nx:=0) r1 (r1.ev (x:=.tmp 5) (v:=.nili) rfl) (fun d h=>by cases h;decide)
 have hA:∀ {c:Code},AWp Tryz.prog N0 c (fun e _=>e = .normal) ⟨[(2,.nili),(5,.nili)],[],0,19⟩→c.wp Tryz.prog (Post N0 (fun e _=>e = .normal) (fun _=>False) w) _ w:=fun h=>h _ _ _ _ r2
 refine wp_mono (hA ?_) ?_
 ·repeat' (first|refine zt ?_|(refine isR ?_;first|refine zo ?_|refine zc6 ?_)|exact ah)
  rfl
 ·rintro e a' w' ⟨M',φ',s',h1,h2,h3,rfl⟩
  obtain ⟨v,k1,_⟩:=wF (rs:=[]) (fn:=Tryz.f147) af rfl h3 (r:=.tup []) ⟨[],[],rfl,rfl,trivial,rfl⟩
  exact ⟨h3.df,c0.mode,rfl,v,k1,⟨v,rfl⟩,hu,h1.below⟩
def Z6 (k:Nat) (e:Exit) (s':S):Prop:=e = .normal∧s'.blk 0=some (eG noC)∧s'.blk 1=some (aaH k)
theorem Ww {l r:List Oper} {o:Oper} {tm:List (Nat × V)} {st:List (Nat × Option Blk)} {nx nt d T xT:Nat} {tr:List Tr} {K:S→List Tr→Prop} {x:Operand} {v:V} {ds:TypeDesc} (k:ay P N l K r ⟨(d,.tup [v,.bool true])::tm,st,nx,nt⟩ (tr++[aH l o ⟨[(x,.ifc T v)],[]⟩ []])) (ho:o.op = .typeAssert x xT T true:=by rfl) (hx:S.ev ⟨tm,st,nx,nt⟩ x=some (.ifc T v):=by rfl) (ht:P.underlying T=some ds:=by rfl) (hds:(match ds with|.interface _=>false|_=>true)=true:=by rfl) (hg:ax l o ⟨tm,st,nx,nt⟩=some true:=by rfl) (hd:o.dst=some d:=by rfl) (hlt:Nat.blt d nt=true:=by rfl):ay P N l K (o::r) ⟨tm,st,nx,nt⟩ tr:=aJ hg hd hlt (L6 ho ht hds) (hT hx h0) k
theorem Ve {M:Nat→Prop} {s0:S} {a0:Act} {y:Value} (h0:Rel N M (· < 3) φ s0 a0 w) (hb0:s0.blk 0=some (eG noC)) (hb1:s0.blk 1=some (.els TE 1 [.int .i64 0])) (hx:Rep (fun b=>M b∨N b) (· < 3) φ w (.loc 0 0 0) x) (hy:Rep (fun b=>M b∨N b) (· < 3) φ w (.loc 1 0 0) y) (hk:k≤9):
  CallsD Tryz.prog RD #[x,y] (.panicking (qf (k:Int))) w fun e u' w'=>(∃ v,e = .returned v)∧u' = .panicking [{ v:=.iface 192 (.agg #[.int .i64 (k:Int)]),recovered:=true }] ∧
   ∃ M' φ' s' a',bF M w w'∧(∀ b,b<w.heap.size→M' b→M b)∧Rel ⟨N.b,2,φ,[]⟩ M' (· < s'.nx) φ' s' a' w'∧s'.blk 0=some (eG noC)∧s'.blk 1=some (aaH k):=by
 refine callsD_of_wpS Tryz.func147 rfl fun c0 cs hu=>?_
 have hyes:recoverD (c0::cs)=some (.iface 192 (.agg #[.int .i64 (k:Int)]),{ c0 with mode:=.panicking [{ v:=.iface 192 (.agg #[.int .i64 (k:Int)]),recovered:=true }] }::cs):=by simp only [recoverD,hu]
 refine wpS_seq (wpS_region ?_)
 refine VG rfl rfl rfl hyes ?_
 refine KG rfl rfl rfl ?_
 refine wpS_of_wp ?_
 have hin:InR .i64 (k:Int):=⟨by show (-9223372036854775808:Int)≤_;omega,by show _≤(9223372036854775807:Int);omega⟩
 have old:∀ n b,S.blk ⟨[(0,.loc 0 0 0),(1,.loc 1 0 0)],[(0,some (eG noC)),(1,some (.els TE 1 [.int .i64 0]))],3,19⟩ n=some b→s0.blk n=some b:=fun n b hb=>by
  have hb2:S.blk ⟨[(0,.loc 0 0 0),(1,.loc 1 0 0)],[(0,some (eG noC)),(1,some (.els TE 1 [.int .i64 0]))],3,19⟩ n=if 0=n then some (eG noC) else if 1=n then some (.els TE 1 [.int .i64 0]) else none:=by
   unfold S.blk
   simp only [bW]
   by_cases e:0=n<;>by_cases e2:1=n<;>simp [e,e2,lk]
  rw [hb2] at hb
  split at hb
  ·rename_i e
   subst e;cases hb
   exact hb0
  ·split at hb
   ·rename_i e
    subst e;cases hb
    exact hb1
   ·cases hb
 have r0:Rel ⟨N.b,2,φ,[]⟩ M (· < 3) φ ⟨[(0,.loc 0 0 0),(1,.loc 1 0 0)],[(0,some (eG noC)),(1,some (.els TE 1 [.int .i64 0]))],3,19⟩ { tmps := #[x,y]++Array.replicate (19-2) undef,defers:=[] } w:=by
  refine ⟨fun t v ht=>?_,by simp,fun n b hb=>h0.st n b (old n b hb),fun n n' b b' z e1 e2 e3 e4=>h0.inj n n' b b' z (old n b e1) (old n' b' e2) e3 e4,h0.lim,h0.dis,rfl,fun n hn=>⟨Nat.lt_of_lt_of_le hn (show 2≤3 from by decide),rfl⟩,h0.gl⟩
  change lk [(0,V.loc 0 0 0),(1,V.loc 1 0 0)] t=some v at ht
  rw [bW,bW] at ht
  split at ht
  ·rename_i e
   subst e;cases ht
   exact ⟨by decide,by simpa using hx⟩
  ·split at ht
   ·rename_i e
    subst e;cases ht
    exact ⟨by decide,by simpa using hy⟩
   ·cases ht
 have hv:Rep (fun b=>M b∨N b) (· < 3) φ w (.ifc 192 (.agg [fC k])) (.iface 192 (.agg #[.int .i64 (k:Int)])):=by
  refine .ifc (.agg rfl (fun v hv=>?_) fun i v c hv hc=>?_)
  ·rw [List.mem_singleton] at hv;subst hv;rfl
  ·have hi:i<1:=(List.getElem?_eq_some_iff.1 hv).1
   obtain rfl:i=0:=by omega
   cases hv;cases hc
   exact .fz (.int hin)
 have r1:=eX (dst:=some 5) (nx:=3) r0 hv (fun d h=>by cases h;decide)
 have r2:=eX (dst:=some 2) (nx:=3) r1 (r1.ev (x:=.tmp 5) (v:=.ifc 192 (.agg [fC k])) rfl) (fun d h=>by cases h;exact (by decide:2<19))
 have hA:∀ {c:Code},AWp Tryz.prog ⟨N.b,2,φ,[]⟩ c (Z6 k) ⟨[(2,.ifc 192 (.agg [fC k])),(5,.ifc 192 (.agg [fC k])),(0,.loc 0 0 0),(1,.loc 1 0 0)],[(0,some (eG noC)),(1,some (.els TE 1 [.int .i64 0]))],3,19⟩→c.wp Tryz.prog (Post ⟨N.b,2,φ,[]⟩ (Z6 k) M w) _ w:=fun h=>h _ _ _ _ r2
 refine wp_mono (hA ?_) ?_
 ·repeat' (first|refine zt ?_|(refine isR ?_;first|refine zo ?_|refine Ww ?_|refine zc6 ?_)|exact ah)
  exact ⟨rfl,rfl,rfl⟩
 ·rintro e a' w' ⟨M',φ',s',h1,h2,h3,rfl,h4,h5⟩
  obtain ⟨v,k1,_⟩:=wF (rs:=[]) (fn:=Tryz.f147) af rfl h3 (r:=.tup []) ⟨[],[],rfl,rfl,trivial,rfl⟩
  exact ⟨h3.df,_,rfl,v,k1,⟨v,rfl⟩,rfl,M',φ',s',a',h1,h2,h3,h4,h5⟩
def adP (b:Bg) (f:Nat) (Q':Exit→S→Prop) (M':Nat→Prop) (φ':Nat→Pl) (e:Exit) (a':Act) (w':World):Prop :=
 ∃ x y s',a'.defers=[⟨.fn (.func f) #[x,y],#[]⟩]∧Rep (fun k=>M' k∨b.bl k) (· < s'.nx) φ' w' (.loc 0 0 0) x∧Rep (fun k=>M' k∨b.bl k) (· < s'.nx) φ' w' (.loc 1 0 0) y∧(∃ pl,Rel ⟨b,2,pl,a'.defers⟩ M' (· < s'.nx) φ' s' a' w')∧Q' e s'
theorem uo {X X' A A':Nat→Prop} {φ':Nat→Pl} {w':World} {n i off:Nat} (h:Rep X A φ w (.loc n i off) x) (hA:A' n) (hφ:φ' n=φ n):Rep X' A' φ' w' (.loc n i off) x:=by
 obtain ⟨bk,e1,rfl⟩:=iX h
 rw [← hφ] at e1 ⊢
 exact .loc hA e1
theorem Qx {b:Bg} {pl0:Nat→Pl} {s:S} {y:Code} {id:Nat} {o1 o2:Oper} {f d1 t2 t3:Nat} {Q':Exit→S→Prop} (k:∀ pl df,AWp P ⟨b,2,pl,df⟩ y Q' s) (h1:o1.op = .makeFunc (.func f) #[] #[.tmp t2,.tmp t3]) (hd1:o1.dst=some d1) (hg1:o1.guard=none) (h2:o2.op = .defer { callee:=.value (.tmp d1),args := #[],argTypes := #[] }) (hd2:o2.dst=none) (hg2:o2.guard=none) (hv2:lk s.tm t2=some (.loc 0 0 0)) (hv3:lk s.tm t3=some (.loc 1 0 0)) (hn:lk s.tm d1=none) (hlt:d1<s.nt) (hnx:2≤s.nx):BWp P ⟨b,0,pl0,[]⟩ (.seq (.region id [o1,o2].toArray false) y) (adP b f Q') s:=fun M φ a w hr=>by
 refine wp_seq (wp_region_lit ?_)
 have hl1:d1<a.tmps.size:=by rw [hr.nt];exact hlt
 refine wpList_step fun K hK=>?_
 rw [if_pos (by unfold Region.wanted;rw [hg1])]
 have run1:(execOp a.eval o1).run P w = .ok (.value (.func (.func f) #[] #[a.tmps.getD t2 undef,a.tmps.getD t3 undef])) w:=by
  have e1:Array.map a.eval #[Operand.tmp t2,Operand.tmp t3] = #[a.tmps.getD t2 undef,a.tmps.getD t3 undef]:=by simp [Act.eval]
  have e2:Array.map a.eval #[] = #[]:=by simp
  unfold execOp
  simp only [h1]
  rw [e1,e2]
  rfl
 unfold Oper.wp
 rw [run1]
 refine hK _ _ ?_
 refine wpList_step fun K hK=>?_
 rw [if_pos (by unfold Region.wanted;rw [hg2])]
 have ev:(a.put o1.dst (.func (.func f) #[] #[a.tmps.getD t2 undef,a.tmps.getD t3 undef])).eval (.tmp d1) = .func (.func f) #[] #[a.tmps.getD t2 undef,a.tmps.getD t3 undef]:=by
  rw [hd1]
  show (a.put (some d1) _).tmps.getD d1 undef=_
  rw [BL a d1 d1 _ hl1,if_pos rfl]
 have run2:(execOp (a.put o1.dst (.func (.func f) #[] #[a.tmps.getD t2 undef,a.tmps.getD t3 undef])).eval o2).run P w = .ok (.defer ⟨.fn (.func f) #[a.tmps.getD t2 undef,a.tmps.getD t3 undef],#[]⟩) w:=by
  unfold execOp
  simp only [h2,resolve,ev,Deferred.ofValue,List.map_toArray,List.map_nil,Sem.run_bind,Sem.run_pure,Result.andThen_ok]
  rfl
 unfold Oper.wp
 rw [run2]
 refine hK _ _ (wpList_nil ?_)
 have hx:=(hr.tm t2 _ hv2).2
 have hy:=(hr.tm t3 _ hv3).2
 generalize hX:a.tmps.getD t2 undef=x at *
 generalize hY:a.tmps.getD t3 undef=z at *
 rw [hd1,hd2]
 have hdf:a.defers=[]:=hr.df
 have rel:Rel ⟨b,2,φ,[⟨.fn (.func f) #[x,z],#[]⟩]⟩ M (· < s.nx) φ s ({ a.put (some d1) (.func (.func f) #[] #[x,z]) with defers:=⟨.fn (.func f) #[x,z],#[]⟩::(a.put (some d1) (.func (.func f) #[] #[x,z])).defers }.put none undef) w:=by
  refine ⟨fun t v ht=>?_,?_,hr.st,hr.inj,hr.lim,hr.dis,?_,fun n hn=>⟨Nat.lt_of_lt_of_le hn hnx,rfl⟩,hr.gl⟩
  ·obtain ⟨g1,g2⟩:=hr.tm t v ht
   refine ⟨g1,?_⟩
   show Rep _ _ _ _ v ((a.put (some d1) _).tmps.getD t undef)
   rw [BL a d1 t _ hl1,if_neg (fun e=>by subst e;rw [hn] at ht;cases ht)]
   exact g2
  ·show (a.put (some d1) _).tmps.size=s.nt
   rw [← hr.nt]
   simp [Act.put]
  ·show _::a.defers=_
   rw [hdf]
 refine wp_mono (k φ _ M φ _ w rel) fun e a' w' ⟨M',φ',s',g1,g2,g3,g4⟩=>?_
 have p0:=g3.pin 0 (by decide:0<2)
 have p1:=g3.pin 1 (by decide:1<2)
 exact ⟨M',φ',g1,g2,x,z,s',g3.df,uo hx p0.1 p0.2,uo hy p1.1 p1.2,⟨φ,g3.df ▸ g3⟩,g4⟩
abbrev rsR:List ResultVar:=[.cell 2 TC,.cell 3 TE]
theorem VB {s:S} (h2:lk s.tm 2=some (.loc 0 0 0)) (h3:lk s.tm 3=some (.loc 1 0 0)) (hb0:s.blk 0=some (eG noC)) (hb1:s.blk 1=some (aaH k)):Abs.Ends tb rsR s (.tup [noC,fC k]):=by
 refine ⟨[noC,fC k],[noC,fC k],?_,rfl,?_,rfl⟩
 ·have e1:Kl tb s (.cell 2 TC)=some noC:=by
   rw [Kl,h2]
   show (match s.blk 0 with
    | some (.els _ _ xs)=>match nth xs 0 with
     | some el=>lJ el.cells 0 _ _
     | none=>none
    | _=>none)=_
   rw [hb0]
   rfl
  have e2:Kl tb s (.cell 3 TE)=some (fC k):=by
   rw [Kl,h3]
   show (match s.blk 1 with
    | some (.els _ _ xs)=>match nth xs 0 with
     | some el=>lJ el.cells 0 _ _
     | none=>none
    | _=>none)=_
   rw [hb1]
   rfl
  rw [nG,e1,nG,e2,nG]
 ·repeat' first|exact trivial|constructor
def RdQ (r:V) (e:Exit) (s':S):Prop:=match e with
 | .ret=>qO tb rsR r .ret s'
 | .panic ch=>∃ k:Nat,k≤9∧ch=qf (k:Int)∧r = .tup [noC,fC k]∧lk s'.tm 2=some (.loc 0 0 0)∧lk s'.tm 3=some (.loc 1 0 0)∧s'.nx=3∧s'.blk 0=some (eG noC)∧s'.blk 1=some (.els TE 1 [.int .i64 0])
 | _=>False
theorem OA {s':S} (h:qO tb rsR r .ret s'):RdQ r .ret s':=h
theorem caught {t:List UInt8} (hB:∀ b:Bg,∀ c,Tryz.f112.body=some c→BWp Tryz.prog ⟨b,0,fun _=>⟨none,0,0⟩,[]⟩ c (adP b RD (RdQ r)) ⟨[(0,au t)],[],0,35⟩):aj Tryz.prog 112 [au t] r:=fun g N w vs hG hN hlen hv=>by
 obtain ⟨vs⟩:=vs
 match vs,hlen with
 | [x0],_ =>
  have hx0:=hv 0 _ x0 rfl rfl
  have r0:Rel ⟨⟨N,g⟩,0,fun _=>⟨none,0,0⟩,[]⟩ (fun _=>False) (· < 0) (fun _=>⟨none,0,0⟩) ⟨[(0,au t)],[],0,35⟩ { tmps := #[x0]++Array.replicate (35-1) undef,defers:=[] } w:=by
   refine ⟨fun q v hq=>?_,(by simp),fun n k hk=>(by simp [S.blk,lk] at hk),fun n n' k k' b hk=>(by simp [S.blk,lk] at hk),fun b hb=>hN b (hb.resolve_left id),fun b hb=>hb.elim,rfl,fun n hn=>absurd hn (Nat.not_lt_zero n),hG.sub fun b hb=>hb.resolve_left id⟩
   change lk [(0,au t)] q=some v at hq
   rw [bW] at hq
   split at hq
   ·rename_i e
    subst e;cases hq
    have hx1:Rep (fun b=>False∨N b) (· < 0) (fun _=>⟨none,0,0⟩) w (au t) x0:=.fz (hx0.mono (fun b _ h=>h.resolve_left id) (.refl _ w))
    exact ⟨(by decide:0<35),by simpa using hx1⟩
   ·cases hq
  refine calls_of_wp_defers Tryz.func112 rfl ?_
  refine wp_mono (hB ⟨N,g⟩ _ rfl _ _ _ _ r0) ?_
  rintro e a' w' ⟨M',φ',hs1,hs2,x,y,s',hdf,hx,hy,⟨pl,hrel⟩,hq⟩
  have hi:(invoke (.fn (.func RD) #[x,y]) #[]).run Tryz.prog w' = .ok (.enter RD #[x,y]) w':=by
   have h:=enters (P:=Tryz.prog) (f:=RD) (by kernel_rfl) #[x,y] w'
   unfold invoke
   simp [h]
  cases e with
  | ret =>
   have hq:qO tb rsR r .ret s':=hq
   show Leaves _ _ _ _ a'.defers .returning w'
   rw [hdf]
   refine leaves_cons (fun h=>by cases h) hi ((XY x y w').mono ?_)
   rintro e u' w2 ⟨⟨v,rfl⟩,rfl,hb⟩
   obtain ⟨z,k1,k2⟩:=wF (fn:=Tryz.f112) af rfl (hrel.grow hb) hq
   exact ⟨z,k1,z,rfl,(hs1.trans (.of_below (M:=fun _=>False) hb) fun _ _ h=>h).below,k2⟩
  | panic ch =>
   obtain ⟨k,hk9,rfl,rfl,h2,h3,hnx,hb0,hb1⟩:=hq
   show Leaves _ _ _ _ a'.defers (.panicking (qf (k:Int))) w'
   rw [hdf]
   rw [hnx] at hrel hx hy
   refine leaves_cons (fun h=>by cases h) hi ((Ve hrel hb0 hb1 hx hy hk9).mono ?_)
   rintro e u' w2 ⟨⟨v,rfl⟩,rfl,M2,φ2,s2,a2,g1,g2,g3,g4,g5⟩
   have p0:=g3.pin 0 (by decide:0<2)
   have p1:=g3.pin 1 (by decide:1<2)
   have hrel2:Rel ⟨⟨N,g⟩,2,φ',a'.defers⟩ M2 (· < s2.nx) φ2 ⟨[(2,.loc 0 0 0),(3,.loc 1 0 0)],s2.st,s2.nx,s'.nt⟩ a' w2:=by
    refine ⟨fun q v hq=>?_,hrel.nt,g3.st,g3.inj,g3.lim,g3.dis,rfl,g3.pin,g3.gl⟩
    change lk [(2,V.loc 0 0 0),(3,V.loc 1 0 0)] q=some v at hq
    rw [bW,bW] at hq
    split at hq
    ·rename_i e
     subst e;cases hq
     obtain ⟨m1,m2⟩:=hrel.tm 2 _ h2
     exact ⟨m1,uo m2 p0.1 p0.2⟩
    ·split at hq
     ·rename_i e
      subst e;cases hq
      obtain ⟨m1,m2⟩:=hrel.tm 3 _ h3
      exact ⟨m1,uo m2 p1.1 p1.2⟩
     ·cases hq
   obtain ⟨z,k1,k2⟩:=wF (fn:=Tryz.f112) af rfl hrel2 (VB rfl rfl g4 g5)
   have hz:Below w.heap.size w w2:=by
    have:bF (fun _=>False) w w2:=⟨g1.os.trans hs1.os,g1.tape.trans hs1.tape,g1.output.trans hs1.output,Nat.le_trans hs1.size g1.size,fun q hq _=>by
     rw [g1.block q (Nat.lt_of_lt_of_le hq hs1.size) fun h=>hs2 q hq h,hs1.block q hq id]⟩
    exact this.below
   exact ⟨z,k1,z,rfl,hz,k2⟩
  | _=>exact hq.elim
end adv
namespace ab3
open Go.RowKit Mem Abs gT eu jL jZ mr pG Ji E8 lG EM IZ Jp ZV aaM acw adv
def rdV (r:Rd):V:=.tup [if r.2.2.2=0 then Jh r.1 r.2.1 r.2.2.1 else noC,fC r.2.2.2]
theorem CJ {c:Nat} (h:c≠0):rdV (NK c) = .tup [noC,fC c]:=by
 unfold rdV NK
 dsimp only
 rw [if_neg h]
theorem DY {t:List UInt8} (ht:t.length≤140737488355328):aj Tryz.prog 112 [au t] (rdV (o9 t)):=by
 have cs:=abm ht
 have hw:=DU t
 by_cases h1:(bC t).2=0
 ·have hlen:=(hw h1).1
  rw [show bC t=((bC t).1,0) from Prod.ext rfl h1] at cs
  have hrc:o9 t=if gI (aF (bC t).1)≠0 then NK (gI (aF (bC t).1)) else O0 t (aF (bC t).1) ((mJ (aF (bC t).1)).getD []):=by
   unfold o9
   rw [if_neg (by rw [h1];decide)]
  rw [hrc]
  clear hrc hw
  generalize (bC t).1=s at *
  refine caught fun b c hc=>?_
  have hc2:_=c:=Option.some.inj (hc:some _=some c)
  subst hc2
  clear hc
  refine HV ?_
  repeat' (first|refine zt ?_|(refine isR ?_;first|refine zo ?_|refine zc6 ?_)|refine zr ?_|exact ah)
  refine HV ?_
  repeat' (first|refine zt ?_|(refine isR ?_;first|refine zo ?_|refine zk cs ?_|refine zc6 ?_)|refine zr ?_|exact ah)
  refine HV ?_
  repeat' (first|refine zt ?_|(refine isR ?_;first|refine zo ?_|refine zc6 ?_)|refine zr ?_|exact ah)
  refine Qx (d1:=15) (t2:=2) (t3:=3) (fun pl df=>?_) rfl rfl rfl rfl rfl rfl rfl rfl rfl (Nat.le_of_ble_eq_true rfl) (Nat.le_of_ble_eq_true rfl)
  refine Iy (s1:=⟨[(2,.loc 0 0 0),(3,.loc 1 0 0),(4,au s),(0,au t)],[(0,some (eG noC)),(1,some (.els TE 1 [.int .i64 0]))],2,35⟩) (by exact ah) ?_
  have hs:s.length≤1048576:=by omega
  rcases codes (aF s) with hc|hc|hc
  ·obtain ⟨U,hv⟩:=Xh hc
   have cv:=Sb hs hc hv
   rw [if_neg (by rw [hc];decide),hv,Option.getD_some]
   have cK:=lC (g:=(given (aF s):Int)) (P:=fG (aF s)) (L:=toI U)
   rw [← wD] at cK
   unfold O0
   by_cases hk:bD.check (given (aF s):Int) (toI U)=0
   ·obtain ⟨hg,hR⟩:=um.1 hk
    have cR:=Gr (g:=given (aF s)) (P:=fG (aF s)) (by omega) (FU.1 hR)
    rw [hk] at cK
    by_cases he:qy (given (aF s)) (fG (aF s)) U=t
    ·rw [if_pos ⟨hk,he⟩]
     have hr:rdV (given (aF s),fG (aF s),U,0) = .tup [Jh (given (aF s)) (fG (aF s)) U,fC 0]:=rfl
     rw [hr]
     clear hr hk hg hR hc hv
     generalize qy (given (aF s)) (fG (aF s)) U=TX at *
     generalize given (aF s)=g at *
     generalize fG (aF s)=P at *
     repeat' (first|with_reducible refine OA ?_|refine zt ?_|(refine isR ?_;first|refine zo ?_|refine x_m [2] [] (cv _) ?_|refine x_m [2] [] (cv) ?_|refine zk cK ?_|refine zk cR ?_|refine zc6 ?_)|refine zr ?_|exact ah)
     rfl
    ·rw [if_neg fun h=>he h.2,CJ (by decide)]
     clear hk hg hR hc hv
     generalize qy (given (aF s)) (fG (aF s)) U=TX at *
     generalize given (aF s)=g at *
     generalize fG (aF s)=P at *
     repeat' (first|with_reducible refine OA ?_|refine zt ?_|(refine isR ?_;first|refine zo ?_|refine x_m [2] [] (cv _) ?_|refine x_m [2] [] (cv) ?_|refine zk cK ?_|refine zk cR ?_|refine zc6 ?_)|refine zr ?_|exact ah)
     rfl
   ·rw [if_neg fun h=>hk h.1,CJ (by decide)]
    have hk':(bD.check (given (aF s):Int) (toI U):Int)≠0:=by omega
    clear hc hv
    generalize bD.check (given (aF s):Int) (toI U)=z at *
    generalize given (aF s)=g at *
    generalize fG (aF s)=P at *
    repeat' (first|with_reducible refine OA ?_|refine zt ?_|(refine isR ?_;first|refine zo ?_|refine x_m [2] [] (cv _) ?_|refine x_m [2] [] (cv) ?_|refine zk cK ?_|refine zc6 ?_)|refine zr ?_|exact ah)
    rfl
  ·have cp:=Gi hs hc (by decide)
   rw [if_pos (by rw [hc];decide),hc,CJ (by decide)]
   repeat' (first|refine bZ (id:=7) 1 ?_|(refine nO ?_;refine kR [2] (cp _) ?_)|refine zt ?_|(refine isR ?_;first|refine zo ?_|refine zc6 ?_)|refine zr ?_|exact ah)
   exact ⟨5,by decide,rfl,rfl,rfl,rfl,rfl,rfl,rfl⟩
  ·have cp:=Gi hs hc (by decide)
   rw [if_pos (by rw [hc];decide),hc,CJ (by decide)]
   repeat' (first|refine bZ (id:=7) 1 ?_|(refine nO ?_;refine kR [2] (cp _) ?_)|refine zt ?_|(refine isR ?_;first|refine zo ?_|refine zc6 ?_)|refine zr ?_|exact ah)
   exact ⟨7,by decide,rfl,rfl,rfl,rfl,rfl,rfl,rfl⟩
 ·have hrc:o9 t=NK (bC t).2:=by unfold o9;rw [if_pos h1]
  rw [hrc,CJ h1]
  have h1':((bC t).2:Int)≠0:=by omega
  refine aU af Tryz.func112 rfl Tryz.ntmps112 Tryz.results112 rfl fun N=>?_
  repeat' (first|refine zt ?_|(refine isR ?_;first|refine zo ?_|refine zk cs ?_|refine zc6 ?_)|refine zr ?_|exact ah)
  rfl
end ab3
end
namespace UI
open Go.RowKit Mem Abs eO cu gV dV Rdy Scan fI gF iG iP iQ kY JU nu oZ uR yh yO Aq RjP Aw Cy EW NN QK nP nH nR nA mZ
open lG (gD gu wD)
theorem Ku {p:Pol} {P:Nat→Bool} {U:List Int} {now:Int} {L:List ai} {x:ai} (h:x∈dm p P U now L):∃ c∈L,x=bM p c:=by
 unfold dm at h
 obtain ⟨c,hc,hx⟩:=List.mem_flatMap.1 h
 split at hx
 ·exact ⟨c,hc,List.mem_singleton.1 hx⟩
 ·cases hx
end UI
namespace kZ
open Abs bH bX dn
def vw (c:Int):Bool:=(decide (c<32) && !decide (c=9))||decide (c=127)
def jY (b:UInt8):Bool:=vw (b.toNat:Int)
def mQ (s:List UInt8):Bool:=s.all fun b => !jY b
def fH (p:List UInt8):List UInt8 × List UInt8 × Bool:=(trim (iy 61 p).1,trim (iy 61 p).2.1,(iy 61 p).2.2)
def bQ (p:List UInt8):Option Attr:=if fold (fH p).1=[] then none else some ⟨fold (fH p).1,(fH p).2.1⟩
def DI:Raw:=⟨[],[],[]⟩
def vJ (s:List UInt8):Raw × Int :=
 if 400<s.length then (DI,2) else if mQ s=false then (DI,1) else
 match split 59 s with
 | []=>(DI,1)
 | p::r=>if (fH p).2.2=false∨(fH p).1=[] then (DI,1) else if 12<(r.filterMap bQ).length then (DI,2) else (⟨(fH p).1,(fH p).2.1,r.filterMap bQ⟩,0)
def nX (s:List UInt8):Bool:=decide (trim s=s)&&(mQ s && !s.contains 59)
def sH (s:List UInt8):Bool := !decide (s=[])&&(nX s && !s.contains 61)
def okA (a:Attr):Bool:=sH a.name&&(decide (fold a.name=a.name)&&nX a.value)
def bA (r:Raw):Int:=if sH r.name&&(nX r.value&&r.attrs.all okA) then (if 12<r.attrs.length then 2 else 0) else 1
theorem Jr (p:List UInt8):(fH p).1.length≤p.length∧(fH p).2.1.length≤p.length:=by
 have h:=J9 61 p
 exact ⟨Nat.le_trans (bH.Db _) h.1,Nat.le_trans (bH.Db _) h.2⟩
end kZ
namespace Ki
open Go.RowKit Mem Abs bH bX dn kZ Nl Bld
theorem OC {c:Int}:aj Tryz.prog 167 [.int .i32 c] (.bool (vw c)):=by
 refine aU af Tryz.func167 rfl Tryz.ntmps167 Tryz.results167 rfl fun N=>?_
 unfold vw
 repeat' (first|refine zt ?_|(refine isR ?_;first|refine zo ?_|refine zc5 ?_|(refine zs ?_ ?_<;>intro hc))|refine zr ?_|exact ah)
 all_goals (show V.bool _=V.bool _;first|(simp [*];done)|(simp [*];omega))
theorem VD {s:List UInt8}:aj Tryz.prog 214 [au s,.fn (.func 167) [] [],.bool true] (.int .i64 (fE jY s)):=aj.lim fun hl=>by
 have hlim:=(gK hl).1
 refine vS af Tryz.func214 rfl Tryz.ntmps214 Tryz.results214 rfl fun N=>?_
 repeat' (first|refine zt ?_|(refine isR ?_;first|refine zo ?_|refine Ij af ?_|refine zc5 ?_)|refine zr ?_|exact ah)
 refine dP (fun k=>⟨[(0,au s),(1,.fn (.func 167) [] []),(2,.bool true),(10,.loc 0 0 0)],[(0,some (.sit (str s) k))],1,21⟩) (fun k=>k≤s.length∧∀ j y,j<k→s[j]? = some y→jY y=false) (fun k=>s.length-k) 0 (by exact ah) ⟨Nat.zero_le _,fun j y h=>absurd h (Nat.not_lt_zero _)⟩ ?_
 intro k ⟨hk,hp⟩
 have hsz:(str s).size=s.length:=aM s
 by_cases hk2:k<s.length
 ·obtain ⟨c,wd,hdec,h1,h2,h3,hcase⟩:=IE s k hk2
  have hps:k<(str s).size:=by rw [hsz];exact hk2
  have hw:k+wd≤dY:=by simp only [dY];omega
  have c1:=OC (c:=(c:Int))
  rcases hcase with ⟨b,g1,g2,g3,g4⟩|⟨g1,g2⟩
  ·cases hb:vw (c:Int) with
   | true =>
    rw [hb] at c1
    repeat' (first|refine zt ?_|(refine isR ?_;first|refine zo ?_|refine nY _ _ ?_|refine ak (c1 _) ?_|refine ak (c1) ?_|refine zc5 ?_)|refine zr ?_|exact ah)
    show V.int .i64 _=V.int .i64 _
    rw [oh hp g1 (by unfold jY;rw [← g3];exact hb)]
   | false =>
    rw [hb] at c1
    repeat' (first|refine zt ?_|(refine isR ?_;first|refine zo ?_|refine nY _ _ ?_|refine ak (c1 _) ?_|refine ak (c1) ?_|refine zc5 ?_)|refine zr ?_|exact ah)
    refine ⟨k+wd,⟨h2,fun j y hj hy=>?_⟩,by omega,(by exact ah)⟩
    by_cases e:j<k
    ·exact hp j y e hy
    ·obtain rfl:j=k:=by omega
     rw [g1] at hy;cases hy
     unfold jY;rw [← g3];exact hb
  ·have hb:vw (c:Int)=false:=by
    unfold vw
    rw [decide_eq_false (by omega),decide_eq_false (by omega),decide_eq_false (by omega)];rfl
   rw [hb] at c1
   repeat' (first|refine zt ?_|(refine isR ?_;first|refine zo ?_|refine nY _ _ ?_|refine ak (c1 _) ?_|refine ak (c1) ?_|refine zc5 ?_)|refine zr ?_|exact ah)
   refine ⟨k+wd,⟨h2,fun j y hj hy=>?_⟩,by omega,(by exact ah)⟩
   by_cases e:j<k
   ·exact hp j y e hy
   ·obtain ⟨b,f1,f2⟩:=g2 j (by omega) (by omega)
    rw [f1] at hy;cases hy
    unfold jY vw
    rw [decide_eq_false (by omega),decide_eq_false (by omega),decide_eq_false (by omega)];rfl
 ·have hps:¬ k<(str s).size:=by rw [hsz];exact hk2
  repeat' (first|refine zt ?_|(refine isR ?_;first|refine zo ?_|refine Bo ?_|refine zc5 ?_)|refine zr ?_|exact ah)
  show V.int .i64 _=V.int .i64 _
  rw [kE fun x hx=>?_]
  obtain ⟨i,hi⟩:=List.mem_iff_getElem?.1 hx
  exact hp i x (by have:=(List.getElem?_eq_some_iff.1 hi).1;omega) hi
theorem lN {s:List UInt8}:aj Tryz.prog 166 [au s,.fn (.func 167) [] []] (.int .i64 (fE jY s)):=by
 have c1:=VD (s:=s)
 refine aW af Tryz.func166 rfl Tryz.ntmps166 Tryz.results166 rfl fun N=>?_
 repeat' (first|refine zt ?_|(refine isR ?_;first|refine zo ?_|refine zk c1 ?_)|refine zr ?_|exact ah)
 rfl
theorem yI (s:List UInt8):mQ s=decide (fE jY s<0):=by
 have h:=lW (p:=jY) (l:=s)
 have e:mQ s = !s.any jY:=by unfold mQ;rw [List.not_any_eq_all_not]
 rw [e]
 cases ha:s.any jY with
 | true=>rw [ha] at h;rw [decide_eq_false (by have:=h.2 rfl;omega)];rfl
 | false =>
  have:¬ (0≤fE jY s):=fun g=>by rw [h.1 g] at ha;cases ha
  rw [decide_eq_true (by omega)];rfl
theorem Fy {s:List UInt8}:aj Tryz.prog 126 [au s] (.bool (mQ s)):=by
 have c1:=lN (s:=s)
 rw [yI]
 generalize fE jY s=n at *
 refine aU af Tryz.func126 rfl Tryz.ntmps126 Tryz.results126 rfl fun N=>?_
 repeat' (first|refine zt ?_|(refine isR ?_;first|refine zo ?_|refine zk c1 ?_|(refine zs1 ?_ ?_<;>intro hc))|refine zr ?_|exact ah)
 all_goals (show V.bool _=V.bool _;simp [*])
theorem fD {s:List UInt8} {c:UInt8}:aj Tryz.prog 173 [au s,au [c]] (.bool (s.contains c)):=fun g N w vs hG hN hlen hv=>by
 obtain ⟨vs⟩:=vs
 match vs,hlen with
 | [x0,x1],_ =>
  obtain ⟨rfl,h0⟩:=iJ (hv 0 _ x0 rfl rfl)
  obtain ⟨rfl,_⟩:=iJ (hv 1 _ x1 rfl rfl)
  refine (Tryz.strings_Contains_one (str s) c w).mono fun e w' ⟨h1,h2⟩=>⟨_,h1,h2 ▸ Below.refl _ _,?_⟩
  rw [aY,index_ge]
  exact .bool
theorem Jg {s:List UInt8}:aj Tryz.prog 171 [au s] (.bool (nX s)):=by
 have c1:=qX (l:=s)
 have c2:=Fy (s:=s)
 have c3:=fD (s:=s) (c:=59)
 unfold nX
 generalize trim s=t at *
 generalize mQ s=x at *
 generalize s.contains 59=y at *
 by_cases h:t=s
 ·rw [decide_eq_true h]
  cases x
  ·refine aU af Tryz.func171 rfl Tryz.ntmps171 Tryz.results171 rfl fun N=>?_
   repeat' (first|refine zt ?_|(refine isR ?_;first|refine zo ?_|refine zk c1 ?_|refine zk c2 ?_|refine zc5 ?_)|refine zr ?_|exact ah)
   rfl
  ·refine aU af Tryz.func171 rfl Tryz.ntmps171 Tryz.results171 rfl fun N=>?_
   repeat' (first|refine zt ?_|(refine isR ?_;first|refine zo ?_|refine zk c1 ?_|refine zk c2 ?_|refine zk c3 ?_|refine zc5 ?_)|refine zr ?_|exact ah)
   rfl
 ·rw [decide_eq_false h]
  refine aU af Tryz.func171 rfl Tryz.ntmps171 Tryz.results171 rfl fun N=>?_
  repeat' (first|refine zt ?_|(refine isR ?_;first|refine zo ?_|refine zk c1 ?_|refine zc5 ?_)|refine zr ?_|exact ah)
  rfl
theorem PY {s:List UInt8}:aj Tryz.prog 170 [au s] (.bool (sH s)):=by
 have c1:=Jg (s:=s)
 have c2:=fD (s:=s) (c:=61)
 unfold sH
 generalize nX s=x at *
 generalize s.contains 61=y at *
 by_cases h:s=[]
 ·rw [decide_eq_true h]
  refine aU af Tryz.func170 rfl Tryz.ntmps170 Tryz.results170 rfl fun N=>?_
  repeat' (first|refine zt ?_|(refine isR ?_;first|refine zo ?_|refine zc6 ?_)|refine zr ?_|exact ah)
  rfl
 ·rw [decide_eq_false h]
  cases x
  ·refine aU af Tryz.func170 rfl Tryz.ntmps170 Tryz.results170 rfl fun N=>?_
   repeat' (first|refine zt ?_|(refine isR ?_;first|refine zo ?_|refine zk c1 ?_|refine zc6 ?_)|refine zr ?_|exact ah)
   rfl
  ·refine aU af Tryz.func170 rfl Tryz.ntmps170 Tryz.results170 rfl fun N=>?_
   repeat' (first|refine zt ?_|(refine isR ?_;first|refine zo ?_|refine zk c1 ?_|refine zk c2 ?_|refine zc6 ?_)|refine zr ?_|exact ah)
   rfl
theorem adj {a:Attr}:aj Tryz.prog 169 [a.v] (.bool (!okA a)):=by
 have c1:=PY (s:=a.name)
 have c2:=qh (l:=a.name)
 have c3:=Jg (s:=a.value)
 unfold okA
 obtain ⟨n,v⟩:=a
 dsimp only at *
 generalize sH n=x at *
 generalize nX v=y at *
 generalize fold n=m at *
 cases x
 ·refine aU af Tryz.func169 rfl Tryz.ntmps169 Tryz.results169 rfl fun N=>?_
  repeat' (first|refine zt ?_|(refine isR ?_;first|refine zo ?_|refine zk c1 ?_|refine zc6 ?_)|refine zr ?_|exact ah)
  rfl
 ·by_cases h:m=n
  ·rw [decide_eq_true h]
   refine aU af Tryz.func169 rfl Tryz.ntmps169 Tryz.results169 rfl fun N=>?_
   repeat' (first|refine zt ?_|(refine isR ?_;first|refine zo ?_|refine zk c1 ?_|refine zk c2 ?_|refine zk c3 ?_|refine zc6 ?_)|refine zr ?_|exact ah)
   rfl
  ·rw [decide_eq_false h]
   refine aU af Tryz.func169 rfl Tryz.ntmps169 Tryz.results169 rfl fun N=>?_
   repeat' (first|refine zt ?_|(refine isR ?_;first|refine zo ?_|refine zk c1 ?_|refine zk c2 ?_|refine zc6 ?_)|refine zr ?_|exact ah)
   rfl
end Ki
namespace V4
open Go.RowKit Mem Abs bH bX dn kZ Nl Bld Ki
variable {L:List Attr}
instance:DecidableEq Attr:=fun a b=>if h:a.name=b.name∧a.value=b.value then isTrue (by cases a;cases b;cases h.1;cases h.2;rfl) else isFalse (fun e=>h (by rw [e];exact ⟨rfl,rfl⟩))
instance:DecidableEq Raw:=fun a b=>if h:a.name=b.name∧a.value=b.value∧a.attrs=b.attrs then isTrue (by cases a;cases b;cases h.1;cases h.2.1;cases h.2.2;rfl) else isFalse (fun e=>h (by rw [e];exact ⟨rfl,rfl,rfl⟩))
theorem Uc {r:List Abs.V} (h:V.qR (.fro (L.map Attr.v)::r)):L.length≤140737488355328:=by have:=h.1.1;simpa using this
theorem Vk:aj Tryz.prog 222 [.fro (L.map Attr.v),.fn (.func 169) [] []] (.int .i64 (fE (fun a => !okA a) L)):=aj.lim fun hl=>by
 have hlim:=Uc hl
 have hx:((L.map Attr.v).length:Int)=(L.length:Int):=by simp
 refine aW af Tryz.func222 rfl Tryz.ntmps222 Tryz.results222 rfl fun N=>?_
 repeat' (first|refine zt ?_|(refine isR ?_;first|refine zo ?_|refine zX ?_)|refine zr ?_|exact ah)
 refine bE (fun k=>⟨[(0,.fro (L.map Attr.v)),(1,.fn (.func 169) [] []),(7,.int .i64 (L.map Attr.v).length),(8,.int .i64 (k:Int))],[],0,19⟩) (fun k=>k≤L.length∧∀ j y,j<k→L[j]? = some y→(!okA y)=false) L.length 0 (by exact ah) ⟨Nat.zero_le _,fun j y h=>absurd h (Nat.not_lt_zero _)⟩ ?_
 intro k ⟨hk,hp⟩
 by_cases hk2:k<L.length
 ·have e1:(L.map Attr.v)[k]? = some (L[k]).v:=by simp [hk2]
  have e2:L[k]? = some L[k]:=by simp [hk2]
  generalize L[k]=a at e1 e2
  have c1:=adj (a:=a)
  cases ho : !okA a with
  | true =>
   rw [ho] at c1
   repeat' (first|refine zt ?_|(refine isR ?_;first|refine zo ?_|refine ak (c1 _) ?_|refine ak (c1) ?_|refine zX ?_)|refine zr ?_|exact ah)
   rw [oh hp e2 ho];rfl
  | false =>
   rw [ho] at c1
   repeat' (first|refine zt ?_|(refine isR ?_;first|refine zo ?_|refine ak (c1 _) ?_|refine ak (c1) ?_|refine zX ?_)|refine zr ?_|exact ah)
   refine ⟨⟨by omega,fun j y hj hy=>?_⟩,by omega,(by exact ah)⟩
   rcases Nat.lt_succ_iff_lt_or_eq.1 hj with h1|rfl
   ·exact hp j y h1 hy
   ·rw [e2] at hy;cases hy;exact ho
 ·repeat' (first|refine zt ?_|(refine isR ?_;first|refine zo ?_|refine zX ?_)|refine zr ?_|exact ah)
  rw [kE fun x hx'=>?_];rfl
  obtain ⟨i,hi⟩:=List.mem_iff_getElem?.1 hx'
  exact hp i x (by have:=(List.getElem?_eq_some_iff.1 hi).1;omega) hi
theorem LW:aj Tryz.prog 172 [.fro (L.map Attr.v),.fn (.func 169) [] []] (.bool (!L.all okA)):=by
 have c1:=Vk (L:=L)
 have h:=lW (p:=fun a => !okA a) (l:=L)
 have e:(!L.all okA)=L.any fun a => !okA a:=by rw [List.not_all_eq_any_not]
 rw [e]
 generalize fE (fun a => !okA a) L=n at *
 generalize (L.any fun a => !okA a)=b at *
 cases b with
 | true =>
  have:=h.2 rfl
  refine aW af Tryz.func172 rfl Tryz.ntmps172 Tryz.results172 rfl fun N=>?_
  repeat' (first|refine zt ?_|(refine isR ?_;first|refine zo ?_|refine zk c1 ?_|refine zc4 ?_)|refine zr ?_|exact ah)
  rfl
 | false =>
  have:¬ (0≤n):=fun g=>by cases h.1 g
  refine aW af Tryz.func172 rfl Tryz.ntmps172 Tryz.results172 rfl fun N=>?_
  repeat' (first|refine zt ?_|(refine isR ?_;first|refine zo ?_|refine zk c1 ?_|refine zc4 ?_)|refine zr ?_|exact ah)
  rfl
theorem lC {r:Raw}:aj Tryz.prog 130 [r.v] (.int .i64 (bA r)):=by
 have c1:=PY (s:=r.name)
 have c2:=Jg (s:=r.value)
 have c3:=LW (L:=r.attrs)
 unfold bA
 obtain ⟨n,v,L⟩:=r
 dsimp only at *
 have hx:((L.map Attr.v).length:Int)=(L.length:Int):=by simp
 show aj _ _ [.agg [au n,au v,.fro (L.map Attr.v)]] _
 generalize sH n=x at *
 generalize nX v=y at *
 generalize L.all okA=z at *
 cases x
 ·refine aU af Tryz.func130 rfl Tryz.ntmps130 Tryz.results130 rfl fun N=>?_
  repeat' (first|refine zt ?_|(refine isR ?_;first|refine zo ?_|refine zk c1 ?_|refine zX ?_)|refine zr ?_|exact ah)
  rfl
 ·cases y
  ·refine aU af Tryz.func130 rfl Tryz.ntmps130 Tryz.results130 rfl fun N=>?_
   repeat' (first|refine zt ?_|(refine isR ?_;first|refine zo ?_|refine zk c1 ?_|refine zk c2 ?_|refine zX ?_)|refine zr ?_|exact ah)
   rfl
  ·cases z
   ·refine aU af Tryz.func130 rfl Tryz.ntmps130 Tryz.results130 rfl fun N=>?_
    repeat' (first|refine zt ?_|(refine isR ?_;first|refine zo ?_|refine zk c1 ?_|refine zk c2 ?_|refine zk c3 ?_|refine zX ?_)|refine zr ?_|exact ah)
    rfl
   ·by_cases h:12<L.length
    ·rw [if_pos h]
     refine aU af Tryz.func130 rfl Tryz.ntmps130 Tryz.results130 rfl fun N=>?_
     repeat' (first|refine zt ?_|(refine isR ?_;first|refine zo ?_|refine zk c1 ?_|refine zk c2 ?_|refine zk c3 ?_|refine zX ?_)|refine zr ?_|exact ah)
     rfl
    ·rw [if_neg h]
     refine aU af Tryz.func130 rfl Tryz.ntmps130 Tryz.results130 rfl fun N=>?_
     repeat' (first|refine zt ?_|(refine isR ?_;first|refine zo ?_|refine zk c1 ?_|refine zk c2 ?_|refine zk c3 ?_|refine zX ?_)|refine zr ?_|exact ah)
     rfl
end V4
end Go.Proofs.YtlfdjpgghiemfaaGreatDoor
