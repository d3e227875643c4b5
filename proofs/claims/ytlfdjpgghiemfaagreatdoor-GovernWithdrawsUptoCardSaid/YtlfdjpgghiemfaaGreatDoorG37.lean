/- Texts of the proof, joined: CoD, GovW. -/
import Derived.Test.YtlfdjpgghiemfaaGreatDoorG14
import Derived.Test.YtlfdjpgghiemfaaGreatDoorG35
import Derived.Test.YtlfdjpgghiemfaaGreatDoorG36
import Derived.Test.YtlfdjpgghiemfaaGreatDoorG19
import Derived.Test.YtlfdjpgghiemfaaGreatDoorG32
set_option maxHeartbeats 4000000
set_option maxRecDepth 100000
section
namespace Go.Proofs.YtlfdjpgghiemfaaGreatDoor.ConD
open Go.RowKit Mem Abs BitsP BitsS BitsT SixtyP SixtyQ SixtyW ConP ConQ ConC ConA ConS ConG ConR ConV ConZ
abbrev TE:Nat:=40
abbrev RD:Nat:=147
abbrev rowC (x:V):Blk:=.els TC 12 [x]
abbrev rowE (n:Nat):Blk:=.els TE 1 [.int .i64 (n:Int)]
section
variable {s:List UInt8}
theorem consent_v (hs:s.length≤1048576) {U:List Nat} (hc:codeP (tbits s)=0) (hv:vends (tbits s)=some U):MCalls Tryz.prog 148 [.loc 0 0 0] [srcB TS s 0] (conN (given (tbits s)) (purp (tbits s)) U) [none]:=by
 refine mfun tb_ok Tryz.func148 rfl Tryz.ntmps148 Tryz.results148 rfl rfl rfl rfl fun N pl=>?_
 refine consent_core hs rfl (fun V s' h1 h2 h3=>?_) (fun s' h=>?_) fun s' h=>?_
 ·rw [hv] at h2
  cases h2
  exact h3
 ·rw [hc] at h;cases h
 ·rw [hc] at h;cases h
theorem consent_p (hs:s.length≤1048576) {k:Nat} (hk:codeP (tbits s)=k) (h0:k≠0):MPan Tryz.prog 148 [.loc 0 0 0] [srcB TS s 0] (gaveUp k):=fun g=>by
 refine mpanG_of Tryz.func148 rfl rfl fun bl pl=>?_
 rw [Tryz.ntmps148]
 refine consent_core hs rfl (fun V s' h1 h2 h3=>?_) (fun s' h=>?_) fun s' h=>?_
 ·exact absurd (hk.symm.trans h1) h0
 ·rw [hk] at h;subst h;rfl
 ·rw [hk] at h;subst h;rfl
theorem codes (l:List Nat):codeP l=0∨codeP l=5∨codeP l=7:=by
 unfold codeP
 split
 ·simp
 ·split
  ·simp
  ·split
   ·simp
   ·split<;>simp
theorem vends_of {l:List Nat} (h:codeP l=0):∃ U,vends l=some U:=by
 unfold codeP at h
 split at h
 ·cases h
 ·split at h
  ·cases h
  ·split at h
   ·cases h
   ·cases hv:vends l with
    | none=>rw [hv] at h;cases h
    | some U=>exact ⟨U,rfl⟩
end
abbrev N0:Env:=⟨⟨fun _=>False,⟨0,fun _=>True⟩⟩,0,fun _=>⟨none,0,0⟩,[]⟩
theorem late_no (x y:Value) (w:World):CallsD Tryz.prog RD #[x,y] .returning w fun e u' w'=>(∃ v,e = .returned v)∧u' = .returning∧Below w.heap.size w w':=by
 refine callsD_of_wpS Tryz.func147 rfl fun c0 cs hu=>?_
 have hnone:recoverD (c0::cs)=none:=by simp only [recoverD,hu]
 refine wpS_seq (wpS_region ?_)
 refine opsS_no rfl rfl rfl hnone ?_
 refine opsS_val rfl rfl rfl ?_
 refine wpS_of_wp ?_
 have r0:Rel N0 (fun _=>False) (· < 0) (fun _=>⟨none,0,0⟩) ⟨[],[],0,19⟩ { tmps := #[x,y]++Array.replicate (19-2) undef,defers:=[] } w:=⟨fun t v ht=>(by cases ht),(by simp),fun n k hk=>(by simp [S.blk,lk] at hk),fun n n' k k' b hk=>(by simp [S.blk,lk] at hk),fun b hb=>hb.elim (fun h=>h.elim) fun h=>h.elim,fun b hb=>hb.elim,rfl,fun n hn=>absurd hn (Nat.not_lt_zero n),⟨Nat.zero_le _,fun b hb=>Nat.zero_le _,trivial⟩⟩
 have r1:=rel_dst (dst:=some 5) (nx:=0) r0 (v:=.nili) (.fz .nili) (fun d h=>by cases h;decide)
 have r2:=rel_dst (dst:=some 2) (nx:=0) r1 (r1.ev (x:=.tmp 5) (v:=.nili) rfl) (fun d h=>by cases h;decide)
 have hA:∀ {c:Code},AWp Tryz.prog N0 c (fun e _=>e = .normal) ⟨[(2,.nili),(5,.nili)],[],0,19⟩→c.wp Tryz.prog (Post N0 (fun e _=>e = .normal) (fun _=>False) w) _ w:=fun h=>h _ _ _ _ r2
 refine wp_mono (hA ?_) ?_
 ·skip
  repeat' (first|refine zt ?_|(refine isR ?_;first|refine zo ?_|refine zc6 ?_)|exact x_le)
  rfl
 ·rintro e a' w' ⟨M',φ',s',h1,h2,h3,rfl⟩
  obtain ⟨v,k1,_⟩:=ends_run (rs:=[]) (fn:=Tryz.f147) tb_ok rfl h3 (r:=.tup []) ⟨[],[],rfl,rfl,trivial,rfl⟩
  exact ⟨h3.df,c0.mode,rfl,v,k1,⟨v,rfl⟩,hu,h1.below⟩
def LateQ (k:Nat) (e:Exit) (s':S):Prop:=e = .normal∧s'.blk 0=some (rowC noC)∧s'.blk 1=some (rowE k)
theorem x_assert {P:Program} {N:Env} {l r:List Oper} {o:Oper} {tm:List (Nat × V)} {st:List (Nat × Option Blk)} {nx nt d T xT:Nat} {tr:List Tr} {K:S→List Tr→Prop} {x:Operand} {v:V} {ds:TypeDesc} (k:ARun P N l K r ⟨(d,.tup [v,.bool true])::tm,st,nx,nt⟩ (tr++[trOf l o ⟨[(x,.ifc T v)],[]⟩ []])) (ho:o.op = .typeAssert x xT T true:=by rfl) (hx:S.ev ⟨tm,st,nx,nt⟩ x=some (.ifc T v):=by rfl) (ht:P.underlying T=some ds:=by rfl) (hds:(match ds with|.interface _=>false|_=>true)=true:=by rfl) (hg:guardV l o ⟨tm,st,nx,nt⟩=some true:=by rfl) (hd:o.dst=some d:=by rfl) (hlt:Nat.blt d nt=true:=by rfl):ARun P N l K (o::r) ⟨tm,st,nx,nt⟩ tr:=r_val hg hd hlt (law_assert ho ht hds) (hT hx h0) k
theorem late_yes {N:Env} {M:Nat→Prop} {φ:Nat→Pl} {s0:S} {a0:Act} {w:World} {x y:Value} {k:Nat} (h0:Rel N M (· < 3) φ s0 a0 w) (hb0:s0.blk 0=some (rowC noC)) (hb1:s0.blk 1=some (.els TE 1 [.int .i64 0]))
  (hx:Rep (fun b=>M b∨N b) (· < 3) φ w (.loc 0 0 0) x) (hy:Rep (fun b=>M b∨N b) (· < 3) φ w (.loc 1 0 0) y) (hk:k≤9) :
  CallsD Tryz.prog RD #[x,y] (.panicking (gaveUp (k:Int))) w fun e u' w'=>(∃ v,e = .returned v)∧u' = .panicking [{ v:=.iface 192 (.agg #[.int .i64 (k:Int)]),recovered:=true }] ∧
   ∃ M' φ' s' a',Stays M w w'∧(∀ b,b<w.heap.size→M' b→M b)∧Rel ⟨N.b,2,φ,[]⟩ M' (· < s'.nx) φ' s' a' w'∧s'.blk 0=some (rowC noC)∧s'.blk 1=some (rowE k):=by
 refine callsD_of_wpS Tryz.func147 rfl fun c0 cs hu=>?_
 have hyes:recoverD (c0::cs)=some (.iface 192 (.agg #[.int .i64 (k:Int)]),{ c0 with mode:=.panicking [{ v:=.iface 192 (.agg #[.int .i64 (k:Int)]),recovered:=true }] }::cs):=by simp only [recoverD,hu]
 refine wpS_seq (wpS_region ?_)
 refine opsS_yes rfl rfl rfl hyes ?_
 refine opsS_val rfl rfl rfl ?_
 refine wpS_of_wp ?_
 have hin:InR .i64 (k:Int):=⟨by show (-9223372036854775808:Int)≤_;omega,by show _≤(9223372036854775807:Int);omega⟩
 have old:∀ n b,S.blk ⟨[(0,.loc 0 0 0),(1,.loc 1 0 0)],[(0,some (rowC noC)),(1,some (.els TE 1 [.int .i64 0]))],3,19⟩ n=some b→s0.blk n=some b:=fun n b hb=>by
  have hb2:S.blk ⟨[(0,.loc 0 0 0),(1,.loc 1 0 0)],[(0,some (rowC noC)),(1,some (.els TE 1 [.int .i64 0]))],3,19⟩ n=if 0=n then some (rowC noC) else if 1=n then some (.els TE 1 [.int .i64 0]) else none:=by
   unfold S.blk
   simp only [lk_put]
   by_cases e:0=n<;>by_cases e2:1=n<;>simp [e,e2,lk]
  rw [hb2] at hb
  split at hb
  ·rename_i e
   subst e;cases hb
   exact hb0
  ·split at hb
   ·rename_i e
    subst e;cases hb
    exact hb1
   ·cases hb
 have r0:Rel ⟨N.b,2,φ,[]⟩ M (· < 3) φ ⟨[(0,.loc 0 0 0),(1,.loc 1 0 0)],[(0,some (rowC noC)),(1,some (.els TE 1 [.int .i64 0]))],3,19⟩ { tmps := #[x,y]++Array.replicate (19-2) undef,defers:=[] } w:=by
  refine ⟨fun t v ht=>?_,by simp,fun n b hb=>h0.st n b (old n b hb),fun n n' b b' z e1 e2 e3 e4=>h0.inj n n' b b' z (old n b e1) (old n' b' e2) e3 e4,h0.lim,h0.dis,rfl,fun n hn=>⟨Nat.lt_of_lt_of_le hn (show 2≤3 from by decide),rfl⟩,h0.gl⟩
  change lk [(0,V.loc 0 0 0),(1,V.loc 1 0 0)] t=some v at ht
  rw [lk_put,lk_put] at ht
  split at ht
  ·rename_i e
   subst e;cases ht
   exact ⟨by decide,by simpa using hx⟩
  ·split at ht
   ·rename_i e
    subst e;cases ht
    exact ⟨by decide,by simpa using hy⟩
   ·cases ht
 have hv:Rep (fun b=>M b∨N b) (· < 3) φ w (.ifc 192 (.agg [natV k])) (.iface 192 (.agg #[.int .i64 (k:Int)])):=by
  refine .ifc (.agg rfl (fun v hv=>?_) fun i v c hv hc=>?_)
  ·rw [List.mem_singleton] at hv;subst hv;rfl
  ·have hi:i<1:=(List.getElem?_eq_some_iff.1 hv).1
   obtain rfl:i=0:=by omega
   cases hv;cases hc
   exact .fz (.int hin)
 have r1:=rel_dst (dst:=some 5) (nx:=3) r0 hv (fun d h=>by cases h;decide)
 have r2:=rel_dst (dst:=some 2) (nx:=3) r1 (r1.ev (x:=.tmp 5) (v:=.ifc 192 (.agg [natV k])) rfl) (fun d h=>by cases h;exact (by decide:2<19))
 have hA:∀ {c:Code},AWp Tryz.prog ⟨N.b,2,φ,[]⟩ c (LateQ k) ⟨[(2,.ifc 192 (.agg [natV k])),(5,.ifc 192 (.agg [natV k])),(0,.loc 0 0 0),(1,.loc 1 0 0)],[(0,some (rowC noC)),(1,some (.els TE 1 [.int .i64 0]))],3,19⟩→c.wp Tryz.prog (Post ⟨N.b,2,φ,[]⟩ (LateQ k) M w) _ w:=fun h=>h _ _ _ _ r2
 refine wp_mono (hA ?_) ?_
 ·skip
  repeat' (first|refine zt ?_|(refine isR ?_;first|refine zo ?_|refine x_assert ?_|refine zc6 ?_)|exact x_le)
  exact ⟨rfl,rfl,rfl⟩
 ·rintro e a' w' ⟨M',φ',s',h1,h2,h3,rfl,h4,h5⟩
  obtain ⟨v,k1,_⟩:=ends_run (rs:=[]) (fn:=Tryz.f147) tb_ok rfl h3 (r:=.tup []) ⟨[],[],rfl,rfl,trivial,rfl⟩
  exact ⟨h3.df,_,rfl,v,k1,⟨v,rfl⟩,rfl,M',φ',s',a',h1,h2,h3,h4,h5⟩
def InvD (b:Bg) (f:Nat) (Q':Exit→S→Prop) (M':Nat→Prop) (φ':Nat→Pl) (e:Exit) (a':Act) (w':World):Prop :=
 ∃ x y s',a'.defers=[⟨.fn (.func f) #[x,y],#[]⟩]∧Rep (fun k=>M' k∨b.bl k) (· < s'.nx) φ' w' (.loc 0 0 0) x∧Rep (fun k=>M' k∨b.bl k) (· < s'.nx) φ' w' (.loc 1 0 0) y∧(∃ pl,Rel ⟨b,2,pl,a'.defers⟩ M' (· < s'.nx) φ' s' a' w')∧Q' e s'
theorem loc_again {X X' A A':Nat→Prop} {φ φ':Nat→Pl} {w w':World} {n i off:Nat} {x:Value} (h:Rep X A φ w (.loc n i off) x) (hA:A' n) (hφ:φ' n=φ n):Rep X' A' φ' w' (.loc n i off) x:=by
 obtain ⟨bk,e1,rfl⟩:=rep_loc h
 rw [← hφ] at e1 ⊢
 exact .loc hA e1
theorem bwp_defer {P:Program} {b:Bg} {pl0:Nat→Pl} {s:S} {y:Code} {id:Nat} {o1 o2:Oper} {f d1 t2 t3:Nat} {Q':Exit→S→Prop} (k:∀ pl df,AWp P ⟨b,2,pl,df⟩ y Q' s) (h1:o1.op = .makeFunc (.func f) #[] #[.tmp t2,.tmp t3]) (hd1:o1.dst=some d1) (hg1:o1.guard=none) (h2:o2.op = .defer { callee:=.value (.tmp d1),args := #[],argTypes := #[] }) (hd2:o2.dst=none) (hg2:o2.guard=none)
  (hv2:lk s.tm t2=some (.loc 0 0 0)) (hv3:lk s.tm t3=some (.loc 1 0 0)) (hn:lk s.tm d1=none) (hlt:d1<s.nt) (hnx:2≤s.nx):BWp P ⟨b,0,pl0,[]⟩ (.seq (.region id [o1,o2].toArray false) y) (InvD b f Q') s:=fun M φ a w hr=>by
 refine wp_seq (wp_region_lit ?_)
 have hl1:d1<a.tmps.size:=by rw [hr.nt];exact hlt
 refine wpList_step fun K hK=>?_
 rw [if_pos (by unfold Region.wanted;rw [hg1])]
 have run1:(execOp a.eval o1).run P w = .ok (.value (.func (.func f) #[] #[a.tmps.getD t2 undef,a.tmps.getD t3 undef])) w:=by
  have e1:Array.map a.eval #[Operand.tmp t2,Operand.tmp t3] = #[a.tmps.getD t2 undef,a.tmps.getD t3 undef]:=by simp [Act.eval]
  have e2:Array.map a.eval #[] = #[]:=by simp
  unfold execOp
  simp only [h1]
  rw [e1,e2]
  rfl
 unfold Oper.wp
 rw [run1]
 refine hK _ _ ?_
 refine wpList_step fun K hK=>?_
 rw [if_pos (by unfold Region.wanted;rw [hg2])]
 have ev:(a.put o1.dst (.func (.func f) #[] #[a.tmps.getD t2 undef,a.tmps.getD t3 undef])).eval (.tmp d1) = .func (.func f) #[] #[a.tmps.getD t2 undef,a.tmps.getD t3 undef]:=by
  rw [hd1]
  show (a.put (some d1) _).tmps.getD d1 undef=_
  rw [put_getD a d1 d1 _ hl1,if_pos rfl]
 have run2:(execOp (a.put o1.dst (.func (.func f) #[] #[a.tmps.getD t2 undef,a.tmps.getD t3 undef])).eval o2).run P w = .ok (.defer ⟨.fn (.func f) #[a.tmps.getD t2 undef,a.tmps.getD t3 undef],#[]⟩) w:=by
  unfold execOp
  simp only [h2,resolve,ev,Deferred.ofValue,List.map_toArray,List.map_nil,Sem.run_bind,Sem.run_pure,Result.andThen_ok]
  rfl
 unfold Oper.wp
 rw [run2]
 refine hK _ _ (wpList_nil ?_)
 have hx:=(hr.tm t2 _ hv2).2
 have hy:=(hr.tm t3 _ hv3).2
 generalize hX:a.tmps.getD t2 undef=x at *
 generalize hY:a.tmps.getD t3 undef=z at *
 rw [hd1,hd2]
 have hdf:a.defers=[]:=hr.df
 have rel:Rel ⟨b,2,φ,[⟨.fn (.func f) #[x,z],#[]⟩]⟩ M (· < s.nx) φ s ({ a.put (some d1) (.func (.func f) #[] #[x,z]) with defers:=⟨.fn (.func f) #[x,z],#[]⟩::(a.put (some d1) (.func (.func f) #[] #[x,z])).defers }.put none undef) w:=by
  refine ⟨fun t v ht=>?_,?_,hr.st,hr.inj,hr.lim,hr.dis,?_,fun n hn=>⟨Nat.lt_of_lt_of_le hn hnx,rfl⟩,hr.gl⟩
  ·obtain ⟨g1,g2⟩:=hr.tm t v ht
   refine ⟨g1,?_⟩
   show Rep _ _ _ _ v ((a.put (some d1) _).tmps.getD t undef)
   rw [put_getD a d1 t _ hl1,if_neg (fun e=>by subst e;rw [hn] at ht;cases ht)]
   exact g2
  ·show (a.put (some d1) _).tmps.size=s.nt
   rw [← hr.nt]
   simp [Act.put]
  ·show _::a.defers=_
   rw [hdf]
 refine wp_mono (k φ _ M φ _ w rel) fun e a' w' ⟨M',φ',s',g1,g2,g3,g4⟩=>?_
 have p0:=g3.pin 0 (by decide:0<2)
 have p1:=g3.pin 1 (by decide:1<2)
 exact ⟨M',φ',g1,g2,x,z,s',g3.df,loc_again hx p0.1 p0.2,loc_again hy p1.1 p1.2,⟨φ,g3.df ▸ g3⟩,g4⟩
abbrev rsR:List ResultVar:=[.cell 2 TC,.cell 3 TE]
theorem ends_two {s:S} {k:Nat} (h2:lk s.tm 2=some (.loc 0 0 0)) (h3:lk s.tm 3=some (.loc 1 0 0)) (hb0:s.blk 0=some (rowC noC)) (hb1:s.blk 1=some (rowE k)):Abs.Ends tb rsR s (.tup [noC,natV k]):=by
 refine ⟨[noC,natV k],[noC,natV k],?_,rfl,?_,rfl⟩
 ·have e1:resV tb s (.cell 2 TC)=some noC:=by
   rw [resV,h2]
   show (match s.blk 0 with
    | some (.els _ _ xs)=>match nth xs 0 with
     | some el=>subV el.cells 0 _ _
     | none=>none
    | _=>none)=_
   rw [hb0]
   rfl
  have e2:resV tb s (.cell 3 TE)=some (natV k):=by
   rw [resV,h3]
   show (match s.blk 1 with
    | some (.els _ _ xs)=>match nth xs 0 with
     | some el=>subV el.cells 0 _ _
     | none=>none
    | _=>none)=_
   rw [hb1]
   rfl
  rw [resVs,e1,resVs,e2,resVs]
 ·repeat' first|exact trivial|constructor
def RdQ (r:V) (e:Exit) (s':S):Prop:=match e with
 | .ret=>AEnd tb rsR r .ret s'
 | .panic ch=>∃ k:Nat,k≤9∧ch=gaveUp (k:Int)∧r = .tup [noC,natV k]∧lk s'.tm 2=some (.loc 0 0 0)∧lk s'.tm 3=some (.loc 1 0 0)∧s'.nx=3∧s'.blk 0=some (rowC noC)∧s'.blk 1=some (.els TE 1 [.int .i64 0])
 | _=>False
theorem rd_ret {r:V} {s':S} (h:AEnd tb rsR r .ret s'):RdQ r .ret s':=h
theorem caught {t:List UInt8} {r:V} (hB:∀ b:Bg,∀ c,Tryz.f112.body=some c→BWp Tryz.prog ⟨b,0,fun _=>⟨none,0,0⟩,[]⟩ c (InvD b RD (RdQ r)) ⟨[(0,strT t)],[],0,35⟩):ACalls Tryz.prog 112 [strT t] r:=fun g N w vs hG hN hlen hv=>by
 obtain ⟨vs⟩:=vs
 match vs,hlen with
 | [x0],_ =>
  have hx0:=hv 0 _ x0 rfl rfl
  have r0:Rel ⟨⟨N,g⟩,0,fun _=>⟨none,0,0⟩,[]⟩ (fun _=>False) (· < 0) (fun _=>⟨none,0,0⟩) ⟨[(0,strT t)],[],0,35⟩ { tmps := #[x0]++Array.replicate (35-1) undef,defers:=[] } w:=by
   refine ⟨fun q v hq=>?_,(by simp),fun n k hk=>(by simp [S.blk,lk] at hk),fun n n' k k' b hk=>(by simp [S.blk,lk] at hk),fun b hb=>hN b (hb.resolve_left id),fun b hb=>hb.elim,rfl,fun n hn=>absurd hn (Nat.not_lt_zero n),hG.sub fun b hb=>hb.resolve_left id⟩
   change lk [(0,strT t)] q=some v at hq
   rw [lk_put] at hq
   split at hq
   ·rename_i e
    subst e;cases hq
    have hx1:Rep (fun b=>False∨N b) (· < 0) (fun _=>⟨none,0,0⟩) w (strT t) x0:=.fz (hx0.mono (fun b _ h=>h.resolve_left id) (.refl _ w))
    exact ⟨(by decide:0<35),by simpa using hx1⟩
   ·cases hq
  refine calls_of_wp_defers Tryz.func112 rfl ?_
  refine wp_mono (hB ⟨N,g⟩ _ rfl _ _ _ _ r0) ?_
  rintro e a' w' ⟨M',φ',hs1,hs2,x,y,s',hdf,hx,hy,⟨pl,hrel⟩,hq⟩
  have hi:(invoke (.fn (.func RD) #[x,y]) #[]).run Tryz.prog w' = .ok (.enter RD #[x,y]) w':=by
   have h:=enters (P:=Tryz.prog) (f:=RD) (by kernel_rfl) #[x,y] w'
   unfold invoke
   simp [h]
  cases e with
  | ret =>
   have hq:AEnd tb rsR r .ret s':=hq
   show Leaves _ _ _ _ a'.defers .returning w'
   rw [hdf]
   refine leaves_cons (fun h=>by cases h) hi ((late_no x y w').mono ?_)
   rintro e u' w2 ⟨⟨v,rfl⟩,rfl,hb⟩
   obtain ⟨z,k1,k2⟩:=ends_run (fn:=Tryz.f112) tb_ok rfl (hrel.grow hb) hq
   exact ⟨z,k1,z,rfl,(hs1.trans (.of_below (M:=fun _=>False) hb) fun _ _ h=>h).below,k2⟩
  | panic ch =>
   obtain ⟨k,hk9,rfl,rfl,h2,h3,hnx,hb0,hb1⟩:=hq
   show Leaves _ _ _ _ a'.defers (.panicking (gaveUp (k:Int))) w'
   rw [hdf]
   rw [hnx] at hrel hx hy
   refine leaves_cons (fun h=>by cases h) hi ((late_yes hrel hb0 hb1 hx hy hk9).mono ?_)
   rintro e u' w2 ⟨⟨v,rfl⟩,rfl,M2,φ2,s2,a2,g1,g2,g3,g4,g5⟩
   have p0:=g3.pin 0 (by decide:0<2)
   have p1:=g3.pin 1 (by decide:1<2)
   have hrel2:Rel ⟨⟨N,g⟩,2,φ',a'.defers⟩ M2 (· < s2.nx) φ2 ⟨[(2,.loc 0 0 0),(3,.loc 1 0 0)],s2.st,s2.nx,s'.nt⟩ a' w2:=by
    refine ⟨fun q v hq=>?_,hrel.nt,g3.st,g3.inj,g3.lim,g3.dis,rfl,g3.pin,g3.gl⟩
    change lk [(2,V.loc 0 0 0),(3,V.loc 1 0 0)] q=some v at hq
    rw [lk_put,lk_put] at hq
    split at hq
    ·rename_i e
     subst e;cases hq
     obtain ⟨m1,m2⟩:=hrel.tm 2 _ h2
     exact ⟨m1,loc_again m2 p0.1 p0.2⟩
    ·split at hq
     ·rename_i e
      subst e;cases hq
      obtain ⟨m1,m2⟩:=hrel.tm 3 _ h3
      exact ⟨m1,loc_again m2 p1.1 p1.2⟩
     ·cases hq
   obtain ⟨z,k1,k2⟩:=ends_run (fn:=Tryz.f112) tb_ok rfl hrel2 (ends_two rfl rfl g4 g5)
   have hz:Below w.heap.size w w2:=by
    have:Stays (fun _=>False) w w2:=⟨g1.os.trans hs1.os,g1.tape.trans hs1.tape,g1.output.trans hs1.output,Nat.le_trans hs1.size g1.size,fun q hq _=>by
     rw [g1.block q (Nat.lt_of_lt_of_le hq hs1.size) fun h=>hs2 q hq h,hs1.block q hq id]⟩
    exact this.below
   exact ⟨z,k1,z,rfl,hz,k2⟩
  | _=>exact hq.elim
end Go.Proofs.YtlfdjpgghiemfaaGreatDoor.ConD
namespace Go.Proofs.YtlfdjpgghiemfaaGreatDoor.ConE
open Go.RowKit Mem Abs BitsP BitsS BitsT SixtyP SixtyQ SixtyW ConP ConQ ConC ConA ConS ConG ConR ConV ConZ ConD
def rdV (r:Rd):V:=.tup [if r.2.2.2=0 then conN r.1 r.2.1 r.2.2.1 else noC,natV r.2.2.2]
theorem rdV_no {c:Nat} (h:c≠0):rdV (noRd c) = .tup [noC,natV c]:=by
 unfold rdV noRd
 dsimp only
 rw [if_neg h]
theorem read_v {t:List UInt8} (ht:t.length≤140737488355328):ACalls Tryz.prog 112 [strT t] (rdV (readC t)):=by
 have cs:=sixR_v ht
 have hw:=write_read t
 by_cases h1:(readF t).2=0
 ·have hlen:=(hw h1).1
  rw [show readF t=((readF t).1,0) from Prod.ext rfl h1] at cs
  have hrc:readC t=if codeP (tbits (readF t).1)≠0 then noRd (codeP (tbits (readF t).1)) else readL t (tbits (readF t).1) ((vends (tbits (readF t).1)).getD []):=by
   unfold readC
   rw [if_neg (by rw [h1];decide)]
  rw [hrc]
  clear hrc hw
  generalize (readF t).1=s at *
  refine caught fun b c hc=>?_
  have hc2:_=c:=Option.some.inj (hc:some _=some c)
  subst hc2
  clear hc
  refine bwp_seq ?_
  repeat' (first|refine zt ?_|(refine isR ?_;first|refine zo ?_|refine zc6 ?_)|refine zr ?_|exact x_le)
  refine bwp_seq ?_
  repeat' (first|refine zt ?_|(refine isR ?_;first|refine zo ?_|refine zk cs ?_|refine zc6 ?_)|refine zr ?_|exact x_le)
  refine bwp_seq ?_
  repeat' (first|refine zt ?_|(refine isR ?_;first|refine zo ?_|refine zc6 ?_)|refine zr ?_|exact x_le)
  refine bwp_defer (d1:=15) (t2:=2) (t3:=3) (fun pl df=>?_) rfl rfl rfl rfl rfl rfl rfl rfl rfl (Nat.le_of_ble_eq_true rfl) (Nat.le_of_ble_eq_true rfl)
  refine awp_lei (s1:=⟨[(2,.loc 0 0 0),(3,.loc 1 0 0),(4,strT s),(0,strT t)],[(0,some (rowC noC)),(1,some (.els TE 1 [.int .i64 0]))],2,35⟩) (by exact x_le) ?_
  have hs:s.length≤1048576:=by omega
  rcases codes (tbits s) with hc|hc|hc
  ·obtain ⟨U,hv⟩:=vends_of hc
   have cv:=consent_v hs hc hv
   rw [if_neg (by rw [hc];decide),hv,Option.getD_some]
   have cK:=check_v (g:=(given (tbits s):Int)) (P:=purp (tbits s)) (L:=toI U)
   rw [← conN_int] at cK
   unfold readL
   by_cases hk:GrantP.check (given (tbits s):Int) (toI U)=0
   ·obtain ⟨hg,hR⟩:=check_iff.1 hk
    have cR:=raw_v (g:=given (tbits s)) (P:=purp (tbits s)) (by omega) (right_toI.1 hR)
    rw [hk] at cK
    by_cases he:conText (given (tbits s)) (purp (tbits s)) U=t
    ·rw [if_pos ⟨hk,he⟩]
     have hr:rdV (given (tbits s),purp (tbits s),U,0) = .tup [conN (given (tbits s)) (purp (tbits s)) U,natV 0]:=rfl
     rw [hr]
     clear hr hk hg hR hc hv
     generalize conText (given (tbits s)) (purp (tbits s)) U=TX at *
     generalize given (tbits s)=g at *
     generalize purp (tbits s)=P at *
     repeat' (first|with_reducible refine rd_ret ?_|refine zt ?_|(refine isR ?_;first|refine zo ?_|refine x_m [2] [] (cv _) ?_|refine x_m [2] [] (cv) ?_|refine zk cK ?_|refine zk cR ?_|refine zc6 ?_)|refine zr ?_|exact x_le)
     rfl
    ·rw [if_neg fun h=>he h.2,rdV_no (by decide)]
     clear hk hg hR hc hv
     generalize conText (given (tbits s)) (purp (tbits s)) U=TX at *
     generalize given (tbits s)=g at *
     generalize purp (tbits s)=P at *
     repeat' (first|with_reducible refine rd_ret ?_|refine zt ?_|(refine isR ?_;first|refine zo ?_|refine x_m [2] [] (cv _) ?_|refine x_m [2] [] (cv) ?_|refine zk cK ?_|refine zk cR ?_|refine zc6 ?_)|refine zr ?_|exact x_le)
     rfl
   ·rw [if_neg fun h=>hk h.1,rdV_no (by decide)]
    have hk':(GrantP.check (given (tbits s):Int) (toI U):Int)≠0:=by omega
    clear hc hv
    generalize GrantP.check (given (tbits s):Int) (toI U)=z at *
    generalize given (tbits s)=g at *
    generalize purp (tbits s)=P at *
    repeat' (first|with_reducible refine rd_ret ?_|refine zt ?_|(refine isR ?_;first|refine zo ?_|refine x_m [2] [] (cv _) ?_|refine x_m [2] [] (cv) ?_|refine zk cK ?_|refine zc6 ?_)|refine zr ?_|exact x_le)
    rfl
  ·have cp:=consent_p hs hc (by decide)
   rw [if_pos (by rw [hc];decide),hc,rdV_no (by decide)]
   repeat' (first|refine awp_regionP (id:=7) 1 ?_|(refine r_end ?_;refine p_call [2] (cp _) ?_)|refine zt ?_|(refine isR ?_;first|refine zo ?_|refine zc6 ?_)|refine zr ?_|exact x_le)
   exact ⟨5,by decide,rfl,rfl,rfl,rfl,rfl,rfl,rfl⟩
  ·have cp:=consent_p hs hc (by decide)
   rw [if_pos (by rw [hc];decide),hc,rdV_no (by decide)]
   repeat' (first|refine awp_regionP (id:=7) 1 ?_|(refine r_end ?_;refine p_call [2] (cp _) ?_)|refine zt ?_|(refine isR ?_;first|refine zo ?_|refine zc6 ?_)|refine zr ?_|exact x_le)
   exact ⟨7,by decide,rfl,rfl,rfl,rfl,rfl,rfl,rfl⟩
 ·have hrc:readC t=noRd (readF t).2:=by unfold readC;rw [if_pos h1]
  rw [hrc,rdV_no h1]
  have h1':((readF t).2:Int)≠0:=by omega
  refine fun1 tb_ok Tryz.func112 rfl Tryz.ntmps112 Tryz.results112 rfl fun N=>?_
  repeat' (first|refine zt ?_|(refine isR ?_;first|refine zo ?_|refine zk cs ?_|refine zc6 ?_)|refine zr ?_|exact x_le)
  rfl
end Go.Proofs.YtlfdjpgghiemfaaGreatDoor.ConE
end
section
namespace Go.Proofs.YtlfdjpgghiemfaaGreatDoor.GovW
open Go.RowKit Mem Abs Globs HostP HostC PathT Rdy Scan JarP JarQ JarA JarB JarC JarE JarI JarL JarM PolP PolA PolB PurA RjP GovP GovA GovB GovD GovV GoesW SortP SortW LineP LineB
open ConC (conI intsV conN_int)
theorem read_any {s:List UInt8} (hs:s.length≤1048576):∃ (g2:Int) (P2:Nat→Bool) (U2:List Int) (e:Int),ACalls Tryz.prog 112 [strT s] (.tup [conI g2 P2 U2,.int .i64 e]):=by
 have h:=ConE.read_v (t:=s) (by omega)
 unfold ConE.rdV at h
 by_cases h0:(ConQ.readC s).2.2.2=0
 ·rw [if_pos h0,conN_int] at h
  exact ⟨_,_,_,_,h⟩
 ·rw [if_neg h0] at h
  exact ⟨0,fun _=>false,[],_,h.nfd rfl⟩
theorem kept_mem {p:Pol} {P:Nat→Bool} {U:List Int} {now:Int} {L:List Cookie} {x:Cookie} (h:x∈keptF p P U now L):∃ c∈L,x=clampF p c:=by
 unfold keptF at h
 obtain ⟨c,hc,hx⟩:=List.mem_flatMap.1 h
 split at hx
 ·exact ⟨c,hc,List.mem_singleton.1 hx⟩
 ·cases hx
theorem SmallT.kept {p:Pol} {P:Nat→Bool} {U:List Int} {now:Int} {L:List Cookie} (h:SmallT L):SmallT (keptF p P U now L):=fun x hx=>by
 obtain ⟨c,hc,rfl⟩:=kept_mem hx
 exact h c hc
theorem asked_at {f:From} {now:Int} {L:List Cookie} {x:Cookie} (h:x∈askedL f now L):∃ c∈L,x.name=c.name∧x.value=c.value∧x.domain=c.domain∧(x=c∨x = { c with used:=now }):=by
 obtain ⟨c,hc,rfl⟩:=List.mem_map.1 h
 refine ⟨c,(live_sub now L).subset hc,?_⟩
 unfold useF
 split
 ·exact ⟨rfl,rfl,rfl,.inr rfl⟩
 ·exact ⟨rfl,rfl,rfl,.inl rfl⟩
theorem told_asked {f:From} {now:Int} {L:List Cookie} {z:Cookie} (h:z∈toldF f now L):z∈askedL f now L:=by
 obtain ⟨c,hc,hg,rfl⟩:=told_at h
 refine List.mem_map.2 ⟨c,?_,?_⟩
 ·unfold liveF
  refine List.mem_filter.2 ⟨hc,?_⟩
  unfold goesF at hg
  cases hl:decide (now<c.expiry) with
  | true=>rfl
  | false=>rw [hl] at hg;cases hg
 ·unfold useF
  rw [if_pos hg]
theorem second {S:List Suffix} {L K:List Cookie} {nx:Int} {p:Pol} {g g2:Int} {P P2:Nat→Bool} {U U2:List Int} {t now later:Int} {s:List UInt8} {f:From} (hs:SmallT K) (c:ACallsG Tryz.prog gStr 6 [stV S L nx p g P U t,evV 3 now s f0] (.tup [stV S K nx p g2 P2 U2 now,strT [],.int .i64 0])) :
  ACallsG Tryz.prog gStr 5 [stV S L nx p g P U t,strT s,.int .i64 now,f.v,.int .i64 later] (.bool true):=by
 have hC:=gcheck_v (S:=S) (nx:=nx) (p:=p) (g:=g2) (P:=P2) (U:=U2) (t:=now) hs.dom
 by_cases h0:codeS S K nx p g2 P2 U2 now=0
 ·have ok:=code_ok h0
  rw [h0] at hC
  have ce:=echeck_v (k:=2) (named2_v (now:=later) (f:=f)) (by decide) (by decide)
  by_cases h1:codeE [] f=0
  ·rw [h1] at ce
   by_cases h2:isJ later=true
   ·by_cases h3:now≤later
    ·by_cases h4:readyF f later=0
     ·have hr:JarQ.Rj K nx:=check_zero.1 ok.jar
      have hlen:=hr.len
      have hB:(askedL f later K).length≤12:=by
       show ((liveF later K).map _).length≤12
       rw [List.length_map]
       exact Nat.le_trans (List.length_filter_le _ _) hlen
      have hZ:=told_len (f:=f) (now:=later) (L:=K)
      have hr:=LineC.read_v (s:=lineT (toldF f later K))
      have hb:=line_back (L:=toldF f later K)
      refine yes_v c (Apply_ok hC (ask_ok ok hs h1 h2 h3 h4)) hr (by omega) (fun hF=>?_) fun x hx=>?_
      ·rcases hb fun z hz=>hF z (told_asked hz) with e|e
       ·rw [e];exact .inl rfl
       ·rw [e]
        refine .inr ⟨rfl,by show (List.map _ _).length≤100;rw [List.length_map];omega,fun q hq=>?_⟩
        obtain ⟨z,hz,rfl⟩:=List.mem_map.1 hq
        refine List.any_eq_true.2 ⟨z,told_asked hz,?_⟩
        unfold hit attrC
        simp
      ·obtain ⟨d,hd,_,_,hdm,hx2⟩:=asked_at hx
       have h:=lets_v (c:=x) (g:=g2) (P:=P2) (U:=U2) (check_ok ok.pol) (by rw [hdm];exact hs.dom d hd)
       have e:letsF p P2 U2 x=true:=by
        rcases hx2 with rfl|rfl
        ·exact (kept_all ok.kept _ hd).1
        ·rw [lets_used];exact (kept_all ok.kept _ hd).1
       rw [e] at h
       exact h
     ·exact no2_v c (Apply_bad hC (ask_bad ok hs h1 h2 h3 h4)) h4
    ·exact no2_v c (Apply_bad hC (apply_no3 ce h2 (by omega) (own_at ok) gStr)) (by decide)
   ·exact no2_v c (Apply_bad hC (apply_no2 ce (by simpa using h2) (own_at ok) gStr)) (by decide)
  ·exact no2_v c (Apply_bad hC (apply_no1 ce (by omega) (own_at ok) gStr)) (by omega)
 ·exact no2_v c (Apply_no hC (by omega)) (by omega)
theorem law {S:List Suffix} {L:List Cookie} {nx:Int} {p:Pol} {g:Int} {P:Nat→Bool} {U:List Int} {t now later:Int} {s:List UInt8} {f:From} (hs:SmallT L) (ht:s.length≤1048576) :
  ACallsG Tryz.prog gStr 5 [stV S L nx p g P U t,strT s,.int .i64 now,f.v,.int .i64 later] (.bool true):=by
 have hC:=gcheck_v (S:=S) (nx:=nx) (p:=p) (g:=g) (P:=P) (U:=U) (t:=t) hs.dom
 by_cases h0:codeS S L nx p g P U t=0
 ·have ok:=code_ok h0
  rw [h0] at hC
  have ce:=echeck_v (k:=3) (named3_v (now:=now) (s:=s)) (by decide) (by decide)
  by_cases h1:codeE s f0=0
  ·rw [h1] at ce
   by_cases h2:isJ now=true
   ·by_cases h3:t≤now
    ·obtain ⟨g2,P2,U2,e,cr⟩:=read_any ht
     have cp:=purged_at ok hs now
     by_cases he:e=0
     ·subst he
      by_cases hg:g≤g2
      ·have hr:JarQ.Rj (liveF now L) nx:=check_zero.1 (live_right ok.jar)
       have cp2:=purged_v (S:=S) (nx:=nx) (g:=g2) (P:=P2) (U:=U2) (t:=now) (check_ok ok.pol) hr.len (hs.live now).dom (mom_of hr)
       exact second (SmallT.kept (hs.live now)) (Apply_ok hC (apply_ok ce h2 h3 (own_at ok) (do3_m cp (giveOk_m cr hg cp2))))
      ·exact no1_v (Apply_bad hC (apply_bad ce h2 h3 (own_at ok) (do3_m cp (giveLess_m cr (by omega))) (by decide))) (by decide)
     ·exact no1_v (Apply_bad hC (apply_bad ce h2 h3 (own_at ok) (do3_m cp (giveNo_m cr he)) he)) he
    ·exact no1_v (Apply_bad hC (apply_no3 ce h2 (by omega) (own_at ok) gStr)) (by decide)
   ·exact no1_v (Apply_bad hC (apply_no2 ce (by simpa using h2) (own_at ok) gStr)) (by decide)
  ·exact no1_v (Apply_bad hC (apply_no1 ce (by omega) (own_at ok) gStr)) (by omega)
 ·exact no1_v (Apply_no hC (by omega)) (by omega)
end Go.Proofs.YtlfdjpgghiemfaaGreatDoor.GovW
end
