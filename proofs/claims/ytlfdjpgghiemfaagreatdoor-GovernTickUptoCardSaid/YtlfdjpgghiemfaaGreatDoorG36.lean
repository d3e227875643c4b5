/- Texts of the proof, joined: CoS, ConR. -/
import Derived.Test.YtlfdjpgghiemfaaGreatDoorG35
set_option maxHeartbeats 4000000
set_option maxRecDepth 100000
namespace Go.Proofs.YtlfdjpgghiemfaaGreatDoor
section
namespace Abs
open Go.RowKit Mem Facts
section
variable {P:Program} {N:Env} {l r:List Oper} {o:Oper} {tm:List (Nat × V)} {st:List (Nat × Option Blk)} {nx nt:Nat} {tr:List Tr} {K:S→List Tr→Prop} {d:Nat} {t t':TypeId} {x y:Operand} {a n:Int} {kd ky:IntKind} {i:Nat}
variable {p m q:Nat}
theorem U5 (ho:o.op = .binOp .shr t x y t') (hi:i≤kd.bits) (h:a.fdiv (2^i)=n) (hn:InR kd n):aC P N o ⟨[(x,.int kd a),(y,.int ky (i:Int))],[]⟩ (.int kd n) [] [] :=
 aD fun s M A φ ac w hh hr=>by
  refine ⟨.int kd n,?_,.fz (.int hn)⟩
  subst h
  have e:min ((i:Int)).toNat kd.bits=i:=by rw [Int.toNat_natCast];omega
  unfold execOp
  have e2:(eqGuard .shr t x y (.int kd a) (.int ky (i:Int))).run P w = .ok () w:=rfl
  have e3:(binOp .shr t (.int kd a) (.int ky (i:Int))).run P w = .ok (.int kd (a.fdiv (2^i))) w:=by
   unfold binOp
   simp only [Op.shift]
   rw [if_neg (by omega),e]
   rfl
  simp only [ho,hr.int hh.a,hr.int hh.b,Sem.run_bind,e2,e3,Result.andThen_ok,Sem.run_pure]
theorem NI (i:Nat) (k:ay P N l K r ⟨(d,.int kd n)::tm,st,nx,nt⟩ (tr++[aH l o ⟨[(x,.int kd a),(y,.int ky (i:Int))],[]⟩ []])) (ho:o.op = .binOp .shr t x y t':=by rfl) (hx:S.ev ⟨tm,st,nx,nt⟩ x=some (.int kd a):=by rfl) (hy:S.ev ⟨tm,st,nx,nt⟩ y=some (.int ky (i:Int)):=by rfl) (hg:ax l o ⟨tm,st,nx,nt⟩=some true:=by rfl) (hd:o.dst=some d:=by rfl) (hlt:Nat.blt d nt=true:=by rfl) (hi:i≤kd.bits:=by assumption) (h:a.fdiv (2^i)=n:=by assumption) (hn:InR kd n:=by assumption):ay P N l K (o::r) ⟨tm,st,nx,nt⟩ tr:=aJ hg hd hlt (U5 ho hi h hn) (hT hx (hT hy h0)) k
theorem and_one (m:Nat) (h:m<18446744073709551616):IntKind.u64.wrap (((BitVec.ofInt 64 (m:Int) &&& BitVec.ofInt 64 1).toNat:Nat):Int)=((m % 2:Nat):Int):=by
 have e:(BitVec.ofInt 64 (m:Int)).toNat=m:=by rw [BitVec.toNat_ofInt];simp;omega
 have e1:(BitVec.ofInt 64 1).toNat=1:=by decide
 rw [BitVec.toNat_and,e,e1,Nat.and_one_is_mod]
 simp [IntKind.wrap,IntKind.bits,IntKind.signed]
 omega
theorem SL (ho:o.op = .binOp .and t x y t') (h:m<18446744073709551616):aC P N o ⟨[(x,.int .u64 (m:Int)),(y,.int .u64 1)],[]⟩ (.int .u64 ((m % 2:Nat):Int)) [] [] :=
 fG (v:=.int .u64 ((m % 2:Nat):Int)) ho rfl (fun _ _ _ _=>.fz (.int ⟨by simp only [rng];omega,by simp only [rng];omega⟩)) fun w=>by
  have:=and_one m h
  simp only [binOp,Op.intBits]
  exact congrArg (fun z=>Result.ok (Value.int .u64 z) w) this
theorem TH (k:ay P N l K r ⟨(d,.int .u64 ((m % 2:Nat):Int))::tm,st,nx,nt⟩ (tr++[aH l o ⟨[(x,.int .u64 (m:Int)),(y,.int .u64 1)],[]⟩ []])) (ho:o.op = .binOp .and t x y t':=by rfl) (hx:S.ev ⟨tm,st,nx,nt⟩ x=some (.int .u64 (m:Int)):=by rfl) (hy:S.ev ⟨tm,st,nx,nt⟩ y=some (.int .u64 1):=by rfl) (hg:ax l o ⟨tm,st,nx,nt⟩=some true:=by rfl) (hd:o.dst=some d:=by rfl) (hlt:Nat.blt d nt=true:=by rfl) (h:m<18446744073709551616:=by assumption):ay P N l K (o::r) ⟨tm,st,nx,nt⟩ tr:=aJ hg hd hlt (SL ho h) (hT hx (hT hy h0)) k
theorem V4 (ho:o.op = .binOp .shl t x y t') (hi:i≤kd.bits) (h:kd.wrap (a*2^i)=n):aC P N o ⟨[(x,.int kd a),(y,.int ky (i:Int))],[]⟩ (.int kd n) [] [] :=
 aD fun s M A φ ac w hh hr=>by
  refine ⟨.int kd n,?_,.fz (.int (MG h))⟩
  subst h
  have e:min ((i:Int)).toNat kd.bits=i:=by rw [Int.toNat_natCast];omega
  unfold execOp
  have e2:(eqGuard .shl t x y (.int kd a) (.int ky (i:Int))).run P w = .ok () w:=rfl
  have e3:(binOp .shl t (.int kd a) (.int ky (i:Int))).run P w = .ok (.int kd (kd.wrap (a*2^i))) w:=by
   unfold binOp
   simp only [Op.shift]
   rw [if_neg (by omega),e]
   rfl
  simp only [ho,hr.int hh.a,hr.int hh.b,Sem.run_bind,e2,e3,Result.andThen_ok,Sem.run_pure]
theorem NY (i:Nat) (k:ay P N l K r ⟨(d,.int kd n)::tm,st,nx,nt⟩ (tr++[aH l o ⟨[(x,.int kd a),(y,.int ky (i:Int))],[]⟩ []])) (ho:o.op = .binOp .shl t x y t':=by rfl) (hx:S.ev ⟨tm,st,nx,nt⟩ x=some (.int kd a):=by rfl) (hy:S.ev ⟨tm,st,nx,nt⟩ y=some (.int ky (i:Int)):=by rfl) (hg:ax l o ⟨tm,st,nx,nt⟩=some true:=by rfl) (hd:o.dst=some d:=by rfl) (hlt:Nat.blt d nt=true:=by rfl) (hi:i≤kd.bits:=by assumption) (h:kd.wrap (a*2^i)=n:=by assumption):ay P N l K (o::r) ⟨tm,st,nx,nt⟩ tr:=aJ hg hd hlt (V4 ho hi h) (hT hx (hT hy h0)) k
theorem YM (p q:Nat) (hp:p<256) (hq:q<256):IntKind.u8.wrap (((BitVec.ofInt 8 (p:Int) ||| BitVec.ofInt 8 (q:Int)).toNat:Nat):Int)=((p ||| q:Nat):Int):=by
 have e:∀ m:Nat,m<256→(BitVec.ofInt 8 (m:Int)).toNat=m:=fun m hm=>by rw [BitVec.toNat_ofInt];simp;omega
 have e3:p ||| q<2^8:=Nat.or_lt_two_pow (by omega) (by omega)
 rw [BitVec.toNat_or,e p hp,e q hq,IntKind.wrap_u8']
 omega
theorem XV (ho:o.op = .binOp .or t x y t') (hp:p<256) (hq:q<256):aC P N o ⟨[(x,.int .u8 (p:Int)),(y,.int .u8 (q:Int))],[]⟩ (.int .u8 ((p ||| q:Nat):Int)) [] [] :=
 fG (v:=.int .u8 ((p ||| q:Nat):Int)) ho rfl (fun _ _ _ _=>.fz (.int ⟨by simp only [rng];omega,by have:p ||| q<2^8:=Nat.or_lt_two_pow (by omega) (by omega);simp only [rng];omega⟩)) fun w=>by
  have:=YM p q hp hq
  simp only [binOp,Op.intBits]
  exact congrArg (fun z=>Result.ok (Value.int .u8 z) w) this
theorem ZK (k:ay P N l K r ⟨(d,.int .u8 ((p ||| q:Nat):Int))::tm,st,nx,nt⟩ (tr++[aH l o ⟨[(x,.int .u8 (p:Int)),(y,.int .u8 (q:Int))],[]⟩ []])) (ho:o.op = .binOp .or t x y t':=by rfl) (hx:S.ev ⟨tm,st,nx,nt⟩ x=some (.int .u8 (p:Int)):=by rfl) (hy:S.ev ⟨tm,st,nx,nt⟩ y=some (.int .u8 (q:Int)):=by rfl) (hg:ax l o ⟨tm,st,nx,nt⟩=some true:=by rfl) (hd:o.dst=some d:=by rfl) (hlt:Nat.blt d nt=true:=by rfl) (hp:p<256:=by assumption) (hq:q<256:=by assumption):ay P N l K (o::r) ⟨tm,st,nx,nt⟩ tr:=aJ hg hd hlt (XV ho hp hq) (hT hx (hT hy h0)) k
theorem U8 (m:Nat) (h:m<256):IntKind.u8.wrap (((BitVec.ofInt 8 (m:Int) &&& BitVec.ofInt 8 1).toNat:Nat):Int)=((m % 2:Nat):Int):=by
 have e:(BitVec.ofInt 8 (m:Int)).toNat=m:=by rw [BitVec.toNat_ofInt];simp;omega
 have e1:(BitVec.ofInt 8 1).toNat=1:=by decide
 rw [BitVec.toNat_and,e,e1,Nat.and_one_is_mod,IntKind.wrap_u8']
 omega
theorem Vm (ho:o.op = .binOp .and t x y t') (h:m<256):aC P N o ⟨[(x,.int .u8 (m:Int)),(y,.int .u8 1)],[]⟩ (.int .u8 ((m % 2:Nat):Int)) [] [] :=
 fG (v:=.int .u8 ((m % 2:Nat):Int)) ho rfl (fun _ _ _ _=>.fz (.int ⟨by simp only [rng];omega,by simp only [rng];omega⟩)) fun w=>by
  have:=U8 m h
  simp only [binOp,Op.intBits]
  exact congrArg (fun z=>Result.ok (Value.int .u8 z) w) this
theorem ab3 (k:ay P N l K r ⟨(d,.int .u8 ((m % 2:Nat):Int))::tm,st,nx,nt⟩ (tr++[aH l o ⟨[(x,.int .u8 (m:Int)),(y,.int .u8 1)],[]⟩ []])) (ho:o.op = .binOp .and t x y t':=by rfl) (hx:S.ev ⟨tm,st,nx,nt⟩ x=some (.int .u8 (m:Int)):=by rfl) (hy:S.ev ⟨tm,st,nx,nt⟩ y=some (.int .u8 1):=by rfl) (hg:ax l o ⟨tm,st,nx,nt⟩=some true:=by rfl) (hd:o.dst=some d:=by rfl) (hlt:Nat.blt d nt=true:=by rfl) (h:m<256:=by assumption):ay P N l K (o::r) ⟨tm,st,nx,nt⟩ tr:=aJ hg hd hlt (Vm ho h) (hT hx (hT hy h0)) k
theorem Td (p q:Nat) (hp:p<18446744073709551616) (hq:q<18446744073709551616):IntKind.u64.wrap (((BitVec.ofInt 64 (p:Int) ||| BitVec.ofInt 64 (q:Int)).toNat:Nat):Int)=((p ||| q:Nat):Int):=by
 have e:∀ m:Nat,m<18446744073709551616→(BitVec.ofInt 64 (m:Int)).toNat=m:=fun m hm=>by rw [BitVec.toNat_ofInt];simp;omega
 have e3:p ||| q<2^64:=Nat.or_lt_two_pow (by omega) (by omega)
 rw [BitVec.toNat_or,e p hp,e q hq]
 simp [IntKind.wrap,IntKind.bits,IntKind.signed]
 omega
theorem R8 (ho:o.op = .binOp .or t x y t') (hp:p<18446744073709551616) (hq:q<18446744073709551616):aC P N o ⟨[(x,.int .u64 (p:Int)),(y,.int .u64 (q:Int))],[]⟩ (.int .u64 ((p ||| q:Nat):Int)) [] [] :=
 fG (v:=.int .u64 ((p ||| q:Nat):Int)) ho rfl (fun _ _ _ _=>.fz (.int ⟨by simp only [rng];omega,by have:p ||| q<2^64:=Nat.or_lt_two_pow (by omega) (by omega);simp only [rng];omega⟩)) fun w=>by
  have:=Td p q hp hq
  simp only [binOp,Op.intBits]
  exact congrArg (fun z=>Result.ok (Value.int .u64 z) w) this
theorem ZW (k:ay P N l K r ⟨(d,.int .u64 ((p ||| q:Nat):Int))::tm,st,nx,nt⟩ (tr++[aH l o ⟨[(x,.int .u64 (p:Int)),(y,.int .u64 (q:Int))],[]⟩ []])) (ho:o.op = .binOp .or t x y t':=by rfl) (hx:S.ev ⟨tm,st,nx,nt⟩ x=some (.int .u64 (p:Int)):=by rfl) (hy:S.ev ⟨tm,st,nx,nt⟩ y=some (.int .u64 (q:Int)):=by rfl) (hg:ax l o ⟨tm,st,nx,nt⟩=some true:=by rfl) (hd:o.dst=some d:=by rfl) (hlt:Nat.blt d nt=true:=by rfl) (hp:p<18446744073709551616:=by assumption) (hq:q<18446744073709551616:=by assumption):ay P N l K (o::r) ⟨tm,st,nx,nt⟩ tr:=aJ hg hd hlt (R8 ho hp hq) (hT hx (hT hy h0)) k
end
end Abs
namespace IV
open Go.RowKit Mem Abs gH dW jG Et
variable {T W:Nat}
abbrev byV (b:Nat):V:=.int .u8 (b:Int)
abbrev sinkB (T m:Nat) (l:List Nat):Blk:=.els T 2 [.agg [.own m 0 (aZ l).length,.int .i64 (dW.leftOf l:Int)]]
abbrev gZ (l:List Nat):Blk:=.els 5 1 ((aZ l).map byV)
theorem fq {P:Program} {N:Env} {c:Code} {Q:Exit→S→Prop} {s:S} {α:Type} (st:α→S) (I:α→Prop) (μ:α→Nat) (x0:α) (h0:∃ ns,LeN ns N.K (st x0) s) (hI:I x0) (round:∀ x,I x→AWp P N c (kT (fun s'=>∃ y,I y∧μ y<μ x∧∃ ns,LeN ns N.K (st y) s') Q) (st x)):AWp P N (.loop c) Q s:=by
 obtain ⟨ns,h0⟩:=h0
 refine q9 st I μ x0 (nm ns) h0.le h0.pin hI fun x hx=>(round x hx).mono fun e s' h=>?_
 cases e with
 | normal =>
  obtain ⟨y,h1,h2,ns,h3⟩:=h
  exact ⟨y,nm ns,h1,h2,h3.le,h3.pin⟩
 | _=>exact h
theorem UU {n:Nat} {cur:Nat→List Nat} (hn:n<18446744073709551616) (hW:W≤64) (hbin:∀ k,Bin (cur k)) (hlen:∀ k,(cur k).length≤1000000064) (hon:∀ k,k<W→cur k=cur (k+1)++[n/2^k % 2]):
  aK Tryz.prog 195 [.loc 0 0 0,.int .u64 (n:Int),.int .i64 (W:Int)] [sinkB T 1 (cur W),gZ (cur W)] (.tup []) [some (sinkB T 2 (cur 0)),none,some (gZ (cur 0))]:=by
 refine bL af Tryz.func195 rfl Tryz.ntmps195 Tryz.results195 rfl rfl rfl rfl fun N pl=>?_
 repeat' (first|refine zW ?_|exact ai)
 refine fq (fun k:Nat=>⟨[(0,.loc 0 0 0),(1,.int .u64 (n:Int)),(6,.int .i64 ((k:Int)-1))],[(0,some (sinkB T 2 (cur k))),(2,some (gZ (cur k)))],3,61⟩) (fun k=>k≤W) id W ?_ (Nat.le_refl _) ?_
 ·exact (by exact x_len [0,1,1])
 intro k hk
 rcases k with _|k
 ·generalize cur 0=m at *
  repeat' (first|refine zW ?_|refine aA [0,1,2] ?_ ?_|exact ai)
  ·rfl
  ·exact .on (.ren rfl) (.no (.on (.same (aT fun _=>rfl)) .nil))
 ·have e:=hon k (by omega)
  have hb:=hbin (k+1)
  have hl1:=hlen (k+1)
  rw [show ((k+1:Nat):Int)-1=(k:Int) from by omega]
  generalize cur (k+1)=m at *
  have hx:=lG hb (m.length/8)
  have hat:=yo m
  have hsn:=Ed m (n/2^k % 2)
  have hpl:=dD m
  change AWp _ _ _ _ ⟨[(0,.loc 0 0 0),(1,.int .u64 (n:Int)),(6,.int .i64 (k:Int))],[(0,some (.els T 2 [.agg [.own 2 0 (aZ m).length,.int .i64 (dW.leftOf m:Int)]])),(2,some (.els 5 1 ((aZ m).map byV)))],3,61⟩
  have hbit:n/2^k % 2<2:=Nat.mod_lt _ (by decide)
  have hdiv:n/2^k<18446744073709551616:=Nat.lt_of_le_of_lt (Nat.div_le_self _ _) hn
  have hfd:(n:Int).fdiv (2^k)=((n/2^k:Nat):Int):=by
   rw [Int.fdiv_eq_ediv_of_nonneg _ (Int.le_of_lt (Int.pow_pos (by decide)))];simp
  have hin:InR .u64 ((n/2^k:Nat):Int):=(fun (z:Nat) (hz:z<18446744073709551616)=>(⟨by show (0:Int)≤_;omega,by show _≤(18446744073709551615:Int);omega⟩:InR .u64 (z:Int))) _ hdiv
  have hw8:IntKind.u8.wrap ((n/2^k % 2:Nat):Int)=((n/2^k % 2:Nat):Int):=by rw [IntKind.wrap_u8'];omega
  have hk64:k≤IntKind.u64.bits:=by show k≤64;omega
  generalize hbb:n/2^k % 2=b at *
  have hor:=AQ (bH m (m.length/8)) b (7-m.length % 8) (by have:=sI m;rwa [show 8-m.length % 8=7-m.length % 8+1 from by omega] at this) hbit
  have hf8:7-m.length % 8≤IntKind.u8.bits:=by show _≤8;omega
  have hb256:b*2^(7-m.length % 8)<256:=by
   have h1:2^(7-m.length % 8)≤2^7:=Nat.pow_le_pow_right (by decide) (by omega)
   have h2:b*2^(7-m.length % 8)≤1*2^7:=Nat.mul_le_mul (by omega) h1
   omega
  have hsh:IntKind.u8.wrap (IntKind.u8.wrap ((n/2^k % 2:Nat):Int)*2^(7-m.length % 8))=((b*2^(7-m.length % 8):Nat):Int):=by
   have e:((b:Nat):Int)*2^(7-m.length % 8)=((b*2^(7-m.length % 8):Nat):Int):=by simp
   rw [hbb,hw8,e,IntKind.wrap_u8'];omega
  have hzl:=N9 m
  have hq0:m.length/8≤1000000064:=by omega
  have h46:((gD m).length:Int)-1=((m.length/8:Nat):Int):=by omega
  have hat2:((gD m).map byV)[m.length/8]? = some (byV (bH m (m.length/8))):=by rw [List.getElem?_map,hat];rfl
  have hfin:aZ (m++[b])=(gD m).set (m.length/8) (bH m (m.length/8) ||| b*2^(7-m.length % 8)):=by rw [hsn,hor]
  have hfl:(aZ (m++[b])).length=(gD m).length:=by rw [hsn,List.length_set]
  have hlo:dW.leftOf (m++[b])=7-m.length % 8:=by unfold dW.leftOf;rw [List.length_append,List.length_singleton];omega
  generalize hff:7-m.length % 8=f at *
  generalize hxx:bH m (m.length/8)=x at *
  by_cases h8:m.length % 8=0
  ·have hz:=El h8
   have hleft:(dW.leftOf m:Int)=0:=by unfold dW.leftOf;omega
   obtain rfl:f=7:=by omega
   rw [hleft]
   repeat' (first|refine xL (id:=3) (⟨[(0,.loc 0 0 0),(1,.int .u64 (n:Int)),(6,.int .i64 (k:Int))],[(0,some (.els T 2 [.agg [.own 3 0 (aZ m++[0]).length,.int .i64 8]])),(3,some (.els 5 1 ((aZ m++[0]).map byV)))],4,61⟩) ?_ ?_|refine zV ?_|(refine isR ?_;refine kr byV (a1:=(0)) af ?_)|refine zW ?_|exact ai)
   rw [← hz]
   clear hz
   generalize gD m=R at *
   generalize m.length/8=q at *
   repeat' (first|refine zV ?_|(refine isR ?_;first|refine cO byV q af ?_|refine NI k ?_|refine TH ?_|refine mZ .u8 af ?_|refine NY 7 ?_|refine ZK ?_|refine jY byV (a1:=x ||| b*2^7) q af ?_)|refine zW ?_|exact ai)
   have es:sinkB T 2 (m++[b]) = .els T 2 [.agg [.own 2 0 R.length,.int .i64 (8-1:Int)]]:=by show Blk.els T 2 [.agg [.own 2 0 (aZ (m++[b])).length,.int .i64 (dW.leftOf (m++[b]):Int)]]=_;rw [hfl,hlo];rfl
   have er:gZ (m++[b]) = .els 5 1 ((R.set q (x ||| b*2^7)).map byV):=by show Blk.els _ 1 ((aZ (m++[b])).map byV)=_;rw [hfin]
   refine ⟨k,by omega,by show k<k+1;omega,?_⟩
   rw [e,es,er]
   exact (by exact x_len [0,1,3])
  ·have hz:=Cr h8
   have hleft:(dW.leftOf m:Int)=((f+1:Nat):Int):=by unfold dW.leftOf;omega
   have hf:((f+1:Nat):Int)-1=(f:Int):=by omega
   have hf7:f≤7:=by omega
   rw [hleft,← hz]
   clear hz
   generalize gD m=R at *
   generalize m.length/8=q at *
   repeat' (first|refine zV ?_|(refine isR ?_;first|refine cO byV q af ?_|refine NI k ?_|refine TH ?_|refine mZ .u8 af ?_|refine NY f ?_|refine ZK ?_|refine jY byV (a1:=x ||| b*2^f) q af ?_)|refine zW ?_|exact ai)
   have es:sinkB T 2 (m++[b]) = .els T 2 [.agg [.own 2 0 R.length,.int .i64 (f:Int)]]:=by show Blk.els T 2 [.agg [.own 2 0 (aZ (m++[b])).length,.int .i64 (dW.leftOf (m++[b]):Int)]]=_;rw [hfl,hlo]
   have er:gZ (m++[b]) = .els 5 1 ((R.set q (x ||| b*2^f)).map byV):=by show Blk.els _ 1 ((aZ (m++[b])).map byV)=_;rw [hfin]
   refine ⟨k,by omega,by show k<k+1;omega,?_⟩
   rw [e,es,er]
   exact (by exact x_len [0,1,2])
theorem ZE {n:Nat} {l:List Nat} (hn:n<18446744073709551616) (hW:W≤64) (hl:Bin l) (hs:l.length≤1000000000):
  aK Tryz.prog 195 [.loc 0 0 0,.int .u64 (n:Int),.int .i64 (W:Int)] [sinkB T 1 l,gZ l] (.tup []) [some (sinkB T 2 (l++bitsOf n W)),none,some (gZ (l++bitsOf n W))]:=by
 have h:=UU (T:=T) (cur:=fun k=>l++(bitsOf n W).take (W-k)) hn hW (fun k=>hl.app (fun b hb=>bT n W b (List.mem_of_mem_take hb))) (fun k=>by
  simp only [List.length_append,List.length_take,bE];omega) (fun k hk=>by
  have e:W-k=(W-(k+1))+1:=by omega
  have h1:=Gg n W (W-(k+1)) (by omega)
  rw [show W-1-(W-(k+1))=k from by omega] at h1
  show l++(bitsOf n W).take (W-k)=(l++(bitsOf n W).take (W-(k+1)))++[n/2^k % 2]
  rw [e,List.take_add_one,h1,List.append_assoc]
  rfl)
 simp only [Nat.sub_self,List.take_zero,List.append_nil,Nat.sub_zero] at h
 rw [List.take_of_length_le (by rw [bE];exact Nat.le_refl _)] at h
 exact h
theorem QW {l:List Nat} (hl:Bin l):(aZ l).map byV=((aZ l).map UInt8.ofNat).map bB:=by
 rw [List.map_map]
 refine List.map_congr_left fun x hx=>?_
 simp only [aZ,List.mem_map] at hx
 obtain ⟨j,_,rfl⟩:=hx
 have:=lG hl j
 show V.int .u8 _=V.int .u8 _
 rw [UInt8.toNat_ofNat',Nat.mod_eq_of_lt (by omega)]
theorem aaj {l:List Nat} (hl:Bin l) (hs:l.length≤1000000064):aK Tryz.prog 196 [.loc 0 0 0] [sinkB T 1 l,gZ l] (.str (btx l)) [some (sinkB T 1 l),some (gZ l)]:=by
 have hr:=QW hl
 have hL:(aZ l).length=((aZ l).map UInt8.ofNat).length:=by simp
 show aK _ _ _ [.els T 2 [.agg [.own 1 0 (aZ l).length,.int .i64 (dW.leftOf l:Int)]],.els 5 1 ((aZ l).map byV)] (au ((aZ l).map UInt8.ofNat)) [some (.els T 2 [.agg [.own 1 0 (aZ l).length,.int .i64 (dW.leftOf l:Int)]]),some (.els 5 1 ((aZ l).map byV))]
 have hp:((aZ l).map UInt8.ofNat).length≤1000000064:=by rw [List.length_map,dD];omega
 rw [hr,hL]
 clear hr hL
 generalize (aZ l).map UInt8.ofNat=p at *
 generalize (dW.leftOf l:Int)=f
 refine bL af Tryz.func196 rfl Tryz.ntmps196 Tryz.results196 rfl rfl rfl rfl fun N pl=>?_
 repeat' (first|refine zV ?_|(refine isR ?_;refine abM (p:=p) af ?_)|refine zW ?_|refine aA [0,1] ?_ ?_|exact ai)
 ·rfl
 ·exact .on (.ren rfl) (.on (.same (aT fun _=>rfl)) .nil)
end IV
namespace K7
open Go.RowKit Mem Abs gH dW jG Et IV
variable {T W:Nat} {s:List UInt8}
abbrev ou (T:Nat) (s:List UInt8) (n:Nat):Blk:=.els T 2 [.agg [au s,.int .i64 (n:Int)]]
theorem Uv {n:Nat} (hs:s.length≤1048576) (hn:n≤8*s.length):aK Tryz.prog 236 [.loc 0 0 0] [ou T s n] (.int .i64 ((8*s.length-n:Nat):Int)) [some (ou T s n)]:=by
 have h1:8*(s.length:Int)-(n:Int)=((8*s.length-n:Nat):Int):=by omega
 refine bL af Tryz.func236 rfl Tryz.ntmps236 Tryz.results236 rfl rfl rfl rfl fun N pl=>?_
 repeat' (first|refine zW ?_|refine aA [0] ?_ ?_|exact ai)
 ·rfl
 ·exact .on (.same rfl) .nil
theorem Vk {n:Nat} {acc:Nat→Nat} (hs:s.length≤1048576) (hW:W≤63) (hn:n+W≤8*s.length) (h0:acc 0=0) (hlt:∀ k,k≤W→acc k<2^k) (hon:∀ k c,k<W→s[(n+k)/8]? = some c→acc (k+1)=2*acc k+c.toNat/2^(7-(n+k) % 8) % 2):
  aK Tryz.prog 237 [.loc 0 0 0,.int .i64 (W:Int)] [ou T s n] (.int .u64 (acc W:Int)) [some (ou T s (n+W))]:=by
 refine bL af Tryz.func237 rfl Tryz.ntmps237 Tryz.results237 rfl rfl rfl rfl fun N pl=>?_
 repeat' (first|refine zW ?_|exact ai)
 refine fI (fun k=>⟨[(0,.loc 0 0 0),(4,.int .u64 (acc k:Int)),(6,.int .i64 (W:Int)),(7,.int .i64 (k:Int))],[(0,some (ou T s (n+k)))],1,41⟩) (fun k=>k≤W) W 0 (by rw [h0];exact (by exact ai)) (Nat.zero_le _) ?_
 intro k hk
 by_cases hk2:k<W
 ·have hq:(n+k)/8<s.length:=by omega
  have hc:s[(n+k)/8]? = some s[(n+k)/8]:=by simp [hq]
  have h1:=hon k _ hk2 hc
  generalize s[(n+k)/8]=c at *
  have hN:acc k<9223372036854775808:=Nat.lt_of_lt_of_le (hlt k hk) (Nat.le_trans (Nat.pow_le_pow_right (by omega) (show k≤63 by omega)) (by decide))
  have hc8:=c.toNat_lt
  generalize acc k=a at *
  have hquo:IntKind.i64.wrap (((n+k:Nat):Int).tdiv 8)=(((n+k)/8:Nat):Int):=by
   have e:((n+k:Nat):Int).tdiv 8=(((n+k)/8:Nat):Int):=by rw [Int.tdiv_eq_ediv_of_nonneg (by omega)];omega
   rw [e,IntWalk.i64_in _ (by omega)]
  have hrem:((n+k:Nat):Int).tmod 8=(((n+k) % 8:Nat):Int):=by rw [Int.tmod_eq_emod_of_nonneg (by omega)];omega
  have hr8:(n+k) % 8<8:=Nat.mod_lt _ (by decide)
  have hinq:InR .i64 (((n+k)/8:Nat):Int):=⟨by show (-9223372036854775808:Int)≤_;omega,by show _≤(9223372036854775807:Int);omega⟩
  have hinr:InR .i64 (((n+k) % 8:Nat):Int):=⟨by show (-9223372036854775808:Int)≤_;omega,by show _≤(9223372036854775807:Int);omega⟩
  have hsub:(7:Int)-(((n+k) % 8:Nat):Int)=((7-(n+k) % 8:Nat):Int):=by omega
  generalize hf:7-(n+k) % 8=f at *
  have hf8:f≤IntKind.u8.bits:=by show f≤8;omega
  have hdv:c.toNat/2^f<256:=Nat.lt_of_le_of_lt (Nat.div_le_self _ _) hc8
  have hfd:(c.toNat:Int).fdiv (2^f)=((c.toNat/2^f:Nat):Int):=by
   rw [Int.fdiv_eq_ediv_of_nonneg _ (Int.le_of_lt (Int.pow_pos (by decide)))];simp
  have hin:InR .u8 ((c.toNat/2^f:Nat):Int):=(fun (z:Nat) (hz:z<256)=>(⟨by show (0:Int)≤_;omega,by show _≤(255:Int);omega⟩:InR .u8 (z:Int))) _ hdv
  have hb2:c.toNat/2^f % 2<2:=Nat.mod_lt _ (by decide)
  have hcv:IntKind.u64.wrap ((c.toNat/2^f % 2:Nat):Int)=((c.toNat/2^f % 2:Nat):Int):=by
   generalize c.toNat/2^f % 2=z at hb2
   simp [IntKind.wrap,IntKind.bits,IntKind.signed];omega
  have hor:=AQ (2*a) (c.toNat/2^f % 2) 0 (by omega) hb2
  rw [Nat.pow_zero,Nat.mul_one] at hor
  have hsl:IntKind.u64.wrap ((a:Int)*2^1)=((2*a:Nat):Int):=by
   simp [IntKind.wrap,IntKind.bits,IntKind.signed];omega
  have h2a:2*a<18446744073709551616:=by omega
  have hb64:c.toNat/2^f % 2<18446744073709551616:=by omega
  have hl1:1≤IntKind.u64.bits:=by decide
  rw [← hor] at h1
  have hi1:n+(k+1)=n+k+1:=by omega
  generalize n+k=i0 at *
  have hi2:((i0+1:Nat):Int)=(i0:Int)+1:=by omega
  have hi3:i0≤8388608:=by omega
  repeat' (first|refine zV ?_|(refine isR ?_;first|refine Zq ?_|refine Ua ?_|refine NI f ?_|refine ab3 ?_|refine NY 1 ?_|refine mZ .u64 af ?_|refine ZW ?_)|refine zW ?_|exact ai)
  refine ⟨by omega,hk2,?_⟩
  rw [h1,hi1]
  show ∃ ns,LeN ns _ ⟨_,[(0,some (.els T 2 [.agg [au s,.int .i64 ((i0+1:Nat):Int)]]))],1,41⟩ _
  rw [hi2]
  exact (by exact x_len [0])
 ·obtain rfl:k=W:=by omega
  repeat' (first|refine zW ?_|refine aA [0] ?_ ?_|exact ai)
  ·rfl
  ·exact .on (.same rfl) .nil
theorem adf {n:Nat} (hs:s.length≤1048576) (hW:W≤63) (hn:n+W≤8*s.length):
  aK Tryz.prog 237 [.loc 0 0 0,.int .i64 (W:Int)] [ou T s n] (.int .u64 (num (((aF s).drop n).take W):Int)) [some (ou T s (n+W))] :=
 Vk (acc:=fun k=>num (((aF s).drop n).take k)) hs hW hn rfl
  (fun k _=>Nat.lt_of_lt_of_le (pu (fun b hb=>lC s b (List.mem_of_mem_drop (List.mem_of_mem_take hb)))) (Nat.pow_le_pow_right (by omega) (List.length_take_le _ _)))
  (fun k c hk hc=>by
   have h1:=Dv s (n+k) (by omega)
   obtain ⟨_,he⟩:=List.getElem?_eq_some_iff.1 hc
   rw [he] at h1
   show num (((aF s).drop n).take (k+1))=_
   rw [ET _ _ _ _ h1,kF])
end K7
namespace ZU
open Go.RowKit Mem Abs gH dW jG Et IV K7
variable {T:Nat}
theorem lM {n W:Nat} {l:List Nat} (hn:n<9223372036854775808) (hW:W≤64) (hl:Bin l) (hs:l.length≤1000000000):
  aK Tryz.prog 199 [.loc 0 0 0,.int .i64 (n:Int),.int .i64 (W:Int)] [sinkB T 1 l,gZ l] (.tup []) [some (sinkB T 2 (l++bitsOf n W)),none,some (gZ (l++bitsOf n W))]:=by
 have c:=ZE (T:=T) (n:=n) (W:=W) (l:=l) (by omega) hW hl hs
 have hcv:IntKind.u64.wrap (n:Int)=(n:Int):=by
  simp [IntKind.wrap,IntKind.bits,IntKind.signed];omega
 generalize l++bitsOf n W=m at *
 refine bL af Tryz.func199 rfl Tryz.ntmps199 Tryz.results199 rfl rfl rfl rfl fun N pl=>?_
 repeat' (first|refine zt ?_|(refine isR ?_;first|refine zo ?_|refine mZ .u64 af ?_|refine x_m [0,1] [2] (c _) ?_|refine x_m [0,1] [2] (c) ?_)|refine aA [0,1,2] ?_ ?_|exact ai)
 ·rfl
 ·exact .on (.ren rfl) (.no (.on (.same (aT fun _=>rfl)) .nil))
theorem Iu {b:Bool} {l:List Nat} (hl:Bin l) (hs:l.length≤1000000000):
  aK Tryz.prog 200 [.loc 0 0 0,.bool b] [sinkB T 1 l,gZ l] (.tup []) [some (sinkB T 2 (l++[b.toNat])),none,some (gZ (l++[b.toNat]))]:=by
 have c0:=lM (T:=T) (n:=0) (W:=1) (l:=l) (by omega) (by omega) hl hs
 have c1:=lM (T:=T) (n:=1) (W:=1) (l:=l) (by omega) (by omega) hl hs
 cases b with
 | false =>
  show aK _ _ _ _ _ [some (sinkB T 2 (l++bitsOf 0 1)),none,some (gZ (l++bitsOf 0 1))]
  generalize l++bitsOf 0 1=m at *
  refine bL af Tryz.func200 rfl Tryz.ntmps200 Tryz.results200 rfl rfl rfl rfl fun N pl=>?_
  repeat' (first|refine zt ?_|(refine isR ?_;first|refine zo ?_|refine x_m [0,1] [2] (c0 _) ?_|refine x_m [0,1] [2] (c0) ?_)|refine aA [0,1,2] ?_ ?_|exact ai)
  ·rfl
  ·exact .on (.ren rfl) (.no (.on (.same (aT fun _=>rfl)) .nil))
 | true =>
  show aK _ _ _ _ _ [some (sinkB T 2 (l++bitsOf 1 1)),none,some (gZ (l++bitsOf 1 1))]
  generalize l++bitsOf 1 1=m at *
  refine bL af Tryz.func200 rfl Tryz.ntmps200 Tryz.results200 rfl rfl rfl rfl fun N pl=>?_
  repeat' (first|refine zt ?_|(refine isR ?_;first|refine zo ?_|refine x_m [0,1] [2] (c1 _) ?_|refine x_m [0,1] [2] (c1) ?_)|refine aA [0,1,2] ?_ ?_|exact ai)
  ·rfl
  ·exact .on (.ren rfl) (.no (.on (.same (aT fun _=>rfl)) .nil))
theorem aa0 {a b:Int}:aj Tryz.prog 202 [.agg [.int .i64 a,.int .i64 b]] (.int .i64 (if a=b then 7 else 13)):=by
 by_cases h:a=b
 ·rw [if_pos h]
  refine aW af Tryz.func202 rfl Tryz.ntmps202 Tryz.results202 rfl fun N=>?_
  repeat' (first|refine zW ?_|exact ai)
  rfl
 ·rw [if_neg h]
  refine aW af Tryz.func202 rfl Tryz.ntmps202 Tryz.results202 rfl fun N=>?_
  repeat' (first|refine zW ?_|exact ai)
  rfl
end ZU
end
namespace Y7
open Go.RowKit Mem Abs gH dW jG Et IV K7
variable {W T:Nat} {s:List UInt8}
abbrev dw (s:List UInt8) (n W:Nat):Nat:=num (((aF s).drop n).take W)
theorem jS {n:Nat} (hs:s.length≤1048576) (hW:W≤62) (hn:n+W≤8*s.length):
  aK Tryz.prog 197 [.loc 0 0 0,.int .i64 (W:Int)] [ou T s n] (.int .i64 (dw s n W:Int)) [some (ou T s (n+W))]:=by
 have c1:=Uv (T:=T) (n:=n) (s:=s) hs (by omega)
 have c2:=adf (T:=T) (n:=n) (W:=W) (s:=s) hs (by omega) hn
 have hlt:num (((aF s).drop n).take W)<9223372036854775808:=by
  refine Nat.lt_of_lt_of_le (pu (fun b hb=>lC s b (List.mem_of_mem_drop (List.mem_of_mem_take hb)))) (Nat.le_trans (Nat.pow_le_pow_right (by omega) (List.length_take_le _ _)) (Nat.le_trans (Nat.pow_le_pow_right (by omega) hW) (by decide)))
 have hle:(W:Int)≤((8*s.length-n:Nat):Int):=by omega
 have hcv:IntKind.i64.wrap (num (((aF s).drop n).take W):Int)=(num (((aF s).drop n).take W):Int):=IntWalk.i64_in _ (by omega)
 show aK _ _ _ _ (.int .i64 (num (((aF s).drop n).take W):Int)) _
 generalize num (((aF s).drop n).take W)=z at *
 refine bL af Tryz.func197 rfl Tryz.ntmps197 Tryz.results197 rfl rfl rfl rfl fun N pl=>?_
 repeat' (first|refine zV ?_|(refine isR ?_;first|refine mZ .i64 af ?_|refine x_m [0] [] (c1 _) ?_|refine x_m [0] [] (c1) ?_|refine x_m [0] [] (c2 _) ?_|refine x_m [0] [] (c2) ?_)|refine zW ?_|refine aA [0] ?_ ?_|exact ai)
 ·rfl
 ·exact .on (.same rfl) .nil
theorem AV {n:Nat} (hs:s.length≤1048576) (hn:n+1≤8*s.length):
  aK Tryz.prog 198 [.loc 0 0 0] [ou T s n] (.bool (decide (dw s n 1=1))) [some (ou T s (n+1))]:=by
 have c:aK Tryz.prog 197 [.loc 0 0 0,.int .i64 1] [ou T s n] (.int .i64 (dw s n 1:Int)) [some (ou T s (n+1))]:=jS (W:=1) hs (by omega) hn
 generalize dw s n 1=z at *
 by_cases h:z=1
 ·subst h
  refine bL af Tryz.func198 rfl Tryz.ntmps198 Tryz.results198 rfl rfl rfl rfl fun N pl=>?_
  repeat' (first|refine zV ?_|(refine isR ?_;first|refine x_m [0] [] (c _) ?_|refine x_m [0] [] (c) ?_)|refine zW ?_|refine aA [0] ?_ ?_|exact ai)
  ·rfl
  ·exact .on (.same rfl) .nil
 ·have h1:¬ (z:Int)=1:=by omega
  rw [decide_eq_false h]
  refine bL af Tryz.func198 rfl Tryz.ntmps198 Tryz.results198 rfl rfl rfl rfl fun N pl=>?_
  repeat' (first|refine zV ?_|(refine isR ?_;first|refine x_m [0] [] (c _) ?_|refine x_m [0] [] (c) ?_)|refine zW ?_|refine aA [0] ?_ ?_|exact ai)
  ·rfl
  ·exact .on (.same rfl) .nil
abbrev pI (n:Int):List PanicEntry:=[{ v:=.iface 192 (.agg #[.int .i64 n]),recovered:=false }]
theorem jU {n:Nat} (hs:s.length≤1048576) (hn:n≤8*s.length) (hn2:8*s.length<n+W):
  WN Tryz.prog 197 [.loc 0 0 0,.int .i64 (W:Int)] [ou T s n] (pI 5):=fun g=>by
 have c1:=Uv (T:=T) (n:=n) (s:=s) hs hn
 have hlt:((8*s.length-n:Nat):Int)<(W:Int):=by omega
 refine BD Tryz.func197 rfl rfl fun bl pl=>?_
 rw [Tryz.ntmps197]
 repeat' (first|refine bW (id:=2) 2 ?_|(refine nI ?_;refine Pd ?_)|refine zV ?_|(refine isR ?_;first|refine x_m [0] [] (c1 _) ?_|refine x_m [0] [] (c1) ?_)|refine zW ?_|exact ai)
 exact rfl
theorem Ig {n:Nat} (hs:s.length≤1048576) (hn:n≤8*s.length) (hn2:8*s.length<n+1):
  WN Tryz.prog 198 [.loc 0 0 0] [ou T s n] (pI 5):=fun g=>by
 have c:WN Tryz.prog 197 [.loc 0 0 0,.int .i64 1] [ou T s n] (pI 5):=jU (W:=1) hs hn hn2
 refine BD Tryz.func198 rfl rfl fun bl pl=>?_
 rw [Tryz.ntmps198]
 repeat' (first|refine bW (id:=1) 1 ?_|(refine nI ?_;refine kH [0] (c _) ?_)|refine zW ?_|exact ai)
 exact rfl
end Y7
end Go.Proofs.YtlfdjpgghiemfaaGreatDoor
