/- Texts of the proof, joined: CoS, ConR. -/
import Derived.Test.YtlfdjpgghiemfaaGreatDoorH37
set_option maxHeartbeats 4000000
set_option maxRecDepth 100000
namespace Go.Proofs.YtlfdjpgghiemfaaGreatDoor
section
namespace Abs
open Go.RowKit Mem Facts
section
variable {P:Program} {N:Env} {l r:List Oper} {o:Oper} {tm:List (Nat × V)} {st:List (Nat × Option Blk)} {nx nt:Nat} {tr:List Tr} {K:S→List Tr→Prop} {d:Nat} {t t':TypeId} {x y:Operand} {a n:Int} {kd ky:IntKind} {i:Nat}
variable {q m p:Nat}
theorem Ug (ho:o.op = .binOp .shr t x y t') (hi:i≤kd.bits) (h:a.fdiv (2^i)=n) (hn:InR kd n):aC P N o ⟨[(x,.int kd a),(y,.int ky (i:Int))],[]⟩ (.int kd n) [] [] :=
 aD fun s M A φ ac w hh hr=>by
  refine ⟨.int kd n,?_,.fz (.int hn)⟩
  subst h
  have e:min ((i:Int)).toNat kd.bits=i:=by rw [Int.toNat_natCast];omega
  unfold execOp
  have e2:(eqGuard .shr t x y (.int kd a) (.int ky (i:Int))).run P w = .ok () w:=rfl
  have e3:(binOp .shr t (.int kd a) (.int ky (i:Int))).run P w = .ok (.int kd (a.fdiv (2^i))) w:=by
   unfold binOp
   simp only [Op.shift]
   rw [if_neg (by omega),e]
   rfl
  simp only [ho,hr.int hh.a,hr.int hh.b,Sem.run_bind,e2,e3,Result.andThen_ok,Sem.run_pure]
theorem Oi (i:Nat) (k:ay P N l K r ⟨(d,.int kd n)::tm,st,nx,nt⟩ (tr++[aH l o ⟨[(x,.int kd a),(y,.int ky (i:Int))],[]⟩ []])) (ho:o.op = .binOp .shr t x y t':=by rfl) (hx:S.ev ⟨tm,st,nx,nt⟩ x=some (.int kd a):=by rfl) (hy:S.ev ⟨tm,st,nx,nt⟩ y=some (.int ky (i:Int)):=by rfl) (hg:ax l o ⟨tm,st,nx,nt⟩=some true:=by rfl) (hd:o.dst=some d:=by rfl) (hlt:Nat.blt d nt=true:=by rfl) (hi:i≤kd.bits:=by assumption) (h:a.fdiv (2^i)=n:=by assumption) (hn:InR kd n:=by assumption):ay P N l K (o::r) ⟨tm,st,nx,nt⟩ tr:=aJ hg hd hlt (Ug ho hi h hn) (hT hx (hT hy h0)) k
theorem and_one (m:Nat) (h:m<18446744073709551616):IntKind.u64.wrap (((BitVec.ofInt 64 (m:Int) &&& BitVec.ofInt 64 1).toNat:Nat):Int)=((m % 2:Nat):Int):=by
 have e:(BitVec.ofInt 64 (m:Int)).toNat=m:=by rw [BitVec.toNat_ofInt];simp;omega
 have e1:(BitVec.ofInt 64 1).toNat=1:=by decide
 rw [BitVec.toNat_and,e,e1,Nat.and_one_is_mod]
 simp [IntKind.wrap,IntKind.bits,IntKind.signed]
 omega
theorem TK (ho:o.op = .binOp .and t x y t') (h:m<18446744073709551616):aC P N o ⟨[(x,.int .u64 (m:Int)),(y,.int .u64 1)],[]⟩ (.int .u64 ((m % 2:Nat):Int)) [] [] :=
 fP (v:=.int .u64 ((m % 2:Nat):Int)) ho rfl (fun _ _ _ _=>.fz (.int ⟨by simp only [rng];omega,by simp only [rng];omega⟩)) fun w=>by
  have:=and_one m h
  simp only [binOp,Op.intBits]
  exact congrArg (fun z=>Result.ok (Value.int .u64 z) w) this
theorem UE (k:ay P N l K r ⟨(d,.int .u64 ((m % 2:Nat):Int))::tm,st,nx,nt⟩ (tr++[aH l o ⟨[(x,.int .u64 (m:Int)),(y,.int .u64 1)],[]⟩ []])) (ho:o.op = .binOp .and t x y t':=by rfl) (hx:S.ev ⟨tm,st,nx,nt⟩ x=some (.int .u64 (m:Int)):=by rfl) (hy:S.ev ⟨tm,st,nx,nt⟩ y=some (.int .u64 1):=by rfl) (hg:ax l o ⟨tm,st,nx,nt⟩=some true:=by rfl) (hd:o.dst=some d:=by rfl) (hlt:Nat.blt d nt=true:=by rfl) (h:m<18446744073709551616:=by assumption):ay P N l K (o::r) ⟨tm,st,nx,nt⟩ tr:=aJ hg hd hlt (TK ho h) (hT hx (hT hy h0)) k
theorem Tc (ho:o.op = .binOp .shl t x y t') (hi:i≤kd.bits) (h:kd.wrap (a*2^i)=n):aC P N o ⟨[(x,.int kd a),(y,.int ky (i:Int))],[]⟩ (.int kd n) [] [] :=
 aD fun s M A φ ac w hh hr=>by
  refine ⟨.int kd n,?_,.fz (.int (NH h))⟩
  subst h
  have e:min ((i:Int)).toNat kd.bits=i:=by rw [Int.toNat_natCast];omega
  unfold execOp
  have e2:(eqGuard .shl t x y (.int kd a) (.int ky (i:Int))).run P w = .ok () w:=rfl
  have e3:(binOp .shl t (.int kd a) (.int ky (i:Int))).run P w = .ok (.int kd (kd.wrap (a*2^i))) w:=by
   unfold binOp
   simp only [Op.shift]
   rw [if_neg (by omega),e]
   rfl
  simp only [ho,hr.int hh.a,hr.int hh.b,Sem.run_bind,e2,e3,Result.andThen_ok,Sem.run_pure]
theorem MC (i:Nat) (k:ay P N l K r ⟨(d,.int kd n)::tm,st,nx,nt⟩ (tr++[aH l o ⟨[(x,.int kd a),(y,.int ky (i:Int))],[]⟩ []])) (ho:o.op = .binOp .shl t x y t':=by rfl) (hx:S.ev ⟨tm,st,nx,nt⟩ x=some (.int kd a):=by rfl) (hy:S.ev ⟨tm,st,nx,nt⟩ y=some (.int ky (i:Int)):=by rfl) (hg:ax l o ⟨tm,st,nx,nt⟩=some true:=by rfl) (hd:o.dst=some d:=by rfl) (hlt:Nat.blt d nt=true:=by rfl) (hi:i≤kd.bits:=by assumption) (h:kd.wrap (a*2^i)=n:=by assumption):ay P N l K (o::r) ⟨tm,st,nx,nt⟩ tr:=aJ hg hd hlt (Tc ho hi h) (hT hx (hT hy h0)) k
theorem XV (p q:Nat) (hp:p<256) (hq:q<256):IntKind.u8.wrap (((BitVec.ofInt 8 (p:Int) ||| BitVec.ofInt 8 (q:Int)).toNat:Nat):Int)=((p ||| q:Nat):Int):=by
 have e:∀ m:Nat,m<256→(BitVec.ofInt 8 (m:Int)).toNat=m:=fun m hm=>by rw [BitVec.toNat_ofInt];simp;omega
 have e3:p ||| q<2^8:=Nat.or_lt_two_pow (by omega) (by omega)
 rw [BitVec.toNat_or,e p hp,e q hq,IntKind.wrap_u8']
 omega
theorem X3 (ho:o.op = .binOp .or t x y t') (hp:p<256) (hq:q<256):aC P N o ⟨[(x,.int .u8 (p:Int)),(y,.int .u8 (q:Int))],[]⟩ (.int .u8 ((p ||| q:Nat):Int)) [] [] :=
 fP (v:=.int .u8 ((p ||| q:Nat):Int)) ho rfl (fun _ _ _ _=>.fz (.int ⟨by simp only [rng];omega,by have:p ||| q<2^8:=Nat.or_lt_two_pow (by omega) (by omega);simp only [rng];omega⟩)) fun w=>by
  have:=XV p q hp hq
  simp only [binOp,Op.intBits]
  exact congrArg (fun z=>Result.ok (Value.int .u8 z) w) this
theorem aae (k:ay P N l K r ⟨(d,.int .u8 ((p ||| q:Nat):Int))::tm,st,nx,nt⟩ (tr++[aH l o ⟨[(x,.int .u8 (p:Int)),(y,.int .u8 (q:Int))],[]⟩ []])) (ho:o.op = .binOp .or t x y t':=by rfl) (hx:S.ev ⟨tm,st,nx,nt⟩ x=some (.int .u8 (p:Int)):=by rfl) (hy:S.ev ⟨tm,st,nx,nt⟩ y=some (.int .u8 (q:Int)):=by rfl) (hg:ax l o ⟨tm,st,nx,nt⟩=some true:=by rfl) (hd:o.dst=some d:=by rfl) (hlt:Nat.blt d nt=true:=by rfl) (hp:p<256:=by assumption) (hq:q<256:=by assumption):ay P N l K (o::r) ⟨tm,st,nx,nt⟩ tr:=aJ hg hd hlt (X3 ho hp hq) (hT hx (hT hy h0)) k
theorem Uh (m:Nat) (h:m<256):IntKind.u8.wrap (((BitVec.ofInt 8 (m:Int) &&& BitVec.ofInt 8 1).toNat:Nat):Int)=((m % 2:Nat):Int):=by
 have e:(BitVec.ofInt 8 (m:Int)).toNat=m:=by rw [BitVec.toNat_ofInt];simp;omega
 have e1:(BitVec.ofInt 8 1).toNat=1:=by decide
 rw [BitVec.toNat_and,e,e1,Nat.and_one_is_mod,IntKind.wrap_u8']
 omega
theorem Uk (ho:o.op = .binOp .and t x y t') (h:m<256):aC P N o ⟨[(x,.int .u8 (m:Int)),(y,.int .u8 1)],[]⟩ (.int .u8 ((m % 2:Nat):Int)) [] [] :=
 fP (v:=.int .u8 ((m % 2:Nat):Int)) ho rfl (fun _ _ _ _=>.fz (.int ⟨by simp only [rng];omega,by simp only [rng];omega⟩)) fun w=>by
  have:=Uh m h
  simp only [binOp,Op.intBits]
  exact congrArg (fun z=>Result.ok (Value.int .u8 z) w) this
theorem acu (k:ay P N l K r ⟨(d,.int .u8 ((m % 2:Nat):Int))::tm,st,nx,nt⟩ (tr++[aH l o ⟨[(x,.int .u8 (m:Int)),(y,.int .u8 1)],[]⟩ []])) (ho:o.op = .binOp .and t x y t':=by rfl) (hx:S.ev ⟨tm,st,nx,nt⟩ x=some (.int .u8 (m:Int)):=by rfl) (hy:S.ev ⟨tm,st,nx,nt⟩ y=some (.int .u8 1):=by rfl) (hg:ax l o ⟨tm,st,nx,nt⟩=some true:=by rfl) (hd:o.dst=some d:=by rfl) (hlt:Nat.blt d nt=true:=by rfl) (h:m<256:=by assumption):ay P N l K (o::r) ⟨tm,st,nx,nt⟩ tr:=aJ hg hd hlt (Uk ho h) (hT hx (hT hy h0)) k
theorem Tt (p q:Nat) (hp:p<18446744073709551616) (hq:q<18446744073709551616):IntKind.u64.wrap (((BitVec.ofInt 64 (p:Int) ||| BitVec.ofInt 64 (q:Int)).toNat:Nat):Int)=((p ||| q:Nat):Int):=by
 have e:∀ m:Nat,m<18446744073709551616→(BitVec.ofInt 64 (m:Int)).toNat=m:=fun m hm=>by rw [BitVec.toNat_ofInt];simp;omega
 have e3:p ||| q<2^64:=Nat.or_lt_two_pow (by omega) (by omega)
 rw [BitVec.toNat_or,e p hp,e q hq]
 simp [IntKind.wrap,IntKind.bits,IntKind.signed]
 omega
theorem WY (ho:o.op = .binOp .or t x y t') (hp:p<18446744073709551616) (hq:q<18446744073709551616):aC P N o ⟨[(x,.int .u64 (p:Int)),(y,.int .u64 (q:Int))],[]⟩ (.int .u64 ((p ||| q:Nat):Int)) [] [] :=
 fP (v:=.int .u64 ((p ||| q:Nat):Int)) ho rfl (fun _ _ _ _=>.fz (.int ⟨by simp only [rng];omega,by have:p ||| q<2^64:=Nat.or_lt_two_pow (by omega) (by omega);simp only [rng];omega⟩)) fun w=>by
  have:=Tt p q hp hq
  simp only [binOp,Op.intBits]
  exact congrArg (fun z=>Result.ok (Value.int .u64 z) w) this
theorem abf (k:ay P N l K r ⟨(d,.int .u64 ((p ||| q:Nat):Int))::tm,st,nx,nt⟩ (tr++[aH l o ⟨[(x,.int .u64 (p:Int)),(y,.int .u64 (q:Int))],[]⟩ []])) (ho:o.op = .binOp .or t x y t':=by rfl) (hx:S.ev ⟨tm,st,nx,nt⟩ x=some (.int .u64 (p:Int)):=by rfl) (hy:S.ev ⟨tm,st,nx,nt⟩ y=some (.int .u64 (q:Int)):=by rfl) (hg:ax l o ⟨tm,st,nx,nt⟩=some true:=by rfl) (hd:o.dst=some d:=by rfl) (hlt:Nat.blt d nt=true:=by rfl) (hp:p<18446744073709551616:=by assumption) (hq:q<18446744073709551616:=by assumption):ay P N l K (o::r) ⟨tm,st,nx,nt⟩ tr:=aJ hg hd hlt (WY ho hp hq) (hT hx (hT hy h0)) k
end
end Abs
namespace IZ
open Go.RowKit Mem Abs gT eu jL EM
variable {T W:Nat}
abbrev byV (b:Nat):V:=.int .u8 (b:Int)
abbrev sinkB (T m:Nat) (l:List Nat):Blk:=.els T 2 [.agg [.own m 0 (aZ l).length,.int .i64 (eu.leftOf l:Int)]]
abbrev iF (l:List Nat):Blk:=.els 5 1 ((aZ l).map byV)
theorem fB {P:Program} {N:Env} {c:Code} {Q:Exit→S→Prop} {s:S} {α:Type} (st:α→S) (I:α→Prop) (μ:α→Nat) (x0:α) (h0:∃ ns,LeN ns N.K (st x0) s) (hI:I x0) (round:∀ x,I x→AWp P N c (lg (fun s'=>∃ y,I y∧μ y<μ x∧∃ ns,LeN ns N.K (st y) s') Q) (st x)):AWp P N (.loop c) Q s:=by
 obtain ⟨ns,h0⟩:=h0
 refine tq st I μ x0 (nm ns) h0.le h0.pin hI fun x hx=>(round x hx).mono fun e s' h=>?_
 cases e with
 | normal =>
  obtain ⟨y,h1,h2,ns,h3⟩:=h
  exact ⟨y,nm ns,h1,h2,h3.le,h3.pin⟩
 | _=>exact h
theorem WM {n:Nat} {cur:Nat→List Nat} (hn:n<18446744073709551616) (hW:W≤64) (hbin:∀ k,Bin (cur k)) (hlen:∀ k,(cur k).length≤1000000064) (hon:∀ k,k<W→cur k=cur (k+1)++[n/2^k % 2]):
  aK Tryz.prog 195 [.loc 0 0 0,.int .u64 (n:Int),.int .i64 (W:Int)] [sinkB T 1 (cur W),iF (cur W)] (.tup []) [some (sinkB T 2 (cur 0)),none,some (iF (cur 0))]:=by
 refine bP af Tryz.func195 rfl Tryz.ntmps195 Tryz.results195 rfl rfl rfl rfl fun N pl=>?_
 repeat' (first|refine zt ?_|(refine isR ?_;first|refine zo ?_|refine zX ?_)|exact ah)
 refine fB (fun k:Nat=>⟨[(0,.loc 0 0 0),(1,.int .u64 (n:Int)),(6,.int .i64 ((k:Int)-1))],[(0,some (sinkB T 2 (cur k))),(2,some (iF (cur k)))],3,61⟩) (fun k=>k≤W) id W ?_ (Nat.le_refl _) ?_
 ·exact (by exact x_len [0,1,1])
 intro k hk
 rcases k with _|k
 ·generalize cur 0=m at *
  repeat' (first|refine zt ?_|(refine isR ?_;first|refine zo ?_|refine zX ?_)|refine aA [0,1,2] ?_ ?_|exact ah)
  ·rfl
  ·exact .on (.ren rfl) (.no (.on (.same (aT fun _=>rfl)) .nil))
 ·have e:=hon k (by omega)
  have hb:=hbin (k+1)
  have hl1:=hlen (k+1)
  rw [show ((k+1:Nat):Int)-1=(k:Int) from by omega]
  generalize cur (k+1)=m at *
  have hx:=lU hb (m.length/8)
  have hat:=zJ m
  have hsn:=BR m (n/2^k % 2)
  have hpl:=dH m
  change AWp _ _ _ _ ⟨[(0,.loc 0 0 0),(1,.int .u64 (n:Int)),(6,.int .i64 (k:Int))],[(0,some (.els T 2 [.agg [.own 2 0 (aZ m).length,.int .i64 (eu.leftOf m:Int)]])),(2,some (.els 5 1 ((aZ m).map byV)))],3,61⟩
  have hbit:n/2^k % 2<2:=Nat.mod_lt _ (by decide)
  have hdiv:n/2^k<18446744073709551616:=Nat.lt_of_le_of_lt (Nat.div_le_self _ _) hn
  have hfd:(n:Int).fdiv (2^k)=((n/2^k:Nat):Int):=by
   rw [Int.fdiv_eq_ediv_of_nonneg _ (Int.le_of_lt (Int.pow_pos (by decide)))];simp
  have hin:InR .u64 ((n/2^k:Nat):Int):=(fun (z:Nat) (hz:z<18446744073709551616)=>(⟨by show (0:Int)≤_;omega,by show _≤(18446744073709551615:Int);omega⟩:InR .u64 (z:Int))) _ hdiv
  have hw8:IntKind.u8.wrap ((n/2^k % 2:Nat):Int)=((n/2^k % 2:Nat):Int):=by rw [IntKind.wrap_u8'];omega
  have hk64:k≤IntKind.u64.bits:=by show k≤64;omega
  generalize hbb:n/2^k % 2=b at *
  have hor:=A7 (bJ m (m.length/8)) b (7-m.length % 8) (by have:=qU m;rwa [show 8-m.length % 8=7-m.length % 8+1 from by omega] at this) hbit
  have hf8:7-m.length % 8≤IntKind.u8.bits:=by show _≤8;omega
  have hb256:b*2^(7-m.length % 8)<256:=by
   have h1:2^(7-m.length % 8)≤2^7:=Nat.pow_le_pow_right (by decide) (by omega)
   have h2:b*2^(7-m.length % 8)≤1*2^7:=Nat.mul_le_mul (by omega) h1
   omega
  have hsh:IntKind.u8.wrap (IntKind.u8.wrap ((n/2^k % 2:Nat):Int)*2^(7-m.length % 8))=((b*2^(7-m.length % 8):Nat):Int):=by
   have e:((b:Nat):Int)*2^(7-m.length % 8)=((b*2^(7-m.length % 8):Nat):Int):=by simp
   rw [hbb,hw8,e,IntKind.wrap_u8'];omega
  have hzl:=Oy m
  have hq0:m.length/8≤1000000064:=by omega
  have h46:((gM m).length:Int)-1=((m.length/8:Nat):Int):=by omega
  have hat2:((gM m).map byV)[m.length/8]? = some (byV (bJ m (m.length/8))):=by rw [List.getElem?_map,hat];rfl
  have hfin:aZ (m++[b])=(gM m).set (m.length/8) (bJ m (m.length/8) ||| b*2^(7-m.length % 8)):=by rw [hsn,hor]
  have hfl:(aZ (m++[b])).length=(gM m).length:=by rw [hsn,List.length_set]
  have hlo:eu.leftOf (m++[b])=7-m.length % 8:=by unfold eu.leftOf;rw [List.length_append,List.length_singleton];omega
  generalize hff:7-m.length % 8=f at *
  generalize hxx:bJ m (m.length/8)=x at *
  by_cases h8:m.length % 8=0
  ·have hz:=Da h8
   have hleft:(eu.leftOf m:Int)=0:=by unfold eu.leftOf;omega
   obtain rfl:f=7:=by omega
   rw [hleft]
   repeat' (first|refine wU (id:=3) (⟨[(0,.loc 0 0 0),(1,.int .u64 (n:Int)),(6,.int .i64 (k:Int))],[(0,some (.els T 2 [.agg [.own 3 0 (aZ m++[0]).length,.int .i64 8]])),(3,some (.els 5 1 ((aZ m++[0]).map byV)))],4,61⟩) ?_ ?_|refine zt ?_|(refine isR ?_;first|refine zo ?_|refine kL byV (a1:=(0)) af ?_|refine zX ?_)|exact ah)
   rw [← hz]
   clear hz
   generalize gM m=R at *
   generalize m.length/8=q at *
   repeat' (first|refine zt ?_|(refine isR ?_;first|refine zo ?_|refine cZ byV q af ?_|refine Oi k ?_|refine UE ?_|refine ny .u8 af ?_|refine MC 7 ?_|refine aae ?_|refine kD byV (a1:=x ||| b*2^7) q af ?_|refine zX ?_)|exact ah)
   have es:sinkB T 2 (m++[b]) = .els T 2 [.agg [.own 2 0 R.length,.int .i64 (8-1:Int)]]:=by show Blk.els T 2 [.agg [.own 2 0 (aZ (m++[b])).length,.int .i64 (eu.leftOf (m++[b]):Int)]]=_;rw [hfl,hlo];rfl
   have er:iF (m++[b]) = .els 5 1 ((R.set q (x ||| b*2^7)).map byV):=by show Blk.els _ 1 ((aZ (m++[b])).map byV)=_;rw [hfin]
   refine ⟨k,by omega,by show k<k+1;omega,?_⟩
   rw [e,es,er]
   exact (by exact x_len [0,1,3])
  ·have hz:=Dq h8
   have hleft:(eu.leftOf m:Int)=((f+1:Nat):Int):=by unfold eu.leftOf;omega
   have hf:((f+1:Nat):Int)-1=(f:Int):=by omega
   have hf7:f≤7:=by omega
   rw [hleft,← hz]
   clear hz
   generalize gM m=R at *
   generalize m.length/8=q at *
   repeat' (first|refine zt ?_|(refine isR ?_;first|refine zo ?_|refine cZ byV q af ?_|refine Oi k ?_|refine UE ?_|refine ny .u8 af ?_|refine MC f ?_|refine aae ?_|refine kD byV (a1:=x ||| b*2^f) q af ?_|refine zX ?_)|exact ah)
   have es:sinkB T 2 (m++[b]) = .els T 2 [.agg [.own 2 0 R.length,.int .i64 (f:Int)]]:=by show Blk.els T 2 [.agg [.own 2 0 (aZ (m++[b])).length,.int .i64 (eu.leftOf (m++[b]):Int)]]=_;rw [hfl,hlo]
   have er:iF (m++[b]) = .els 5 1 ((R.set q (x ||| b*2^f)).map byV):=by show Blk.els _ 1 ((aZ (m++[b])).map byV)=_;rw [hfin]
   refine ⟨k,by omega,by show k<k+1;omega,?_⟩
   rw [e,es,er]
   exact (by exact x_len [0,1,2])
theorem aas {n:Nat} {l:List Nat} (hn:n<18446744073709551616) (hW:W≤64) (hl:Bin l) (hs:l.length≤1000000000):
  aK Tryz.prog 195 [.loc 0 0 0,.int .u64 (n:Int),.int .i64 (W:Int)] [sinkB T 1 l,iF l] (.tup []) [some (sinkB T 2 (l++bitsOf n W)),none,some (iF (l++bitsOf n W))]:=by
 have h:=WM (T:=T) (cur:=fun k=>l++(bitsOf n W).take (W-k)) hn hW (fun k=>hl.app (fun b hb=>bY n W b (List.mem_of_mem_take hb))) (fun k=>by
  simp only [List.length_append,List.length_take,bG];omega) (fun k hk=>by
  have e:W-k=(W-(k+1))+1:=by omega
  have h1:=Fe n W (W-(k+1)) (by omega)
  rw [show W-1-(W-(k+1))=k from by omega] at h1
  show l++(bitsOf n W).take (W-k)=(l++(bitsOf n W).take (W-(k+1)))++[n/2^k % 2]
  rw [e,List.take_add_one,h1,List.append_assoc]
  rfl)
 simp only [Nat.sub_self,List.take_zero,List.append_nil,Nat.sub_zero] at h
 rw [List.take_of_length_le (by rw [bG];exact Nat.le_refl _)] at h
 exact h
theorem Rs {l:List Nat} (hl:Bin l):(aZ l).map byV=((aZ l).map UInt8.ofNat).map bB:=by
 rw [List.map_map]
 refine List.map_congr_left fun x hx=>?_
 simp only [aZ,List.mem_map] at hx
 obtain ⟨j,_,rfl⟩:=hx
 have:=lU hl j
 show V.int .u8 _=V.int .u8 _
 rw [UInt8.toNat_ofNat',Nat.mod_eq_of_lt (by omega)]
theorem ab0 {l:List Nat} (hl:Bin l) (hs:l.length≤1000000064):aK Tryz.prog 196 [.loc 0 0 0] [sinkB T 1 l,iF l] (.str (btx l)) [some (sinkB T 1 l),some (iF l)]:=by
 have hr:=Rs hl
 have hL:(aZ l).length=((aZ l).map UInt8.ofNat).length:=by simp
 show aK _ _ _ [.els T 2 [.agg [.own 1 0 (aZ l).length,.int .i64 (eu.leftOf l:Int)]],.els 5 1 ((aZ l).map byV)] (au ((aZ l).map UInt8.ofNat)) [some (.els T 2 [.agg [.own 1 0 (aZ l).length,.int .i64 (eu.leftOf l:Int)]]),some (.els 5 1 ((aZ l).map byV))]
 have hp:((aZ l).map UInt8.ofNat).length≤1000000064:=by rw [List.length_map,dH];omega
 rw [hr,hL]
 clear hr hL
 generalize (aZ l).map UInt8.ofNat=p at *
 generalize (eu.leftOf l:Int)=f
 refine bP af Tryz.func196 rfl Tryz.ntmps196 Tryz.results196 rfl rfl rfl rfl fun N pl=>?_
 repeat' (first|refine zt ?_|(refine isR ?_;first|refine zo ?_|refine ab7 (p:=p) af ?_)|refine aA [0,1] ?_ ?_|exact ah)
 ·rfl
 ·exact .on (.ren rfl) (.on (.same (aT fun _=>rfl)) .nil)
end IZ
namespace Jp
open Go.RowKit Mem Abs gT eu jL EM IZ
variable {T W:Nat} {s:List UInt8}
abbrev oF (T:Nat) (s:List UInt8) (n:Nat):Blk:=.els T 2 [.agg [au s,.int .i64 (n:Int)]]
theorem SK {n:Nat} (hs:s.length≤1048576) (hn:n≤8*s.length):aK Tryz.prog 236 [.loc 0 0 0] [oF T s n] (.int .i64 ((8*s.length-n:Nat):Int)) [some (oF T s n)]:=by
 have h1:8*(s.length:Int)-(n:Int)=((8*s.length-n:Nat):Int):=by omega
 refine bP af Tryz.func236 rfl Tryz.ntmps236 Tryz.results236 rfl rfl rfl rfl fun N pl=>?_
 repeat' (first|refine zt ?_|(refine isR ?_;first|refine zo ?_|refine zX ?_)|refine aA [0] ?_ ?_|exact ah)
 ·rfl
 ·exact .on (.same rfl) .nil
theorem Wx {n:Nat} {acc:Nat→Nat} (hs:s.length≤1048576) (hW:W≤63) (hn:n+W≤8*s.length) (h0:acc 0=0) (hlt:∀ k,k≤W→acc k<2^k) (hon:∀ k c,k<W→s[(n+k)/8]? = some c→acc (k+1)=2*acc k+c.toNat/2^(7-(n+k) % 8) % 2):
  aK Tryz.prog 237 [.loc 0 0 0,.int .i64 (W:Int)] [oF T s n] (.int .u64 (acc W:Int)) [some (oF T s (n+W))]:=by
 refine bP af Tryz.func237 rfl Tryz.ntmps237 Tryz.results237 rfl rfl rfl rfl fun N pl=>?_
 repeat' (first|refine zt ?_|(refine isR ?_;first|refine zo ?_|refine zX ?_)|exact ah)
 refine fq (fun k=>⟨[(0,.loc 0 0 0),(4,.int .u64 (acc k:Int)),(6,.int .i64 (W:Int)),(7,.int .i64 (k:Int))],[(0,some (oF T s (n+k)))],1,41⟩) (fun k=>k≤W) W 0 (by rw [h0];exact (by exact ah)) (Nat.zero_le _) ?_
 intro k hk
 by_cases hk2:k<W
 ·have hq:(n+k)/8<s.length:=by omega
  have hc:s[(n+k)/8]? = some s[(n+k)/8]:=by simp [hq]
  have h1:=hon k _ hk2 hc
  generalize s[(n+k)/8]=c at *
  have hN:acc k<9223372036854775808:=Nat.lt_of_lt_of_le (hlt k hk) (Nat.le_trans (Nat.pow_le_pow_right (by omega) (show k≤63 by omega)) (by decide))
  have hc8:=c.toNat_lt
  generalize acc k=a at *
  have hquo:IntKind.i64.wrap (((n+k:Nat):Int).tdiv 8)=(((n+k)/8:Nat):Int):=by
   have e:((n+k:Nat):Int).tdiv 8=(((n+k)/8:Nat):Int):=by rw [Int.tdiv_eq_ediv_of_nonneg (by omega)];omega
   rw [e,IntWalk.i64_in _ (by omega)]
  have hrem:((n+k:Nat):Int).tmod 8=(((n+k) % 8:Nat):Int):=by rw [Int.tmod_eq_emod_of_nonneg (by omega)];omega
  have hr8:(n+k) % 8<8:=Nat.mod_lt _ (by decide)
  have hinq:InR .i64 (((n+k)/8:Nat):Int):=⟨by show (-9223372036854775808:Int)≤_;omega,by show _≤(9223372036854775807:Int);omega⟩
  have hinr:InR .i64 (((n+k) % 8:Nat):Int):=⟨by show (-9223372036854775808:Int)≤_;omega,by show _≤(9223372036854775807:Int);omega⟩
  have hsub:(7:Int)-(((n+k) % 8:Nat):Int)=((7-(n+k) % 8:Nat):Int):=by omega
  generalize hf:7-(n+k) % 8=f at *
  have hf8:f≤IntKind.u8.bits:=by show f≤8;omega
  have hdv:c.toNat/2^f<256:=Nat.lt_of_le_of_lt (Nat.div_le_self _ _) hc8
  have hfd:(c.toNat:Int).fdiv (2^f)=((c.toNat/2^f:Nat):Int):=by
   rw [Int.fdiv_eq_ediv_of_nonneg _ (Int.le_of_lt (Int.pow_pos (by decide)))];simp
  have hin:InR .u8 ((c.toNat/2^f:Nat):Int):=(fun (z:Nat) (hz:z<256)=>(⟨by show (0:Int)≤_;omega,by show _≤(255:Int);omega⟩:InR .u8 (z:Int))) _ hdv
  have hb2:c.toNat/2^f % 2<2:=Nat.mod_lt _ (by decide)
  have hcv:IntKind.u64.wrap ((c.toNat/2^f % 2:Nat):Int)=((c.toNat/2^f % 2:Nat):Int):=by
   generalize c.toNat/2^f % 2=z at hb2
   simp [IntKind.wrap,IntKind.bits,IntKind.signed];omega
  have hor:=A7 (2*a) (c.toNat/2^f % 2) 0 (by omega) hb2
  rw [Nat.pow_zero,Nat.mul_one] at hor
  have hsl:IntKind.u64.wrap ((a:Int)*2^1)=((2*a:Nat):Int):=by
   simp [IntKind.wrap,IntKind.bits,IntKind.signed];omega
  have h2a:2*a<18446744073709551616:=by omega
  have hb64:c.toNat/2^f % 2<18446744073709551616:=by omega
  have hl1:1≤IntKind.u64.bits:=by decide
  rw [← hor] at h1
  have hi1:n+(k+1)=n+k+1:=by omega
  generalize n+k=i0 at *
  have hi2:((i0+1:Nat):Int)=(i0:Int)+1:=by omega
  have hi3:i0≤8388608:=by omega
  repeat' (first|refine zt ?_|(refine isR ?_;first|refine zo ?_|refine aac ?_|refine Vf ?_|refine Oi f ?_|refine acu ?_|refine MC 1 ?_|refine ny .u64 af ?_|refine abf ?_|refine zX ?_)|exact ah)
  refine ⟨by omega,hk2,?_⟩
  rw [h1,hi1]
  show ∃ ns,LeN ns _ ⟨_,[(0,some (.els T 2 [.agg [au s,.int .i64 ((i0+1:Nat):Int)]]))],1,41⟩ _
  rw [hi2]
  exact (by exact x_len [0])
 ·obtain rfl:k=W:=by omega
  repeat' (first|refine zt ?_|(refine isR ?_;first|refine zo ?_|refine zX ?_)|refine aA [0] ?_ ?_|exact ah)
  ·rfl
  ·exact .on (.same rfl) .nil
theorem adb {n:Nat} (hs:s.length≤1048576) (hW:W≤63) (hn:n+W≤8*s.length):
  aK Tryz.prog 237 [.loc 0 0 0,.int .i64 (W:Int)] [oF T s n] (.int .u64 (num (((aF s).drop n).take W):Int)) [some (oF T s (n+W))] :=
 Wx (acc:=fun k=>num (((aF s).drop n).take k)) hs hW hn rfl
  (fun k _=>Nat.lt_of_lt_of_le (qE (fun b hb=>lT s b (List.mem_of_mem_drop (List.mem_of_mem_take hb)))) (Nat.pow_le_pow_right (by omega) (List.length_take_le _ _)))
  (fun k c hk hc=>by
   have h1:=BO s (n+k) (by omega)
   obtain ⟨_,he⟩:=List.getElem?_eq_some_iff.1 hc
   rw [he] at h1
   show num (((aF s).drop n).take (k+1))=_
   rw [F9 _ _ _ _ h1,kz])
end Jp
namespace abH
open Go.RowKit Mem Abs gT eu jL EM IZ Jp
variable {T:Nat}
theorem l9 {n W:Nat} {l:List Nat} (hn:n<9223372036854775808) (hW:W≤64) (hl:Bin l) (hs:l.length≤1000000000):
  aK Tryz.prog 199 [.loc 0 0 0,.int .i64 (n:Int),.int .i64 (W:Int)] [sinkB T 1 l,iF l] (.tup []) [some (sinkB T 2 (l++bitsOf n W)),none,some (iF (l++bitsOf n W))]:=by
 have c:=aas (T:=T) (n:=n) (W:=W) (l:=l) (by omega) hW hl hs
 have hcv:IntKind.u64.wrap (n:Int)=(n:Int):=by
  simp [IntKind.wrap,IntKind.bits,IntKind.signed];omega
 generalize l++bitsOf n W=m at *
 refine bP af Tryz.func199 rfl Tryz.ntmps199 Tryz.results199 rfl rfl rfl rfl fun N pl=>?_
 repeat' (first|refine zt ?_|(refine isR ?_;first|refine zo ?_|refine ny .u64 af ?_|refine x_m [0,1] [2] (c _) ?_|refine x_m [0,1] [2] (c) ?_)|refine aA [0,1,2] ?_ ?_|exact ah)
 ·rfl
 ·exact .on (.ren rfl) (.no (.on (.same (aT fun _=>rfl)) .nil))
theorem Jd {b:Bool} {l:List Nat} (hl:Bin l) (hs:l.length≤1000000000):
  aK Tryz.prog 200 [.loc 0 0 0,.bool b] [sinkB T 1 l,iF l] (.tup []) [some (sinkB T 2 (l++[b.toNat])),none,some (iF (l++[b.toNat]))]:=by
 have c0:=l9 (T:=T) (n:=0) (W:=1) (l:=l) (by omega) (by omega) hl hs
 have c1:=l9 (T:=T) (n:=1) (W:=1) (l:=l) (by omega) (by omega) hl hs
 cases b with
 | false =>
  show aK _ _ _ _ _ [some (sinkB T 2 (l++bitsOf 0 1)),none,some (iF (l++bitsOf 0 1))]
  generalize l++bitsOf 0 1=m at *
  refine bP af Tryz.func200 rfl Tryz.ntmps200 Tryz.results200 rfl rfl rfl rfl fun N pl=>?_
  repeat' (first|refine zt ?_|(refine isR ?_;first|refine zo ?_|refine x_m [0,1] [2] (c0 _) ?_|refine x_m [0,1] [2] (c0) ?_)|refine aA [0,1,2] ?_ ?_|exact ah)
  ·rfl
  ·exact .on (.ren rfl) (.no (.on (.same (aT fun _=>rfl)) .nil))
 | true =>
  show aK _ _ _ _ _ [some (sinkB T 2 (l++bitsOf 1 1)),none,some (iF (l++bitsOf 1 1))]
  generalize l++bitsOf 1 1=m at *
  refine bP af Tryz.func200 rfl Tryz.ntmps200 Tryz.results200 rfl rfl rfl rfl fun N pl=>?_
  repeat' (first|refine zt ?_|(refine isR ?_;first|refine zo ?_|refine x_m [0,1] [2] (c1 _) ?_|refine x_m [0,1] [2] (c1) ?_)|refine aA [0,1,2] ?_ ?_|exact ah)
  ·rfl
  ·exact .on (.ren rfl) (.no (.on (.same (aT fun _=>rfl)) .nil))
theorem aa5 {a b:Int}:aj Tryz.prog 202 [.agg [.int .i64 a,.int .i64 b]] (.int .i64 (if a=b then 7 else 13)):=by
 by_cases h:a=b
 ·rw [if_pos h]
  refine aU af Tryz.func202 rfl Tryz.ntmps202 Tryz.results202 rfl fun N=>?_
  repeat' (first|refine zt ?_|(refine isR ?_;first|refine zo ?_|refine zc5 ?_)|refine zr ?_|exact ah)
  rfl
 ·rw [if_neg h]
  refine aU af Tryz.func202 rfl Tryz.ntmps202 Tryz.results202 rfl fun N=>?_
  repeat' (first|refine zt ?_|(refine isR ?_;first|refine zo ?_|refine zc5 ?_)|refine zr ?_|exact ah)
  rfl
end abH
end
namespace ZV
open Go.RowKit Mem Abs gT eu jL EM IZ Jp
variable {T W:Nat} {s:List UInt8}
abbrev dA (s:List UInt8) (n W:Nat):Nat:=num (((aF s).drop n).take W)
theorem jX {n:Nat} (hs:s.length≤1048576) (hW:W≤62) (hn:n+W≤8*s.length):
  aK Tryz.prog 197 [.loc 0 0 0,.int .i64 (W:Int)] [oF T s n] (.int .i64 (dA s n W:Int)) [some (oF T s (n+W))]:=by
 have c1:=SK (T:=T) (n:=n) (s:=s) hs (by omega)
 have c2:=adb (T:=T) (n:=n) (W:=W) (s:=s) hs (by omega) hn
 have hlt:num (((aF s).drop n).take W)<9223372036854775808:=by
  refine Nat.lt_of_lt_of_le (qE (fun b hb=>lT s b (List.mem_of_mem_drop (List.mem_of_mem_take hb)))) (Nat.le_trans (Nat.pow_le_pow_right (by omega) (List.length_take_le _ _)) (Nat.le_trans (Nat.pow_le_pow_right (by omega) hW) (by decide)))
 have hle:(W:Int)≤((8*s.length-n:Nat):Int):=by omega
 have hcv:IntKind.i64.wrap (num (((aF s).drop n).take W):Int)=(num (((aF s).drop n).take W):Int):=IntWalk.i64_in _ (by omega)
 show aK _ _ _ _ (.int .i64 (num (((aF s).drop n).take W):Int)) _
 generalize num (((aF s).drop n).take W)=z at *
 refine bP af Tryz.func197 rfl Tryz.ntmps197 Tryz.results197 rfl rfl rfl rfl fun N pl=>?_
 repeat' (first|refine zt ?_|(refine isR ?_;first|refine zo ?_|refine ny .i64 af ?_|refine x_m [0] [] (c1 _) ?_|refine x_m [0] [] (c1) ?_|refine x_m [0] [] (c2 _) ?_|refine x_m [0] [] (c2) ?_|refine zc1 ?_)|refine aA [0] ?_ ?_|exact ah)
 ·rfl
 ·exact .on (.same rfl) .nil
theorem AA {n:Nat} (hs:s.length≤1048576) (hn:n+1≤8*s.length):
  aK Tryz.prog 198 [.loc 0 0 0] [oF T s n] (.bool (decide (dA s n 1=1))) [some (oF T s (n+1))]:=by
 have c:aK Tryz.prog 197 [.loc 0 0 0,.int .i64 1] [oF T s n] (.int .i64 (dA s n 1:Int)) [some (oF T s (n+1))]:=jX (W:=1) hs (by omega) hn
 generalize dA s n 1=z at *
 by_cases h:z=1
 ·subst h
  refine bP af Tryz.func198 rfl Tryz.ntmps198 Tryz.results198 rfl rfl rfl rfl fun N pl=>?_
  repeat' (first|refine zt ?_|(refine isR ?_;first|refine zo ?_|refine x_m [0] [] (c _) ?_|refine x_m [0] [] (c) ?_|refine zc5 ?_)|refine aA [0] ?_ ?_|exact ah)
  ·rfl
  ·exact .on (.same rfl) .nil
 ·have h1:¬ (z:Int)=1:=by omega
  rw [decide_eq_false h]
  refine bP af Tryz.func198 rfl Tryz.ntmps198 Tryz.results198 rfl rfl rfl rfl fun N pl=>?_
  repeat' (first|refine zt ?_|(refine isR ?_;first|refine zo ?_|refine x_m [0] [] (c _) ?_|refine x_m [0] [] (c) ?_|refine zc5 ?_)|refine aA [0] ?_ ?_|exact ah)
  ·rfl
  ·exact .on (.same rfl) .nil
abbrev qf (n:Int):List PanicEntry:=[{ v:=.iface 192 (.agg #[.int .i64 n]),recovered:=false }]
theorem jP {n:Nat} (hs:s.length≤1048576) (hn:n≤8*s.length) (hn2:8*s.length<n+W):
  Xr Tryz.prog 197 [.loc 0 0 0,.int .i64 (W:Int)] [oF T s n] (qf 5):=fun g=>by
 have c1:=SK (T:=T) (n:=n) (s:=s) hs hn
 have hlt:((8*s.length-n:Nat):Int)<(W:Int):=by omega
 refine CS Tryz.func197 rfl rfl fun bl pl=>?_
 rw [Tryz.ntmps197]
 repeat' (first|refine bZ (id:=2) 2 ?_|(refine nO ?_;refine OY ?_)|refine zt ?_|(refine isR ?_;first|refine zo ?_|refine x_m [0] [] (c1 _) ?_|refine x_m [0] [] (c1) ?_|refine zc1 ?_)|exact ah)
 exact rfl
theorem Hq {n:Nat} (hs:s.length≤1048576) (hn:n≤8*s.length) (hn2:8*s.length<n+1):
  Xr Tryz.prog 198 [.loc 0 0 0] [oF T s n] (qf 5):=fun g=>by
 have c:Xr Tryz.prog 197 [.loc 0 0 0,.int .i64 1] [oF T s n] (qf 5):=jP (W:=1) hs hn hn2
 refine CS Tryz.func198 rfl rfl fun bl pl=>?_
 rw [Tryz.ntmps198]
 repeat' (first|refine bZ (id:=1) 1 ?_|(refine nO ?_;refine kR [0] (c _) ?_)|refine zt ?_|(refine isR ?_;refine zo ?_)|exact ah)
 exact rfl
end ZV
end Go.Proofs.YtlfdjpgghiemfaaGreatDoor
