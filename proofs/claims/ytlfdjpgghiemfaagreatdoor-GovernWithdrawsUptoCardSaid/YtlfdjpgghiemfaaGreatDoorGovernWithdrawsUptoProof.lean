/- Proves 'GovernWithdrawsUpto': for every input of bulk at most 1048576 the law returns true, and each argument reads behind the call as it did; no condition but that bound. -/
import Derived.Test.YtlfdjpgghiemfaaGreatDoorRows
import Derived.Test.YtlfdjpgghiemfaaGreatDoorFrame
import Derived.Test.YtlfdjpgghiemfaaGreatDoorG11
import Derived.Test.YtlfdjpgghiemfaaGreatDoorG37
import Derived.Test.YtlfdjpgghiemfaaGreatDoorCards
import Derived.Test.YtlfdjpgghiemfaaGreatDoorTie
import Derived.WalkKit
import Derived.ProofKit
import Derived.Deep.DeepHandedRow
import Derived.Lib.LaidTab
import Derived.LaidMore
import Derived.Lay
import Derived.MakeChecks
import Derived.OpenShut
import Derived.ShutString
import Derived.SizedLaws
import Derived.JoinedCond
import Derived.Deep.CondSized
set_option maxRecDepth 100000
namespace Go.Proofs.YtlfdjpgghiemfaaGreatDoor.governWithdrawsUpto
open Go.ChangeShapes Go.WideShapes Go.ChangeAt Go.RowKit Ends
open Go.ChangeMaps (open_string shut_string)
set_option linter.unusedVariables false
theorem own:ownKnob Tryz.prog.godebug=none:=by kernel_rfl
noncomputable def laidWorld (os:Os):World:=World.laidAll Tryz.prog os Rows.governWithdrawsUptoRow.laid
theorem laid_met (os:Os):laidMet Tryz.prog Rows.governWithdrawsUptoRow.laid ((laidWorld os).forCall (fun _ _=>0) ⟨#[],#[.agg #[.slice none 0 0,.slice none 0 0,.int .i64 0,.slice none 0 0,.int .i64 0,.int .i64 0,.int .i64 0,.int .i64 0,.int .i64 0,.int .i64 0,.int .i64 0,.int .i64 0,.int .i64 0,.int .i64 0,.int .i64 0,.int .i64 0,.int .i64 0,.bool false,.bool false,.bool false,.bool false,.bool false,.bool false,.bool false,.bool false,.bool false,.bool false,.slice none 0 0,.int .i64 0],.string ByteArray.empty,.int .i64 0,.agg #[.string ByteArray.empty,.string ByteArray.empty,.bool false,.bool false,.bool false],.int .i64 0],[]⟩).memory :=
 laidMet_laidAll _ (by kernel_rfl) (by kernel_rfl)
theorem reads (os:Os) {H:Type} (enc:TypeId × Value→H):∃ places,DataW.whole enc Tryz.prog ((laidWorld os).forCall (fun _ _=>0) ⟨#[],#[.agg #[.slice none 0 0,.slice none 0 0,.int .i64 0,.slice none 0 0,.int .i64 0,.int .i64 0,.int .i64 0,.int .i64 0,.int .i64 0,.int .i64 0,.int .i64 0,.int .i64 0,.int .i64 0,.int .i64 0,.int .i64 0,.int .i64 0,.int .i64 0,.bool false,.bool false,.bool false,.bool false,.bool false,.bool false,.bool false,.bool false,.bool false,.bool false,.slice none 0 0,.int .i64 0],.string ByteArray.empty,.int .i64 0,.agg #[.string ByteArray.empty,.string ByteArray.empty,.bool false,.bool false,.bool false],.int .i64 0],[]⟩).memory Tryz.f5.params.toList Rows.governWithdrawsSpec.vars false (#[.agg #[.slice none 0 0,.slice none 0 0,.int .i64 0,.slice none 0 0,.int .i64 0,.int .i64 0,.int .i64 0,.int .i64 0,.int .i64 0,.int .i64 0,.int .i64 0,.int .i64 0,.int .i64 0,.int .i64 0,.int .i64 0,.int .i64 0,.int .i64 0,.bool false,.bool false,.bool false,.bool false,.bool false,.bool false,.bool false,.bool false,.bool false,.bool false,.slice none 0 0,.int .i64 0],.string ByteArray.empty,.int .i64 0,.agg #[.string ByteArray.empty,.string ByteArray.empty,.bool false,.bool false,.bool false],.int .i64 0]:Array Value).toList 8=some ([.agg [.nil,.agg [.nil,.lit (.int .i64 0)],.agg [.nil,.lit (.int .i64 0),.agg [.lit (.int .i64 0),.lit (.int .i64 0),.lit (.int .i64 0),.lit (.int .i64 0),.lit (.int .i64 0),.lit (.int .i64 0),.lit (.int .i64 0),.lit (.int .i64 0),.lit (.int .i64 0),.lit (.int .i64 0),.lit (.int .i64 0)]],.agg [.lit (.int .i64 0),.agg [.lit (.bool false),.lit (.bool false),.lit (.bool false),.lit (.bool false),.lit (.bool false),.lit (.bool false),.lit (.bool false),.lit (.bool false),.lit (.bool false),.lit (.bool false)],.nil],.lit (.int .i64 0)],.lit (.string []),.lit (.int .i64 0),.agg [.lit (.string []),.lit (.string []),.lit (.bool false),.lit (.bool false),.lit (.bool false)],.lit (.int .i64 0)],[],places) :=
 ⟨[],by kernel_rfl⟩
theorem lifted (os:Os) (started:os.Started) (H:Type) (enc:TypeId × Value→H) (F:Stop.Interp) :
  ReturnsInHanded {} Tryz.checked os 5 .any ((Rows.OpenSpec.upto Rows.governWithdrawsSpec).preRow enc Tryz.prog Tryz.f5 Rows.governWithdrawsUptoRow.domain false Rows.governWithdrawsUptoRow.laid) (((Rows.OpenSpec.upto Rows.governWithdrawsSpec).at F).post enc Tryz.prog Tryz.f5 false true false false):=by
 obtain ⟨places,hx⟩:=reads os enc
 refine returnsInHanded_of_row (C:=Tryz.checked) (s:=Rows.OpenSpec.upto Rows.governWithdrawsSpec) own started (by kernel_rfl) Tryz.func5
  (witness_row_at (enc:=enc) (C:=Tryz.checked) false (laidWorld os) #[.agg #[.slice none 0 0,.slice none 0 0,.int .i64 0,.slice none 0 0,.int .i64 0,.int .i64 0,.int .i64 0,.int .i64 0,.int .i64 0,.int .i64 0,.int .i64 0,.int .i64 0,.int .i64 0,.int .i64 0,.int .i64 0,.int .i64 0,.int .i64 0,.bool false,.bool false,.bool false,.bool false,.bool false,.bool false,.bool false,.bool false,.bool false,.bool false,.slice none 0 0,.int .i64 0],.string ByteArray.empty,.int .i64 0,.agg #[.string ByteArray.empty,.string ByteArray.empty,.bool false,.bool false,.bool false],.int .i64 0] (World.laidAll_os _ _ _) (by kernel_rfl) (by kernel_rfl) (by kernel_rfl)
   (OpenSpec.preRow_of_cond 8 hx (by kernel_rfl) (fun k hk=>by cases hk;kernel_rfl) (by kernel_rfl) (laid_met os))) ?_
 intro W base args ds gs before hval0 hW hcnd hk0 hsz hlaid hsh _
 have hGl:Abs.GlOk Globs.gStr (fun _=>False) W:=by
  rw [MakeChecks.laidMetH_plain _ _ _ (by kernel_rfl)] at hlaid
  exact Globs.glob_of hlaid (d1:=Rows.laid_strconv_ErrSyntax) (d2:=Rows.laid_strconv_ErrRange) (by repeat (first|exact List.Mem.head _|refine List.Mem.tail _ ?_)) (by repeat (first|exact List.Mem.head _|refine List.Mem.tail _ ?_)) (by repeat (first|exact List.Mem.head _|refine List.Mem.tail _ ?_))
 have hk:Rows.uptoSmall H (ds++gs)=true:=hk0 _ rfl
 have hval:∀ (j:Nat) t v,Tryz.f5.params[j]? = some t→args[j]? = some v→Value.okWide Tryz.prog W .any base t v:=hval0
 have hW0:=hW
 obtain ⟨p,q,hA0,hV,rfl,hfz,hnd⟩:=hW
 have hA:DataW.TrodAll enc Tryz.prog W 0 (fun _=>true) true Tryz.f5.params.toList args.toList ds p:=hA0
 rw [Tryz.params5] at hA hval hsz
 obtain ⟨v0,vs0,d0,ds0,p0,q0,hargs,rfl,rfl,h0,r0⟩:=trodAll_cons hA
 obtain ⟨v1,vs1,d1,ds1,p1,q1,rfl,rfl,rfl,h1,r1⟩:=trodAll_cons r0
 obtain ⟨v2,vs2,d2,ds2,p2,q2,rfl,rfl,rfl,h2,r2⟩:=trodAll_cons r1
 obtain ⟨v3,vs3,d3,ds3,p3,q3,rfl,rfl,rfl,h3,r3⟩:=trodAll_cons r2
 obtain ⟨v4,vs4,d4,ds4,p4,q4,rfl,rfl,rfl,h4,r4⟩:=trodAll_cons r3
 obtain ⟨rfl,rfl,rfl⟩:=trodAll_nil r4
 obtain rfl:args = #[v0,v1,v2,v3,v4]:=by cases args;simp_all
 obtain ⟨rfl,rfl⟩:=trodVars_none hV
 have hB:=Seen.Bound.and (Seen.bound_upto (P:=Tryz.prog) (H:=H) 1048576) (Seen.bound_reach (P:=Tryz.prog) (H:=H))
 simp only [List.append_nil] at hk
 have z0:Rows.uptoBulk d0≤1048576∧∀ n∈d0.weights Tryz.prog 35,n≤140737488351232:=⟨Nat.le_trans (Seen.bulk_part (by simp)) (of_decide_eq_true hk),Seen.weigh_each hsz 0 35 d0 rfl rfl⟩
 have z1:Rows.uptoBulk d1≤1048576∧∀ n∈d1.weights Tryz.prog 9,n≤140737488351232:=⟨Nat.le_trans (Seen.bulk_part (by simp)) (of_decide_eq_true hk),Seen.weigh_each hsz 1 9 d1 rfl rfl⟩
 have z2:Rows.uptoBulk d2≤1048576∧∀ n∈d2.weights Tryz.prog 3,n≤140737488351232:=⟨Nat.le_trans (Seen.bulk_part (by simp)) (of_decide_eq_true hk),Seen.weigh_each hsz 2 3 d2 rfl rfl⟩
 have z3:Rows.uptoBulk d3≤1048576∧∀ n∈d3.weights Tryz.prog 37,n≤140737488351232:=⟨Nat.le_trans (Seen.bulk_part (by simp)) (of_decide_eq_true hk),Seen.weigh_each hsz 3 37 d3 rfl rfl⟩
 have z4:Rows.uptoBulk d4≤1048576∧∀ n∈d4.weights Tryz.prog 3,n≤140737488351232:=⟨Nat.le_trans (Seen.bulk_part (by simp)) (of_decide_eq_true hk),Seen.weigh_each hsz 4 3 d4 rfl rfl⟩
 have hL:∀ e n,n≤1048576∧n*Tryz.prog.bytesOf e≤140737488351232→n*Tryz.prog.bytesOf e≤140737488351232:=fun e n h=>h.2
 have hS:∀ n,n≤1048576∧n≤140737488351232→n≤Abs.SLIM:=fun n h=>by have:=h.2;simp only [Abs.SLIM];omega
 obtain ⟨n0,u0,t0,f0⟩:=Abs.open_any (okL:=fun e n=>n≤1048576∧n*Tryz.prog.bytesOf e≤140737488351232) (okS:=fun n=>n≤1048576∧n≤140737488351232) hL hS (by kernel_rfl) (hval 0 35 v0 rfl rfl) (Seen.sees_trod hB h0 z0)
 obtain ⟨a0,e0,k0⟩:=Abs.State.of t0
 rw [Abs.mk_agg (by kernel_rfl),e0] at f0
 obtain ⟨n1,u1,t1,f1⟩:=Abs.open_any (okL:=fun e n=>n≤1048576∧n*Tryz.prog.bytesOf e≤140737488351232) (okS:=fun n=>n≤1048576∧n≤140737488351232) hL hS (by kernel_rfl) (hval 1 9 v1 rfl rfl) (Seen.sees_trod hB h1 z1)
 obtain ⟨a1,rfl,k1⟩:=Abs.ty_strL Tryz.underlying9 t1
 rw [Abs.mk_one (by kernel_rfl)] at f1
 obtain ⟨n2,u2,t2,f2⟩:=Abs.open_any (okL:=fun e n=>n≤1048576∧n*Tryz.prog.bytesOf e≤140737488351232) (okS:=fun n=>n≤1048576∧n≤140737488351232) hL hS (by kernel_rfl) (hval 2 3 v2 rfl rfl) (Seen.sees_trod hB h2 z2)
 obtain ⟨a2,rfl⟩:=Abs.ty_int Tryz.underlying3 t2
 rw [Abs.mk_one (by kernel_rfl)] at f2
 obtain ⟨n3,u3,t3,f3⟩:=Abs.open_any (okL:=fun e n=>n≤1048576∧n*Tryz.prog.bytesOf e≤140737488351232) (okS:=fun n=>n≤1048576∧n≤140737488351232) hL hS (by kernel_rfl) (hval 3 37 v3 rfl rfl) (Seen.sees_trod hB h3 z3)
 obtain ⟨a3,e3,k3⟩:=Abs.From.of t3
 rw [Abs.mk_agg (by kernel_rfl),e3] at f3
 obtain ⟨n4,u4,t4,f4⟩:=Abs.open_any (okL:=fun e n=>n≤1048576∧n*Tryz.prog.bytesOf e≤140737488351232) (okS:=fun n=>n≤1048576∧n≤140737488351232) hL hS (by kernel_rfl) (hval 4 3 v4 rfl rfl) (Seen.sees_trod hB h4 z4)
 obtain ⟨a4,rfl⟩:=Abs.ty_int Tryz.underlying3 t4
 rw [Abs.mk_one (by kernel_rfl)] at f4
 clear hA0 hval0
 refine (Abs.law_callsG (GovW.law (S:=a0.suffixes) (L:=a0.jar.cookies) (nx:=a0.jar.next) (p:=a0.policy) (g:=a0.consent.given) (P:=a0.consent.purposes) (U:=a0.consent.vendors) (t:=a0.clock) (s:=a1) (now:=a2) (f:=a3) (later:=a4) (fun c hc=>⟨⟨(k0.2.2.1.2.1 c hc).1.1,(k0.2.2.1.2.1 c hc).2.1.1⟩,(k0.2.2.1.2.1 c hc).2.2.1.1⟩) (k1.1)) hGl (.cons f0 (.cons f1 (.cons f2 (.cons f3 (.cons f4 .nil)))))).mono fun e W' ⟨he,hb⟩=>?_
 subst he
 exact ⟨_,rfl,post_law laidOut (by kernel_rfl) Tryz.underlying4 rfl rfl rfl hW0 hb⟩
theorem said:Rows.GovernWithdrawsUptoSaid :=
 OpenClaim.holds_of_cond 5 Tryz.f5 rfl rfl rfl rfl rfl rfl rfl ⟨rfl,rfl,rfl,rfl,rfl⟩ rfl rfl rfl rfl rfl (by kernel_rfl) Tryz.func5 (by kernel_rfl)
  (of_decide_eq_true (by kernel_rfl)) (by unfold Func.isWrapper;first|(rw [if_pos (by decide +kernel)];kernel_rfl)|(rw [if_neg (by decide +kernel)];exact ⟨rfl,rfl⟩))
  (fun os started H enc _ F=>by rw [OpenClaim.pre_eq_preRow];exact lifted os started H enc F)
theorem plain (f : FuncId) (fn : Func) (hf : Tryz.pinned.checked.prog.funcNamed "gingersnap/gingersnaplaw.GovernWithdraws" = some f) (hfn : Tryz.pinned.checked.prog.funcs[f]? = some fn) :
  true=Tryz.pinned.checked.prog.looks []∧∀ (j:Nat) t,fn.params[j]? = some t→Tryz.pinned.checked.prog.wantsStandIn t=false:=by
 obtain rfl : f = 5 := Option.some.inj ((show Tryz.prog.funcNamed "gingersnap/gingersnaplaw.GovernWithdraws" = some 5 by kernel_rfl).symm.trans hf) |>.symm
 obtain rfl:fn=Tryz.f5:=(Option.some.inj (Tryz.func5.symm.trans hfn)).symm
 refine ⟨by kernel_rfl,fun j t ht=>?_⟩
 have hall:(Tryz.f5.params.toList.all fun t => !Tryz.prog.wantsStandIn t)=true:=by kernel_rfl
 have hm:t∈Tryz.f5.params.toList:=by simpa using Array.mem_of_getElem? ht
 have h:=List.all_eq_true.1 hall t hm
 rw [Bool.not_eq_true'] at h
 exact h
theorem proved:Rows.GovernWithdrawsUptoCardSaid :=
 Claim7.holds_tied_plain_at .later [] _ _ _ _ said (fun _ h=>by cases h) (by kernel_rfl) (fun _ h=>by cases h) governWithdrawsUpto_row_tie rfl ⟨rfl,rfl⟩ (by kernel_rfl) rfl plain (by kernel_rfl)
#print axioms proved
end Go.Proofs.YtlfdjpgghiemfaaGreatDoor.governWithdrawsUpto
