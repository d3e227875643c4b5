/- Proves 'GovernRightUpto': for every input of bulk at most 1048576 the law returns true, and each argument reads behind the call as it did; no condition but that bound. -/
import Derived.Test.YtlfdjpgghiemfaaGreatDoorH0
import Derived.Test.YtlfdjpgghiemfaaGreatDoorH49
import Derived.Test.YtlfdjpgghiemfaaGreatDoorCards
import Derived.Test.YtlfdjpgghiemfaaGreatDoorTie
import Derived.Deep.DeepHandedRow
import Derived.LaidMore
import Derived.Lay
import Derived.Deep.CondSized
set_option maxRecDepth 100000
namespace Go.Proofs.YtlfdjpgghiemfaaGreatDoor
namespace governRightUpto
open Go.ChangeShapes Go.WideShapes Go.ChangeAt Go.RowKit Ends
open Go.ChangeMaps (open_string shut_string)
set_option linter.unusedVariables false
theorem own:ownKnob Tryz.prog.godebug=none:=by kernel_rfl
noncomputable def yL (os:Os):World:=World.laidAll Tryz.prog os Rows.governRightUptoRow.laid
theorem Tv (os:Os):laidMet Tryz.prog Rows.governRightUptoRow.laid ((yL os).forCall (fun _ _=>0) ⟨#[],#[.agg #[.slice none 0 0,.slice none 0 0,.int .i64 0,.slice none 0 0,.int .i64 0,.int .i64 0,.int .i64 0,.int .i64 0,.int .i64 0,.int .i64 0,.int .i64 0,.int .i64 0,.int .i64 0,.int .i64 0,.int .i64 0,.int .i64 0,.int .i64 0,.bool false,.bool false,.bool false,.bool false,.bool false,.bool false,.bool false,.bool false,.bool false,.bool false,.slice none 0 0,.int .i64 0],.agg #[.int .i64 0,.int .i64 0,.string ByteArray.empty,.string ByteArray.empty,.string ByteArray.empty,.bool false,.bool false,.bool false,.slice none 0 0,.int .i64 0,.int .i64 0,.int .i64 0,.int .i64 0,.int .i64 0,.int .i64 0,.int .i64 0,.int .i64 0,.int .i64 0,.int .i64 0,.int .i64 0,.int .i64 0]],[]⟩).memory :=
 laidMet_laidAll _ (by kernel_rfl) (by kernel_rfl)
theorem reads (os:Os) {H:Type} (enc:TypeId × Value→H):∃ places,DataW.whole enc Tryz.prog ((yL os).forCall (fun _ _=>0) ⟨#[],#[.agg #[.slice none 0 0,.slice none 0 0,.int .i64 0,.slice none 0 0,.int .i64 0,.int .i64 0,.int .i64 0,.int .i64 0,.int .i64 0,.int .i64 0,.int .i64 0,.int .i64 0,.int .i64 0,.int .i64 0,.int .i64 0,.int .i64 0,.int .i64 0,.bool false,.bool false,.bool false,.bool false,.bool false,.bool false,.bool false,.bool false,.bool false,.bool false,.slice none 0 0,.int .i64 0],.agg #[.int .i64 0,.int .i64 0,.string ByteArray.empty,.string ByteArray.empty,.string ByteArray.empty,.bool false,.bool false,.bool false,.slice none 0 0,.int .i64 0,.int .i64 0,.int .i64 0,.int .i64 0,.int .i64 0,.int .i64 0,.int .i64 0,.int .i64 0,.int .i64 0,.int .i64 0,.int .i64 0,.int .i64 0]],[]⟩).memory Tryz.f3.params.toList Rows.governRightSpec.vars false (#[.agg #[.slice none 0 0,.slice none 0 0,.int .i64 0,.slice none 0 0,.int .i64 0,.int .i64 0,.int .i64 0,.int .i64 0,.int .i64 0,.int .i64 0,.int .i64 0,.int .i64 0,.int .i64 0,.int .i64 0,.int .i64 0,.int .i64 0,.int .i64 0,.bool false,.bool false,.bool false,.bool false,.bool false,.bool false,.bool false,.bool false,.bool false,.bool false,.slice none 0 0,.int .i64 0],.agg #[.int .i64 0,.int .i64 0,.string ByteArray.empty,.string ByteArray.empty,.string ByteArray.empty,.bool false,.bool false,.bool false,.slice none 0 0,.int .i64 0,.int .i64 0,.int .i64 0,.int .i64 0,.int .i64 0,.int .i64 0,.int .i64 0,.int .i64 0,.int .i64 0,.int .i64 0,.int .i64 0,.int .i64 0]]:Array Value).toList 8=some ([.agg [.nil,.agg [.nil,.lit (.int .i64 0)],.agg [.nil,.lit (.int .i64 0),.agg [.lit (.int .i64 0),.lit (.int .i64 0),.lit (.int .i64 0),.lit (.int .i64 0),.lit (.int .i64 0),.lit (.int .i64 0),.lit (.int .i64 0),.lit (.int .i64 0),.lit (.int .i64 0),.lit (.int .i64 0),.lit (.int .i64 0)]],.agg [.lit (.int .i64 0),.agg [.lit (.bool false),.lit (.bool false),.lit (.bool false),.lit (.bool false),.lit (.bool false),.lit (.bool false),.lit (.bool false),.lit (.bool false),.lit (.bool false),.lit (.bool false)],.nil],.lit (.int .i64 0)],.agg [.lit (.int .i64 0),.lit (.int .i64 0),.lit (.string []),.agg [.lit (.string []),.lit (.string []),.lit (.bool false),.lit (.bool false),.lit (.bool false)],.agg [.nil,.lit (.int .i64 0),.agg [.lit (.int .i64 0),.lit (.int .i64 0),.lit (.int .i64 0),.lit (.int .i64 0),.lit (.int .i64 0),.lit (.int .i64 0),.lit (.int .i64 0),.lit (.int .i64 0),.lit (.int .i64 0),.lit (.int .i64 0),.lit (.int .i64 0)]]]],[],places) :=
 ⟨[],by kernel_rfl⟩
theorem lifted (os:Os) (started:os.Started) (H:Type) (enc:TypeId × Value→H) (F:Stop.Interp) :
  ReturnsInHanded {} Tryz.checked os 3 .any ((Rows.OpenSpec.upto Rows.governRightSpec).preRow enc Tryz.prog Tryz.f3 Rows.governRightUptoRow.domain false Rows.governRightUptoRow.laid) (((Rows.OpenSpec.upto Rows.governRightSpec).at F).post enc Tryz.prog Tryz.f3 false true false false):=by
 obtain ⟨places,hx⟩:=reads os enc
 refine returnsInHanded_of_row (C:=Tryz.checked) (s:=Rows.OpenSpec.upto Rows.governRightSpec) own started (by kernel_rfl) Tryz.func3
  (witness_row_at (enc:=enc) (C:=Tryz.checked) false (yL os) #[.agg #[.slice none 0 0,.slice none 0 0,.int .i64 0,.slice none 0 0,.int .i64 0,.int .i64 0,.int .i64 0,.int .i64 0,.int .i64 0,.int .i64 0,.int .i64 0,.int .i64 0,.int .i64 0,.int .i64 0,.int .i64 0,.int .i64 0,.int .i64 0,.bool false,.bool false,.bool false,.bool false,.bool false,.bool false,.bool false,.bool false,.bool false,.bool false,.slice none 0 0,.int .i64 0],.agg #[.int .i64 0,.int .i64 0,.string ByteArray.empty,.string ByteArray.empty,.string ByteArray.empty,.bool false,.bool false,.bool false,.slice none 0 0,.int .i64 0,.int .i64 0,.int .i64 0,.int .i64 0,.int .i64 0,.int .i64 0,.int .i64 0,.int .i64 0,.int .i64 0,.int .i64 0,.int .i64 0,.int .i64 0]] (World.laidAll_os _ _ _) (by kernel_rfl) (by kernel_rfl) (by kernel_rfl)
   (OpenSpec.preRow_of_cond 8 hx (by kernel_rfl) (fun k hk=>by cases hk;kernel_rfl) (by kernel_rfl) (Tv os))) ?_
 intro W base args ds gs before hval0 hW hcnd hk0 hsz hlaid hsh _
 have hGl:Abs.kC Both.kJ (fun _=>False) W:=by
  rw [MakeChecks.laidMetH_plain _ _ _ (by kernel_rfl)] at hlaid
  exact Both.QC (eO.Zv hlaid (d1:=Rows.laid_strconv_ErrSyntax) (d2:=Rows.laid_strconv_ErrRange) (by repeat (first|exact List.Mem.head _|refine List.Mem.tail _ ?_)) (by repeat (first|exact List.Mem.head _|refine List.Mem.tail _ ?_)) (by repeat (first|exact List.Mem.head _|refine List.Mem.tail _ ?_))) (Both.Vp hsh)
 have hk:Rows.uptoSmall H (ds++gs)=true:=hk0 _ rfl
 have hval:∀ (j:Nat) t v,Tryz.f3.params[j]? = some t→args[j]? = some v→Value.okWide Tryz.prog W .any base t v:=hval0
 have hW0:=hW
 obtain ⟨p,q,hA0,hV,rfl,hfz,hnd⟩:=hW
 have hA:DataW.TrodAll enc Tryz.prog W 0 (fun _=>true) true Tryz.f3.params.toList args.toList ds p:=hA0
 rw [Tryz.params3] at hA hval hsz
 obtain ⟨v0,vs0,d0,ds0,p0,q0,hargs,rfl,rfl,h0,r0⟩:=trodAll_cons hA
 obtain ⟨v1,vs1,d1,ds1,p1,q1,rfl,rfl,rfl,h1,r1⟩:=trodAll_cons r0
 obtain ⟨rfl,rfl,rfl⟩:=trodAll_nil r1
 obtain rfl:args = #[v0,v1]:=by cases args;simp_all
 obtain ⟨rfl,rfl⟩:=trodVars_none hV
 have hB:=Seen.xI.and (Seen.MO (P:=Tryz.prog) (H:=H) 1048576) (Seen.JO (P:=Tryz.prog) (H:=H))
 simp only [List.append_nil] at hk
 have z0:Rows.uptoBulk d0≤1048576∧∀ n∈d0.weights Tryz.prog 35,n≤140737488351232:=⟨Nat.le_trans (Seen.oW (by simp)) (of_decide_eq_true hk),Seen.Dy hsz 0 35 d0 rfl rfl⟩
 have z1:Rows.uptoBulk d1≤1048576∧∀ n∈d1.weights Tryz.prog 39,n≤140737488351232:=⟨Nat.le_trans (Seen.oW (by simp)) (of_decide_eq_true hk),Seen.Dy hsz 1 39 d1 rfl rfl⟩
 have hL:∀ e n,n≤1048576∧n*Tryz.prog.bytesOf e≤140737488351232→n*Tryz.prog.bytesOf e≤140737488351232:=fun e n h=>h.2
 have hS:∀ n,n≤1048576∧n≤140737488351232→n≤Abs.dY:=fun n h=>by have:=h.2;simp only [Abs.dY];omega
 obtain ⟨n0,u0,t0,f0⟩:=Abs.Kq (okL:=fun e n=>n≤1048576∧n*Tryz.prog.bytesOf e≤140737488351232) (okS:=fun n=>n≤1048576∧n≤140737488351232) hL hS (by kernel_rfl) (hval 0 35 v0 rfl rfl) (Seen.Fg hB h0 z0)
 obtain ⟨a0,e0,k0⟩:=Abs.State.of t0
 rw [Abs.Ed (by kernel_rfl),e0] at f0
 obtain ⟨n1,u1,t1,f1⟩:=Abs.Kq (okL:=fun e n=>n≤1048576∧n*Tryz.prog.bytesOf e≤140737488351232) (okS:=fun n=>n≤1048576∧n≤140737488351232) hL hS (by kernel_rfl) (hval 1 39 v1 rfl rfl) (Seen.Fg hB h1 z1)
 obtain ⟨a1,e1,k1⟩:=Abs.Event.of t1
 rw [Abs.Ed (by kernel_rfl),e1] at f1
 clear hA0 hval0
 refine (Abs.NP (adL.law (S:=a0.suffixes) (L:=a0.jar.cookies) (nx:=a0.jar.next) (p:=a0.policy) (g:=a0.consent.given) (P:=a0.consent.purposes) (U:=a0.consent.vendors) (t:=a0.clock) (k:=a1.kind) (now:=a1.now) (s:=a1.text) (f:=a1.src) (q:=a1.policy) (fun c hc=>⟨⟨(k0.2.2.1.2.1 c hc).1.1,(k0.2.2.1.2.1 c hc).2.1.1⟩,(k0.2.2.1.2.1 c hc).2.2.1.1⟩) (k1.1.1)) hGl (.cons f0 (.cons f1 .nil))).mono fun e W' ⟨he,hb⟩=>?_
 subst he
 exact ⟨_,rfl,TQ laidOut (by kernel_rfl) Tryz.underlying4 rfl rfl rfl hW0 hb⟩
theorem said:Rows.GovernRightUptoSaid :=
 OpenClaim.holds_of_cond 3 Tryz.f3 rfl rfl rfl rfl rfl rfl rfl ⟨rfl,rfl,rfl,rfl,rfl⟩ rfl rfl rfl rfl rfl (by kernel_rfl) Tryz.func3 (by kernel_rfl)
  (of_decide_eq_true (by kernel_rfl)) (by unfold Func.isWrapper;first|(rw [if_pos (by decide +kernel)];kernel_rfl)|(rw [if_neg (by decide +kernel)];exact ⟨rfl,rfl⟩))
  (fun os started H enc _ F=>by rw [OpenClaim.pre_eq_preRow];exact lifted os started H enc F)
theorem plain (f : FuncId) (fn : Func) (hf : Tryz.pinned.checked.prog.funcNamed "gingersnap/gingersnaplaw.GovernRight" = some f) (hfn : Tryz.pinned.checked.prog.funcs[f]? = some fn) :
  true=Tryz.pinned.checked.prog.looks []∧∀ (j:Nat) t,fn.params[j]? = some t→Tryz.pinned.checked.prog.wantsStandIn t=false:=by
 obtain rfl : f = 3 := Option.some.inj ((show Tryz.prog.funcNamed "gingersnap/gingersnaplaw.GovernRight" = some 3 by kernel_rfl).symm.trans hf) |>.symm
 obtain rfl:fn=Tryz.f3:=(Option.some.inj (Tryz.func3.symm.trans hfn)).symm
 refine ⟨by kernel_rfl,fun j t ht=>?_⟩
 have hall:(Tryz.f3.params.toList.all fun t => !Tryz.prog.wantsStandIn t)=true:=by kernel_rfl
 have hm:t∈Tryz.f3.params.toList:=by simpa using Array.mem_of_getElem? ht
 have h:=List.all_eq_true.1 hall t hm
 rw [Bool.not_eq_true'] at h
 exact h
theorem proved:Rows.GovernRightUptoCardSaid :=
 Claim7.holds_tied_plain_at .later [] _ _ _ _ said (fun _ h=>by cases h) (by kernel_rfl) (fun _ h=>by cases h) governRightUpto_row_tie rfl ⟨rfl,rfl⟩ (by kernel_rfl) rfl plain (by kernel_rfl)
#print axioms proved
end governRightUpto
end Go.Proofs.YtlfdjpgghiemfaaGreatDoor
