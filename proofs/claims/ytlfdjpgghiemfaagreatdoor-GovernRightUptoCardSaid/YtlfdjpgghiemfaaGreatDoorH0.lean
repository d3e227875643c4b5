/- What every law's row needs at its end: the arguments read as they did, if nothing that was there has turned. -/
import Derived.Lib.SmallJoins
import Derived.Test.YtlfdjpgghiemfaaGreatDoorRows
namespace Go.Proofs.YtlfdjpgghiemfaaGreatDoor
namespace Ends
open Go.RowKit Go.WideShapes Go.ChangeShapes Go.Deep Go.Joins
theorem laidOut:laidOutB Tryz.prog=true:=by kernel_rfl
section
variable {H:Type} {enc:TypeId × Value→H} {P:Program}
theorem uW (hl:laidOutB P=true) {W W':World} (hb:Below W.heap.size W W') (sp:Nat→Bool):∀ (ts:List TypeId) (vs:List Value) (ds:List (DataW H)) (ps:List MemPlace),(ts.all fun t=>P.readableRec t&&decide (t<P.types.size))=true →
  DataW.TrodAll enc P W 0 (fun _=>true) true ts vs ds ps→(∀ x∈ps,x.block<W.heap.size)→(∀ x∈ps,sp x.block=true)→DataW.TrodAll enc P W' 0 sp true ts vs ds ps
 | [],[],[],_,_,h,_,_=>h
 | t::ts,v::vs,d::ds,ps,hr,h,hlt,hsp=>by
  obtain ⟨p,q,h1,h2,rfl⟩:=h
  simp only [List.all_cons,Bool.and_eq_true,decide_eq_true_eq] at hr
  refine ⟨p,q,WideElems.Trod_stays hl hr.1.1 hr.1.2 h1 (fun x hx=>hb.same (hlt x (List.mem_append_left _ hx))) (fun x hx=>hsp x (List.mem_append_left _ hx)),
   uW hl hb sp ts vs ds q (by simpa using hr.2) h2 (fun x hx=>hlt x (List.mem_append_right _ hx)) (fun x hx=>hsp x (List.mem_append_right _ hx)),rfl⟩
 | [],_::_,_,_,_,h,_,_=>by cases h
 | [],[],_::_,_,_,h,_,_=>by cases h
 | _::_,[],_,_,_,h,_,_=>by cases h
 | _::_,_::_,[],_,_,h,_,_=>by cases h
theorem TQ {f:Func} {s:ChangeSpec} {apart fresh handsOn:Bool} {W W':World} {args:Array Value} {ds gs:List (DataW H)} {before:List MemPlace} {tb:TypeId}
  (hl:laidOutB P=true) (hts:(f.params.toList.all fun t=>P.readableRec t&&decide (t<P.types.size))=true) (htb:P.underlying tb=some .bool) (hf:f.resultTypes = #[tb]) (hv:s.vars=[])
  (hfn:s.fn H (ds++gs) = { results:=[.lit (.bool true)],args:=ds })
  (hW:DataW.Whole enc P f.params.toList s.vars apart W args.toList ds gs before) (hb:Below W.heap.size W W') :
  s.post enc P f apart fresh handsOn false W args (.bool true) W':=by
 have hlt:∀ p∈before,p.block<W.heap.size:=fun p hp=>hW.lt p hp
 have hold:∀ p∈before,(fun b=>decide (b<W.heap.size)) p.block=true:=fun p hp=>by simpa using hlt p hp
 have hW':=hW
 obtain ⟨p,q,hA,hV,rfl,hz,hn⟩:=hW
 rw [hv] at hV
 obtain ⟨rfl,rfl⟩:=trodVars_none hV
 simp only [List.append_nil] at hlt hold hW' hz hn ⊢
 have hr:∀ (b:Nat) (sp:Nat→Bool) (hd:Bool),DataW.TrodAll enc P W' b sp hd f.resultTypes.toList ((Value.bool true).resultList f.resultTypes.size) (s.fn H (ds++[])).results []:=fun b sp hd=>by
  rw [hfn,hf];exact trodAll_mk1 (shut_bool htb _)
 have ha:∀ sp:Nat→Bool,(∀ x∈p,sp x.block=true)→DataW.TrodAll enc P W' 0 sp true f.params.toList args.toList (s.fn H (ds++[])).args p:=fun sp hsp=>by
  rw [hfn];exact uW hl hb sp _ _ _ _ hts hA hlt hsp
 refine ⟨ds,[],p,[],p,[],hW',hr _ _ _,ha _ hold,by rw [hv,hfn];rfl,World.keptBut_mono (fun x hx=>⟨hx,?_⟩) (hb.frame (· ∈ p)),fun h=>by cases h⟩
 simpa using hx
end
section
variable {H:Type} {enc:TypeId × Value→H} {P:Program} {w:World} {base b0:Nat} {spare:Nat→Bool} {held:Bool}
theorem Wv {r:Reach} {t:TypeId} {fs:Array Field} {v:Value} {d:DataW H} {p:List MemPlace} (hs:P.underlying t=some (.struct fs)) (hone:oneCellFields P fs=true) (hC:P.cellsOf t=fs.size)
  (hv:Value.okWide P w r b0 t v) (h:DataW.Trod enc P w base spare held t v d p) :
  ∃ (cs:List Value) (n:Nat),v = .agg cs.toArray∧cs.length=fs.size∧∀ (j:Nat) (f:Field),fs[j]? = some f→∃ (c:Value) (y:DataW H × List MemPlace),cs[j]? = some c∧DataW.trod enc P w base spare held n f.type [c]=some y:=by
 obtain ⟨cs,rfl,hsz⟩:=okWide_struct hs hv
 obtain ⟨fuel,hf⟩:=h
 obtain ⟨xs,n,_,_,_,hlen,hg⟩:=DataW.trod_struct hs hf
 have hl:cs.toList.length=fs.size:=by rw [Array.length_toList,hsz,hC]
 refine ⟨cs.toList,n,by simp,hl,fun j f hj=>?_⟩
 obtain ⟨ho,hk⟩:=hone_of hone j f hj
 have hjl:j<fs.size:=(Array.getElem?_eq_some_iff.1 hj).1
 have hcs:cs.toList[j]? = some (cs.toList[j]'(by omega)):=List.getElem?_eq_getElem (by omega)
 have h1:=hg j f hj
 have e:(((Value.agg cs).cells.toList).drop j).take 1=[cs.toList[j]'(by omega)]:=by
  show (cs.toList.drop j).take 1=_
  rw [List.drop_eq_getElem_cons (by omega)];rfl
 rw [ho,hk] at h1
 rw [e] at h1
 have hx:xs[j]? = some (xs[j]'(by omega)):=List.getElem?_eq_getElem (by omega)
 exact ⟨_,_,hcs,h1.trans hx⟩
theorem adp {r:Reach} {t ti:TypeId} {f0 f1 f2 f3 f4 f5:Field} {v:Value} {d:DataW H} {p:List MemPlace} (hs:P.underlying t=some (.struct #[f0,f1,f2,f3,f4,f5]))
  (t0:f0.type=ti) (t1:f1.type=ti) (t2:f2.type=ti) (t3:f3.type=ti) (t4:f4.type=ti) (t5:f5.type=ti)
  (hone:oneCellFields P #[f0,f1,f2,f3,f4,f5]=true) (hC:P.cellsOf t=6) (hi:P.underlying ti=some (.int .i64))
  (hv:Value.okWide P w r b0 t v) (h:DataW.Trod enc P w base spare held t v d p) :
  ∃ y0 y1 y2 y3 y4 y5:Int,v = .agg #[.int .i64 y0,.int .i64 y1,.int .i64 y2,.int .i64 y3,.int .i64 y4,.int .i64 y5]:=by
 obtain ⟨cs,n,rfl,hl,hg⟩:=Wv hs hone hC hv h
 match cs,hl with
 | [c0,c1,c2,c3,c4,c5],_ =>
  obtain ⟨x0,z0,e0,g0⟩:=hg 0 f0 rfl
  obtain ⟨x1,z1,e1,g1⟩:=hg 1 f1 rfl
  obtain ⟨x2,z2,e2,g2⟩:=hg 2 f2 rfl
  obtain ⟨x3,z3,e3,g3⟩:=hg 3 f3 rfl
  obtain ⟨x4,z4,e4,g4⟩:=hg 4 f4 rfl
  obtain ⟨x5,z5,e5,g5⟩:=hg 5 f5 rfl
  simp at e0 e1 e2 e3 e4 e5
  subst e0 e1 e2 e3 e4 e5
  rw [t0] at g0;rw [t1] at g1;rw [t2] at g2;rw [t3] at g3;rw [t4] at g4;rw [t5] at g5
  obtain ⟨k0,q0,_⟩:=DataW.trod_int hi g0
  obtain ⟨k1,q1,_⟩:=DataW.trod_int hi g1
  obtain ⟨k2,q2,_⟩:=DataW.trod_int hi g2
  obtain ⟨k3,q3,_⟩:=DataW.trod_int hi g3
  obtain ⟨k4,q4,_⟩:=DataW.trod_int hi g4
  obtain ⟨k5,q5,_⟩:=DataW.trod_int hi g5
  simp at q0 q1 q2 q3 q4 q5
  subst q0 q1 q2 q3 q4 q5
  exact ⟨_,_,_,_,_,_,rfl⟩
end
end Ends
end Go.Proofs.YtlfdjpgghiemfaaGreatDoor
