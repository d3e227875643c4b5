/- Texts of the proof, joined: AbsU. -/
import Derived.Test.YtlfdjpgghiemfaaGreatDoorH14
import Derived.Lib.Builder
import Derived.Lib.UnsafeStr
import Derived.Lib.TrimU
namespace Go.Proofs.YtlfdjpgghiemfaaGreatDoor
namespace Abs
open Go.RowKit Mem Facts
section
variable {X A A':Nat→Prop} {φ φ':Nat→Pl} {w w':World} {P:Program} {tb:List Ty} {T:Nat} {e ee:Ty} {N:Env} {M:Nat→Prop} {o:Oper} {s:S} {a:Act}
variable {pos:Nat}
theorem qc {ti:TypeInfo} {d:TypeDesc} (ht:GV P T e ti d) (hk:Nat.beq e.knd 2=true):P.underlying T=some .string:=by
 have:d = .string:=pq ((Nat.eq_of_beq_eq_true hk).symm.trans ht.knd)
 rw [ht.und,this]
theorem EK {x:Operand} {b:ByteArray} {ν:Nat} (htb:aL P tb) (ho:o.op = .range T x) (hT:nth tb T=some e) (hk:Nat.beq e.knd 2=true):aC P N o ⟨[(x,.str b)],[]⟩ (.loc ν 0 0) [(ν,some (.sit b 0))] [ν]:=fun s M A φ a w hh hr hν hd=>by
 obtain ⟨ti,d,ht⟩:=aV htb hT
 obtain ⟨h1,h2⟩:=hr.str hh.a
 have hrun:(execOp a.eval o).run P w = .ok (.value (.pointer (some ⟨w.heap.size,0,none⟩))) (w.alloc (.stringIter b 0)):=by
  unfold execOp;simp only [ho,h1]
  have h:(Instr.range T (.string b)).run P w = .ok (.pointer (some ⟨w.heap.size,0,none⟩)) (w.alloc (.stringIter b 0)):=by
   unfold Instr.range
   simp [run_underlying (qc ht hk),Result.andThen]
  simp [h,Result.andThen]
 unfold Oper.wp
 rw [hrun]
 refine AO (pl:=⟨some w.heap.size,0,0⟩) hr (hν ν (by simp)) rfl (fun φ' hφ=>?_) (fun φ' hφ=>?_) hd
 ·exact ⟨h2,_,rfl,.inr rfl,heap_alloc_new w _⟩
 ·have:=Rep.loc (X:=fun b=>(M b∨b=w.heap.size)∨N b) (A:=fun n=>A n∨n=ν) (φ:=φ') (w:=w.alloc (.stringIter b 0)) (n:=ν) (i:=0) (off:=0) (b:=w.heap.size) (.inr rfl) (by rw [hφ])
  simpa using this
theorem Pp {n:Nat} {b:ByteArray} (hr:Rel N M A φ s a w) (hk:s.blk n=some (.sit b pos)) {x:Operand} (hx:s.ev x=some (.loc n 0 0)):∃ q,a.eval x = .pointer (some ⟨q,0,none⟩)∧(φ n).blk=some q∧w.heap[q]? = some (.stringIter b pos)∧b.size≤dY:=by
 obtain ⟨q,h1,h2⟩:=iX (hr.ev hx)
 obtain ⟨_,h3,q',g1,g2,g3⟩:=hr.st n _ hk
 rw [h1] at g1;cases g1
 exact ⟨q,by simpa using h2,h1,g3,h3⟩
theorem uZ {r:Nat} {b:ByteArray} (hb:w.heap[r]? = some (.stringIter b pos)):(getObj r).run P w = .ok (.stringIter b pos) w:=by simp [getObj,Sem.run,hb]
theorem run_setObj_at {r:Nat} {b:ByteArray} (o':Obj) (hb:w.heap[r]? = some (.stringIter b pos)):(setObj r o').run P w = .ok () { w with heap:=w.heap.setIfInBounds r o' }:=by simp [setObj,Sem.run,hb]
theorem WZ {u v t:V} {x y z:Value} (h1:Rep X A φ w u x) (h2:Rep X A φ w v y) (h3:Rep X A φ w t z):Rep X A φ w (.tup [u,v,t]) (.tuple #[x,y,z]):=by
 refine .tup rfl fun i p c hp hc=>?_
 rcases i with _|_|_|i
 ·simp at hp hc;subst hp hc;exact h1
 ·simp at hp hc;subst hp hc;exact h2
 ·simp at hp hc;subst hp hc;exact h3
 ·simp at hp
theorem HY {x:Operand} {n c wd:Nat} {b:ByteArray} (ho:o.op = .next x true) (hp:pos<b.size) (hc:Utf8.decode b pos=(c,wd)) (_hw:pos+wd≤dY):aC P N o ⟨[(x,.loc n 0 0)],[(n,.sit b pos)]⟩ (.tup [.bool true,.int .i64 (pos:Int),.int .i32 (c:Int)]) [(n,some (.sit b (pos+wd)))] []:=fun s M A φ a w hh hr _ hd=>by
 obtain ⟨q,h1,h2,h3,h4⟩:=Pp hr hh.n hh.a
 have hrun:(execOp a.eval o).run P w = .ok (.value (.tuple #[.bool true,goInt pos,.int .i32 c])) { w with heap:=w.heap.setIfInBounds q (.stringIter b (pos+wd)) }:=by
  unfold execOp;simp only [ho,h1]
  simp [Instr.next,uZ h3,run_setObj_at _ h3,Result.andThen,hp,hc]
 unfold Oper.wp
 rw [hrun]
 have hle:=Lib.rune_le b pos
 rw [hc] at hle
 simp only at hle
 simp only [dY] at h4
 refine xg hr hh.n h2 (fun w' hs hb=>⟨by simp only [dY];exact h4,q,h2,hr.gy hh.n h2,hb⟩) (WZ (.fz .bool) (.fz (.int ⟨by simp only [rng];omega,by simp only [rng];omega⟩)) (.fz (.int ⟨by simp only [rng];omega,by simp only [rng];omega⟩))) hd
theorem Vd {u:V} {x:Value} (h1:Rep X A φ w u x):Rep X A φ w (.tup [u]) (.tuple #[x]):=by
 refine .tup rfl fun i p c hp hc=>?_
 rcases i with _|i
 ·simp at hp hc;subst hp hc;exact h1
 ·simp at hp
theorem EY {x:Operand} {n:Nat} {b:ByteArray} (ho:o.op = .next x true) (hp:¬ pos<b.size):aC P N o ⟨[(x,.loc n 0 0)],[(n,.sit b pos)]⟩ (.tup [.bool false]) [] []:=aD fun s M A φ a w hh hr=>by
 obtain ⟨q,h1,h2,h3,h4⟩:=Pp hr hh.n hh.a
 refine ⟨.tuple #[.bool false],?_,Vd (.fz .bool)⟩
 unfold execOp;simp only [ho,h1]
 simp [Instr.next,uZ h3,Result.andThen,hp]
theorem CR {x:Value} (h:Rep X A φ w .nilp x):x = .pointer none:=by
 cases h with
 | fz h=>cases h;rfl
theorem IW {tp te:TypeId} {j:TypeInfo} (q:Addr) (hp:P.underlying tp=some (.pointer te)) (hte:P.info? te=some j):(Op.equal tp (.pointer (some q)) (.pointer (some q))).run P w = .ok true w:=by
 have h:∀ d:Nat,(Op.equalIn (d+1) tp (.pointer (some q)) (.pointer (some q))).run P w = .ok true w:=fun d=>by
  simp [Op.equalIn,run_underlying hp,sizeOf,typeInfo,hte,run_sameAddr_same]
 exact h 9999
theorem p9 {t':TypeId} {op:BinOp} {x y:Operand} {p q:Option Addr} (_hT:P.underlying T=some (.pointer t')):(eqGuard op T x y (.pointer p) (.pointer q)).run P w = .ok () w:=by
 unfold eqGuard
 cases op<;>simp
variable {t':TypeId} {x y:Operand}
variable {T1:TypeId} {j:TypeInfo} {off sz:Nat} {T':TypeId} {i src:Nat} {xs:List V} {dst:Nat}
theorem xU {p:V} {r:Bool} (ho:o.op = .binOp .eql T x y T') (hT:P.underlying T=some (.pointer (P.pointee T))) (hp:p = .nilp∧r=true∨(∃ n i off,p = .loc n i off)∧r=false):aC P N o ⟨[(x,p),(y,.nilp)],[]⟩ (.bool r) [] []:=aD fun s M A φ ac w hh hr=>by
 refine ⟨.bool r,?_,.fz .bool⟩
 have hy:=CR (hr.ev hh.b)
 unfold execOp
 rcases hp with ⟨rfl,rfl⟩|⟨⟨n,i,off,rfl⟩,rfl⟩
 ·have hx:=CR (hr.ev hh.a)
  simp only [ho,hx,hy,Sem.run_bind,p9 hT,Result.andThen_ok,run_eql_pointer_nil w T none hT,Sem.run_pure]
  rfl
 ·obtain ⟨b,_,hx⟩:=iX (hr.ev hh.a)
  simp only [ho,hx,hy,Sem.run_bind,p9 hT,Result.andThen_ok,run_eql_pointer_nil w T _ hT,Sem.run_pure]
  rfl
theorem Jj {n:Nat} (ho:o.op = .binOp .neq T x y T') (hT:P.underlying T=some (.pointer (P.pointee T))) (hj:P.info? (P.pointee T)=some j):aC P N o ⟨[(x,.loc n i off),(y,.loc n i off)],[]⟩ (.bool false) [] []:=aD fun s M A φ ac w hh hr=>by
 refine ⟨.bool false,?_,.fz .bool⟩
 obtain ⟨b,h1,hx⟩:=iX (hr.ev hh.a)
 obtain ⟨b',h2,hy⟩:=iX (hr.ev hh.b)
 rw [h1] at h2;cases h2
 unfold execOp
 simp only [ho,hx,hy,Sem.run_bind,p9 hT,Result.andThen_ok,binOp,IW _ hT hj,Sem.run_pure,Bool.not_true]
theorem Ou {fits:TypeId→Bool} {d e count n:Nat} (h:rowAt P fits d e 1 0 n=true) (hc:1≤count):rowAt P fits d e count 0 n=true:=by
 cases d with
 | zero=>simp [rowAt] at h
 | succ d =>
  simp only [rowAt] at h ⊢
  split at h
  ·cases h
  rename_i hs
  rw [if_neg hs]
  simp only [Nat.zero_div,Nat.zero_mod,Nat.zero_add,Bool.or_eq_true,Bool.and_eq_true,decide_eq_true_eq] at h ⊢
  rcases h with ⟨⟨h1,h2⟩,h3⟩|⟨h1,h2⟩
  ·exact .inl ⟨⟨h1,Nat.le_trans h2 hc⟩,h3⟩
  ·exact .inr ⟨hc,h2⟩
theorem zW:∀ {d e count u n:Nat},liesAt P d e 1 0 u n=true→1≤count→liesAt P d e count 0 u n=true
 | 0,_,_,_,_,h,_=>by simp [liesAt] at h
 | d+1,e,count,u,n,h,hc=>by
  simp only [liesAt,Bool.or_eq_true] at h ⊢
  rcases h with h|h
  ·exact .inl (Ou h hc)
  ·refine .inr ?_
   split at h
   ·rename_i m u' hu
    exact zW h hc
   ·cases h
theorem FT {n:Nat} {x:Value} (hr:Rel N M A φ s a w) (hk:s.blk n=some (.els T1 sz xs)) (hx:Rep X A φ w (.loc n i off) x) (hi:i<xs.length) (ho:off<sz):
  ∃ b k,x = .pointer (some ⟨b,i*sz+off,none⟩)∧w.shape? b=some (T1,k*sz)∧i<k∧0<sz:=by
 obtain ⟨b,h1,h2⟩:=iX hx
 obtain ⟨_,g1,g2,g3,g4,g5⟩:=hr.st n _ hk
 rcases g5 with ⟨k1,_⟩|⟨b',cur,k1,k2,k3,k4,k5,_⟩
 ·rw [h1] at k1;cases k1
 ·rw [h1] at k1;cases k1
  subst g1
  refine ⟨b,(φ n).cap,h2,?_,by omega,g2⟩
  simp [World.shape?,k3,k4]
theorem Yb {x:Operand} {n:Nat} {t:TypeId} (ho:o.op = .convert src dst x) (hs:P.underlying src=some (.pointer t)) (hd':P.underlying dst=some .unsafePointer) (hj:P.info? t=some j) (hj0:Nat.beq j.size 0=false) (hl:xs≠[]) (hoff:off<sz):
  aC P N o ⟨[(x,.loc n 0 off)],[(n,.els T1 sz xs)]⟩ (.loc n 0 off) [] []:=aD fun s M A φ a w hh hr=>by
 have hx:=hr.ev hh.a
 obtain ⟨b,k,h1,h2,h3,h4⟩:=FT hr hh.n hx (List.length_pos_iff.2 hl) hoff
 refine ⟨_,?_,hx⟩
 unfold execOp
 have hsz:j.size≠0:=fun e=>by rw [e] at hj0;cases hj0
 have hlt:0*sz+off<k*sz:=by
  have:1*sz≤k*sz:=Nat.mul_le_mul_right _ h3
  omega
 rw [h1]
 simp only [ho,h1,Lib.run_to_unsafe (P:=P) w ⟨b,0*sz+off,none⟩ hs hd' hj hsz h2 hlt,Sem.run_bind,Sem.run_pure,Result.andThen_ok]
theorem QW {x:Operand} {n:Nat} {t:TypeId} (ho:o.op = .convert src dst x) (hs:P.underlying src=some .unsafePointer) (hd':P.underlying dst=some (.pointer t)) (hj:P.info? t=some j) (hc:P.cellsOf T1=sz) (hlies:liesAt P P.depth T1 1 0 t 1=true) (hl:xs≠[]):
  aC P N o ⟨[(x,.loc n 0 0)],[(n,.els T1 sz xs)]⟩ (.loc n 0 0) [] []:=aD fun s M A φ a w hh hr=>by
 have hx:=hr.ev hh.a
 have h0:0<sz:=(hr.st n _ hh.n).2.2.1
 obtain ⟨b,k,h1,h2,h3,h4⟩:=FT hr hh.n hx (List.length_pos_iff.2 hl) h0
 refine ⟨_,?_,hx⟩
 unfold execOp
 have hlies':liesAt P P.depth T1 (k*sz/P.cellsOf T1) (0*sz+0) t 1=true:=by
  rw [hc,Nat.mul_div_cancel _ h4,Nat.zero_mul]
  exact zW hlies h3
 rw [h1]
 simp only [ho,h1,Lib.run_from_unsafe (P:=P) w ⟨b,0*sz+0,none⟩ hs hd' hj h2 hlies',Sem.run_bind,Sem.run_pure,Result.andThen_ok]
theorem Cw (l:List UInt8):gG X A φ w (flat (l.map bB)) (Lib.strCells (str l)):=by
 have e:flat (l.map bB)=l.map bB:=by
  induction l with
  | nil=>rfl
  | cons c l ih=>show bB c::flat (l.map bB)=_;rw [ih];rfl
 rw [e]
 refine .mk' (by simp [Lib.strCells,str]) fun j u c hu hc=>?_
 simp only [Lib.strCells,str,List.getElem?_map,Option.map_eq_some_iff] at hu hc
 obtain ⟨q,h1,rfl⟩:=hu
 obtain ⟨q',h2,rfl⟩:=hc
 try simp only [List.toList_toArray] at h2
 rw [h1] at h2;cases h2
 have:=q.toNat_lt
 exact .fz (.int ⟨by simp only [rng];omega,by simp only [rng];omega⟩)
theorem KJ {el n:Nat} {v:Value} {vals:List Value} {q:ByteArray} {ty Tu:TypeId} {i:TypeInfo} (ht:P.underlying T=some (.slice el)) (hu:P.underlying Tu=some .string) (hi:P.info? el=some i) (hz:i.zero=some (.int .u8 0)) (hs:i.size=1) (hb:i.bytes=1) (how:w.ownsRow 0 el 1 v n vals) (hm:n+q.size≤maxLen) (hl:n+q.size≤140737488355328) :
  ∃ v' w',(Builtin.append_ #[T,Tu] ty #[v,.string q]).run P w = .ok v' w'∧w'.ownsRow 0 el 1 v' (n+q.size) (vals++Lib.strCells q)∧w.grownBy w' v.ownBlock∧(v'.ownBlock=v.ownBlock∨v'.ownBlock=some w.heap.size):=by
 obtain ⟨v',w',h1,h2,h3,h4⟩:=Lib.run_append_own_string (P:=P) w 0 T Tu ty el i ht hu hi hz hs hb v n vals how q hm hl (Nat.zero_le _)
 refine ⟨v',w',h1,h2,h3,?_⟩
 simp only [maxLen] at hm
 rcases how.2 with ⟨rfl,rfl⟩|⟨g,cap,cur,rfl,hbg,hg,hnc,hcm,hcs,htake⟩
 ·by_cases h0:q.size=0
  ·rw [h4.2 ⟨rfl,h0⟩];exact .inl rfl
  ·have hr:=run_append_nil_string (P:=P) w T Tu ty el i (.int .u8 0) ht hu hi hz q (by omega) (by omega) (by rw [hb];omega)
   rw [h1] at hr
   injection hr with e1 e2
   rw [e1];exact .inr rfl
 ·by_cases hroom:n+q.size≤cap
  ·have hr:=Lib.run_append_room_string (P:=P) w T Tu ty el i ht hu hi hs g n cap cur hg q hroom (by omega)
   rw [h1] at hr
   injection hr with e1 e2
   rw [e1];exact .inl rfl
  ·have holds:∀ j u,vals[j]? = some u→w.cell? ((⟨g,0,none⟩:Addr).add j)=some u:=how.cells (g:=g) rfl
   have hxl:vals.length=n*1:=how.1
   have hr:=Lib.run_append_grow_string (P:=P) w T Tu ty el i (.int .u8 0) ht hu hi hz ⟨g,0,none⟩ n cap vals (by rw [hs];omega) holds q (by omega) (by omega) (by rw [hb];exact growslice_fits (by omega) (by omega))
   rw [h1] at hr
   injection hr with e1 e2
   rw [e1];exact .inr rfl
variable {Tu el:Nat} {es:Ty} {l:List UInt8}
variable {ν:Nat} {ts:Array TypeId} {it pt:Nat}
theorem Dk (htb:aL P tb) (hE:nth tb el=some ee) (hz:ee.zeroV=some (.int .u8 0)) (hsz:Nat.beq ee.size 1=true) (hby:Nat.beq ee.bytes 1=true):∃ i,P.info? el=some i∧i.zero=some (.int .u8 0)∧i.size=1∧i.bytes=1:=by
 obtain ⟨i,zv,e1,e2,e3,e4,e5,e6,_⟩:=ni (default:World) htb hE hz (Nat.eq_of_beq_eq_true hsz) rfl
 have:zv = .int .u8 0:=fJ (e6 (fun _=>False) (fun _=>False) (fun _=>⟨none,0,0⟩) default)
 subst this
 exact ⟨i,e1,e2,e3,by rw [e4];exact Nat.eq_of_beq_eq_true hby⟩
theorem UW {x y:Operand} {n:Nat} {m:List UInt8} (htb:aL P tb) (ho:o.op = .call { callee:=.builtin .append,args := #[x,y],argTypes := #[T,Tu] }) (hT:nth tb T=some e) (hs:e.sl=some el) (hE:nth tb el=some ee) (hz:ee.zeroV=some (.int .u8 0)) (hsz:Nat.beq ee.size 1=true) (hby:Nat.beq ee.bytes 1=true) (hU:nth tb Tu=some es) (hku:Nat.beq es.knd 2=true) (hlim:m.length+l.length≤LIM):aC P N o ⟨[(x,.own n 0 m.length),(y,au l)],[(n,.els el 1 (m.map bB))]⟩ (.own ν 0 (m++l).length) [(n,none),(ν,some (.els el 1 ((m++l).map bB)))] [ν]:=fun s M A φ a w hh hr hν hd=>by
 obtain ⟨ti,d,ht⟩:=aV htb hT
 obtain ⟨tu,du,hu⟩:=aV htb hU
 obtain ⟨i,e1,e2,e3,e4⟩:=Dk htb hE hz hsz hby
 obtain ⟨g0,g1,g2,g3,g4,g5⟩:=hr.st n _ hh.n
 obtain ⟨vals,h1,h2,h3⟩:=Bn hr hh.n (hr.ev hh.a) (by simp)
 have hy:=(jq (hr.ev hh.b)).1
 have hq:(str l).size=l.length:=aM l
 obtain ⟨v',w',h4,h5,h7,h8⟩:=KJ (P:=P) (ty:=o.type) (q:=str l) (dF ht hs) (qc hu hku) e1 e2 e3 e4 h1 (by rw [hq];exact ku hlim) (by rw [hq];exact hlim)
 unfold Oper.wp
 have hex:(execOp a.eval o).run P w = .ok (.value v') w':=by
  unfold execOp
  simp only [ho,resolve,invoke,builtin,Sem.run_bind,Sem.run_pure,Result.andThen_ok,List.map_toArray,List.map_cons,List.map_nil,hy,h4]
 rw [hex]
 rw [hq,show m.length+l.length=(m++l).length by simp] at h5
 refine jR (kill:=some n) hr (hν ν (by simp)) (fun n' hn=>by cases hn;exact ⟨_,hh.n⟩) (fun b hb=>⟨n,rfl,h3 b hb⟩) h5 h7 h8 g2 (by simp) (by simpa using hlim) (fun q hq=>?_) (by rw [List.map_append,KP];exact h2.append (Cw l)) hd
 obtain ⟨c,_,rfl⟩:=List.mem_map.1 hq
 exact ⟨rfl,fun u hu=>by simp [bB,V.cells] at hu;subst hu;rfl⟩
theorem Gy {x y:Operand} (htb:aL P tb) (ho:o.op = .call { callee:=.builtin .append,args := #[x,y],argTypes := #[T,Tu] }) (hT:nth tb T=some e) (hs:e.sl=some el) (hE:nth tb el=some ee) (hz:ee.zeroV=some (.int .u8 0)) (hsz:Nat.beq ee.size 1=true) (hby:Nat.beq ee.bytes 1=true) (hU:nth tb Tu=some es) (hku:Nat.beq es.knd 2=true) (hlim:l.length≤LIM):aC P N o ⟨[(x,.nils),(y,au l)],[]⟩ (.own ν 0 l.length) [(ν,some (.els el 1 (l.map bB)))] [ν]:=fun s M A φ a w hh hr hν hd=>by
 obtain ⟨ti,d,ht⟩:=aV htb hT
 obtain ⟨tu,du,hu⟩:=aV htb hU
 obtain ⟨i,e1,e2,e3,e4⟩:=Dk htb hE hz hsz hby
 have hx:a.eval x = .slice none 0 0:=by
  have h:∀ q,Rep (fun b=>M b∨N b) A φ w .nils q→q = .slice none 0 0:=fun q h=>by
   cases h with
   | fz h=>cases h;rfl
  exact h _ (hr.ev hh.a)
 have hy:=(jq (hr.ev hh.b)).1
 have hq:(str l).size=l.length:=aM l
 obtain ⟨v',w',h4,h5,h7,h8⟩:=KJ (P:=P) (w:=w) (ty:=o.type) (q:=str l) (dF ht hs) (qc hu hku) e1 e2 e3 e4 (World.ownsRow_nil w 0 el 1) (by rw [hq,Nat.zero_add];exact ku hlim) (by rw [hq,Nat.zero_add];exact hlim)
 unfold Oper.wp
 have hex:(execOp a.eval o).run P w = .ok (.value v') w':=by
  unfold execOp
  simp only [ho,resolve,invoke,builtin,Sem.run_bind,Sem.run_pure,Result.andThen_ok,List.map_toArray,List.map_cons,List.map_nil,hx,hy,h4]
 rw [hex]
 rw [hq,Nat.zero_add,List.nil_append] at h5
 refine jR (kill:=none) (vx:=.slice none 0 0) hr (hν ν (by simp)) (fun n' hn=>by cases hn) (fun b hb=>by simp [Value.ownBlock] at hb) h5 h7 h8 (by omega) (by simp) hlim (fun q hq=>?_) (Cw l) hd
 obtain ⟨c,_,rfl⟩:=List.mem_map.1 hq
 exact ⟨rfl,fun u hu=>by simp [bB,V.cells] at hu;subst hu;rfl⟩
theorem VK {n b nx:Nat} {k:Blk} {dst:Option Nat} {v:V} {x:Value} (hr:Rel N M A φ s a w) (hk:s.blk n=some k) (hb:(φ n).blk=some b) (hst:bF (fun q=>q=b) w w') (hsz:w'.heap.size=w.heap.size) (hv:∀ X A φ,Rep X A φ w' v x) (hd:∀ d,dst=some d→d<s.nt) :
  ∃ M' φ',bF M w w'∧(∀ b,b<w.heap.size→M' b→M b)∧Rel N M' (fun n=>A n∨n∈([]:List Nat)) φ' (s.eff dst v [(n,none)] nx) (a.put dst x) w':=by
 have hM:M b:=hr.gy hk hb
 have hs:bF (fun b=>M b∨N b) w w':=⟨hst.os,hst.tape,hst.output,hst.size,fun q hq hm=>hst.block q hq fun e=>hm (.inl (e ▸ hM))⟩
 refine ⟨M,φ,⟨hst.os,hst.tape,hst.output,hst.size,fun q hq hm=>hst.block q hq fun e=>hm (e ▸ hM)⟩,fun _ _ h=>h,?_⟩
 have eb:∀ m,(s.eff none .und [(n,none)] nx).blk m=if n=m then none else s.blk m:=fun m=>by
  unfold S.blk S.eff
  simp only [List.cons_append,List.nil_append,bW]
  by_cases e:n=m<;>simp [e]
 have hgrow:Rel N M A φ (s.eff none .und [(n,none)] nx) a w':=by
  refine ⟨fun t u ht=>?_,hr.nt,fun m k' hk'=>?_,fun m m' q q' b' e1 e2 e3 e4=>?_,fun b' hb'=>?_,hr.dis,hr.df,hr.pin,hr.gl.stays hs fun _ _ h=>h⟩
  ·obtain ⟨g1,g2⟩:=hr.tm t u ht
   exact ⟨g1,g2.mono (fun _ _ h=>h) hs (fun _ h=>h) fun _ _=>rfl⟩
  ·rw [eb] at hk'
   split at hk'
   ·cases hk'
   rename_i hne
   obtain ⟨g1,g2⟩:=hr.st m k' hk'
   refine ⟨g1,g2.mono (fun _ _ h=>h) hs (fun _ h=>h) (fun _ _=>rfl) (fun _ h=>h) fun b' hb'=>?_⟩
   refine hst.block b' (hr.lim b' (.inl (hr.gy hk' hb'))) fun e=>hne ?_
   subst e
   exact hr.inj n m k k' b' hk hk' hb hb'
  ·rw [eb] at e1 e2
   split at e1
   ·cases e1
   split at e2
   ·cases e2
   exact hr.inj m m' q q' b' e1 e2 e3 e4
  ·rw [hsz];exact hr.lim b' hb'
 have h9:=eX (nx:=nx) hgrow (hv _ _ _) hd
 refine (h9.wider fun n h=>.inl h).as (fun t=>?_) (fun n=>rfl) rfl
 cases dst<;>rfl
theorem QS {x:Operand} {n sz k el:Nat} {xs:List V} (ho:o.op = .call { callee:=.builtin .unsafeSliceData,args := #[x],argTypes:=ts }) (hk:xs.length=k) (h0:xs≠[]):
  aC P N o ⟨[(x,.own n 0 k)],[(n,.els el sz xs)]⟩ (.loc n 0 0) [] []:=aD fun s M A φ a w hh hr=>by
 obtain ⟨g0,g1,g2,g3,g4,g5⟩:=hr.st n _ hh.n
 have hpos:=List.length_pos_iff.2 h0
 have hx:=hr.ev hh.a
 rcases g5 with ⟨_,h,_⟩|⟨b,cur,k1,k2,k3,k4,k5,k6,k7⟩
 ·exact absurd h h0
 have e:∀ q,Rep (fun b=>M b∨N b) A φ w (.own n 0 k) q→q = .slice (some ⟨b,0,none⟩) k (φ n).cap:=fun q hx=>by
  cases hx with
  | fz h=>cases h
  | own0 h1 h2=>rw [k1] at h2;cases h2
  | own h1 h2 h3 h4=>rw [k1] at h2;cases h2;simp
 have e:=e _ hx
 refine ⟨.pointer (some ⟨b,0,none⟩),?_,?_⟩
 ·unfold execOp
  simp only [ho,resolve,invoke,builtin,Sem.run_bind,Sem.run_pure,Result.andThen_ok,List.map_toArray,List.map_cons,List.map_nil,e,Lib.run_unsafeSliceData_row (P:=P) w ts o.type ⟨b,0,none⟩ k (φ n).cap (by omega)]
 ·have:=Rep.loc (X:=fun b=>M b∨N b) (A:=A) (φ:=φ) (w:=w) (n:=n) (i:=0) (off:=0) (b:=b) g0 k1
  simpa using this
theorem Cq {x:Operand} (ho:o.op = .call { callee:=.builtin .unsafeSliceData,args := #[x],argTypes:=ts }):
  aC P N o ⟨[(x,.nils)],[]⟩ .nilp [] []:=aD fun s M A φ a w hh hr=>by
 have e:a.eval x = .slice none 0 0:=by
  have h:∀ q,Rep (fun b=>M b∨N b) A φ w .nils q→q = .slice none 0 0:=fun q h=>by
   cases h with
   | fz h=>cases h;rfl
  exact h _ (hr.ev hh.a)
 refine ⟨.pointer none,?_,.fz .nilp⟩
 unfold execOp
 simp only [ho,resolve,invoke,builtin,Sem.run_bind,Sem.run_pure,Result.andThen_ok,List.map_toArray,List.map_cons,List.map_nil,e,Lib.run_unsafeSliceData_nil (P:=P) w ts o.type 0 0]
theorem TH {x y:Operand} {n:Nat} (ho:o.op = .call { callee:=.builtin .unsafeString,args := #[x,y],argTypes := #[pt,it] }) (hp:P.underlying pt=some (.pointer el)) (hc:P.cellsOf el=1) (h0:l≠[]):
  aC P N o ⟨[(x,.loc n 0 0),(y,.int .i64 l.length)],[(n,.els el 1 (l.map bB))]⟩ (au l) [(n,none)] []:=fun s M A φ a w hh hr _ hd=>by
 obtain ⟨g0,g1,g2,g3,g4,g5⟩:=hr.st n _ hh.n
 rcases g5 with ⟨_,h,_⟩|⟨b,cur,k1,k2,k3,k4,k5,k6,k7⟩
 ·exact absurd (List.map_eq_nil_iff.1 h) h0
 have e1:a.eval x = .pointer (some ⟨b,0,none⟩):=by
  obtain ⟨b',h1,h2⟩:=iX (hr.ev hh.a)
  rw [k1] at h1;cases h1
  rw [h2];simp
 have e2:=fJ (hr.ev hh.b)
 rw [List.length_map] at g3 k5
 have hsh:w.shape? b=some (el,(φ n).cap):=by simp [World.shape?,k3,k4]
 have hcell:∀ j x,l[j]? = some x→w.cell? ((⟨b,0,none⟩:Addr).add j)=some (.int .u8 x.toNat):=fun j c hj=>by
  obtain ⟨q,h1,h2⟩:=k7 j 0 (bB c) (bB c) (by simp [hj]) rfl
  have h3:=fJ h2
  subst h3
  have e:(⟨b,0,none⟩:Addr).add j=⟨b,j,none⟩:=by
   unfold Addr.add
   split
   ·subst_vars;rfl
   ·simp
  rw [e]
  simp only [Nat.mul_one,Nat.add_zero] at h1
  simp [World.cell?,k3,h1]
 have hl:l.length≤LIM:=g3
 have hrun:=Lib.run_unsafeString_row (P:=P) w pt it o.type el hp hc b (φ n).cap hsh l h0 k5 (by simp only [LIM] at hl;omega) hcell
 have hex:(execOp a.eval o).run P w = .ok (.value (.string ⟨l.toArray⟩)) (w.freeze ⟨b,0,none⟩ l.length):=by
  unfold execOp
  simp only [ho,resolve,invoke,builtin,Sem.run_bind,Sem.run_pure,Result.andThen_ok,List.map_toArray,List.map_cons,List.map_nil,e1,e2,hrun]
 unfold Oper.wp
 rw [hex]
 have hs:bF (fun q=>q=b) w (w.freeze ⟨b,0,none⟩ l.length)∧(w.freeze ⟨b,0,none⟩ l.length).heap.size=w.heap.size:=by
  unfold World.freeze
  split
  ·exact ⟨.refl _ w,rfl⟩
  ·refine ⟨⟨rfl,rfl,rfl,by simp,fun k hk hm=>?_⟩,by simp⟩
   simp only [Array.getElem?_modify]
   rw [if_neg (fun e=>hm e.symm)]
 refine VK hr hh.n k1 hs.1 hs.2 (fun X A φ=>.fz (.str ?_)) hd
 show (str l).size≤dY
 rw [aM]
 simp only [LIM] at hl
 simp only [dY];omega
theorem HZ {x y:Operand} (ho:o.op = .call { callee:=.builtin .unsafeString,args := #[x,y],argTypes := #[pt,it] }):
  aC P N o ⟨[(x,.nilp),(y,.int .i64 0)],[]⟩ (au []) [] []:=aD fun s M A φ a w hh hr=>by
 have e1:=CR (hr.ev hh.a)
 have e2:=fJ (hr.ev hh.b)
 refine ⟨.string .empty,?_,.fz (.str (by show (str []).size≤dY;rw [aM];decide))⟩
 unfold execOp
 simp only [ho,resolve,invoke,builtin,Sem.run_bind,Sem.run_pure,Result.andThen_ok,List.map_toArray,List.map_cons,List.map_nil,e1,e2,Lib.run_unsafeString_none (P:=P) w pt it o.type none]
theorem U0 {f:Nat} {v:V} (ho:o.op = .call { callee:=.value (.func f),args := #[x],argTypes:=ts }) (h:∀ (y:Value) (w:World),(callFunc f #[y]).run P w = .ok (.value y) w):aC P N o ⟨[(x,v)],[]⟩ v [] []:=aD fun s M A φ a w hh hr=>by
 refine ⟨a.eval x,?_,hr.ev hh.a⟩
 unfold execOp
 simp only [ho,resolve,Act.eval,Deferred.ofValue,Sem.run_bind,Sem.run_pure,Result.andThen_ok,invoke,Array.append_empty,Array.empty_append,List.map_toArray,List.map_cons,List.map_nil]
 exact h _ _
end
section
variable {P:Program} {N:Env} {l r:List Oper} {o:Oper} {tm:List (Nat × V)} {st:List (Nat × Option Blk)} {nx nt:Nat} {tr:List Tr} {K:S→List Tr→Prop} {fp:Fp} {v:V}
theorem aaZ {d n:Nat} (hg:ax l o ⟨tm,st,nx,nt⟩=some true) (hd:o.dst=some d) (hlt:Nat.blt d nt=true) (law:aC P N o fp v [(n,none)] []) (hh:Holds fp ⟨tm,st,nx,nt⟩) (k:ay P N l K r ⟨(d,v)::tm,(n,none)::st,nx,nt⟩ (tr++[aH l o fp [(n,none)]])):ay P N l K (o::r) ⟨tm,st,nx,nt⟩ tr :=
 .on fp v [(n,none)] [] nx hg law hh ⟨Nat.le_refl _,fun n h=>by simp at h⟩ (fun d' h=>by rw [hd] at h;cases h;exact kV hlt) (by
  have e:S.eff ⟨tm,st,nx,nt⟩ o.dst v [(n,none)] nx=⟨(d,v)::tm,(n,none)::st,nx,nt⟩:=by rw [hd];rfl
  rw [e];exact k)
theorem acV {d n:Nat} {b:Blk} (hg:ax l o ⟨tm,st,nx,nt⟩=some true) (hd:o.dst=some d) (hlt:Nat.blt d nt=true) (law:aC P N o fp v [(n,some b)] []) (hh:Holds fp ⟨tm,st,nx,nt⟩) (k:ay P N l K r ⟨(d,v)::tm,(n,some b)::st,nx,nt⟩ (tr++[aH l o fp [(n,some b)]])):ay P N l K (o::r) ⟨tm,st,nx,nt⟩ tr :=
 .on fp v [(n,some b)] [] nx hg law hh ⟨Nat.le_refl _,fun n h=>by simp at h⟩ (fun d' h=>by rw [hd] at h;cases h;exact kV hlt) (by
  have e:S.eff ⟨tm,st,nx,nt⟩ o.dst v [(n,some b)] nx=⟨(d,v)::tm,(n,some b)::st,nx,nt⟩:=by rw [hd];rfl
  rw [e];exact k)
end
def nameAt (ν:Nat):Nat→List V→Option (List V)
 | 0,.nils::r=>some (.own ν 0 0::r)
 | i+1,v::r=>match nameAt ν i r with
  | some q=>some (v::q)
  | none=>none
 | _,_=>none
theorem zZ {ν:Nat}:∀ {i:Nat} {cs cs':List V},nameAt ν i cs=some cs'→cs'.length=cs.length∧∀ (j:Nat) u',cs'[j]? = some u'→cs[j]? = some u'∨(cs[j]? = some .nils∧u' = .own ν 0 0)
 | 0,cs,cs',h=>by
  cases cs with
  | nil=>simp [nameAt] at h
  | cons v r =>
   cases v<;>simp only [nameAt] at h<;>cases h
   refine ⟨rfl,fun j u' hu=>?_⟩
   rcases j with _|j
   ·simp at hu;subst hu;exact .inr ⟨rfl,rfl⟩
   ·exact .inl (by simpa using hu)
 | i+1,[],cs',h=>by simp [nameAt] at h
 | i+1,v::r,cs',h=>by
  rw [nameAt] at h
  split at h<;>cases h
  rename_i q hq
  obtain ⟨h1,h2⟩:=zZ hq
  refine ⟨by simp [h1],fun j u' hu=>?_⟩
  rcases j with _|j
  ·exact .inl (by simpa using hu)
  ·simpa using h2 j u' (by simpa using hu)
section
variable {P:Program} {N:Env} {c:Code} {Q:Exit→S→Prop}
theorem jS {tm:List (Nat × V)} {st:List (Nat × Option Blk)} {nx nt T1 sz1:Nat} {cs cs':List V} (n i T sz:Nat) (hB:S.blk ⟨tm,st,nx,nt⟩ n=some (.els T1 sz1 [.agg cs])) (hi:nameAt nx i cs=some cs') (h0:0<sz) (hK:Nat.ble N.K nx=true) (k:AWp P N c Q ⟨tm,(n,some (.els T1 sz1 [.agg cs']))::(nx,some (.els T sz []))::st,nx+1,nt⟩):AWp P N c Q ⟨tm,st,nx,nt⟩:=fun M φ a w hr=>by
 obtain ⟨hl,hs⟩:=zZ hi
 let φ':Nat→Pl:=fun n=>if n=nx then ⟨none,sz,0⟩ else φ n
 have hφ:∀ n,n<nx→φ' n=φ n:=fun n hn=>if_neg (by omega)
 have hφν:φ' nx=⟨none,sz,0⟩:=if_pos rfl
 have hA:∀ n,n<nx→n<nx+1:=fun n h=>by omega
 have hnlt:n<nx:=(hr.st n _ hB).1
 have eb:∀ m,S.blk ⟨tm,(n,some (.els T1 sz1 [.agg cs']))::(nx,some (.els T sz []))::st,nx+1,nt⟩ m=if n=m then some (.els T1 sz1 [.agg cs']) else if nx=m then some (.els T sz []) else S.blk ⟨tm,st,nx,nt⟩ m:=fun m=>by
  unfold S.blk
  simp only [bW]
  by_cases e:n=m
  ·simp [e]
  ·by_cases e2:nx=m<;>simp [e,e2]
 have nilx:∀ x,Rep (fun b=>M b∨N b) (· < nx) φ w .nils x→x = .slice none 0 0:=fun x h=>by
  cases h with
  | fz h=>cases h;rfl
 have name:∀ m b,S.blk ⟨tm,(n,some (.els T1 sz1 [.agg cs']))::(nx,some (.els T sz []))::st,nx+1,nt⟩ m=some b→m=nx∨∃ b',S.blk ⟨tm,st,nx,nt⟩ m=some b':=fun m b h=>by
  rw [eb] at h
  split at h
  ·rename_i e;subst e;exact .inr ⟨_,hB⟩
  ·split at h
   ·rename_i e;exact .inl e.symm
   ·exact .inr ⟨_,h⟩
 refine k M φ' a w ⟨fun q v hq=>?_,hr.nt,fun m b hb=>?_,fun m m' b b' x e1 e2 e3 e4=>?_,hr.lim,hr.dis,hr.df,fun m hm=>?_,hr.gl⟩
 ·obtain ⟨g1,g2⟩:=hr.tm q v hq
  exact ⟨g1,g2.mono (fun _ _ h=>h) (.refl _ w) hA hφ⟩
 ·rw [eb] at hb
  split at hb
  ·rename_i e
   subst e;cases hb
   refine ⟨hA _ hnlt,?_⟩
   obtain ⟨_,g1,g2,g3,g4,g5⟩:=hr.st _ _ hB
   rw [hφ _ hnlt]
   have hcs:=g4 (.agg cs) (by simp)
   refine ⟨g1,g2,g3,fun x hx=>?_,g5.imp (fun h=>absurd h.2.1 (by simp)) ?_⟩
   ·rw [List.mem_singleton] at hx;subst hx
    refine ⟨by show cs'.length=sz1;rw [hl];exact hcs.1,fun u hu=>?_⟩
    obtain ⟨j,hj⟩:=List.mem_iff_getElem?.1 (show u∈cs' from hu)
    rcases hs j u hj with h|⟨_,h⟩
    ·exact hcs.2 u (List.mem_of_getElem? (show (V.agg cs).cells[j]? = some u from h))
    ·subst h;rfl
   ·rintro ⟨b,cur,k1,k2,k3,k4,k5,k6,k7⟩
    refine ⟨b,cur,k1,k2,k3,k4,k5,k6,fun i' j x u hx hu=>?_⟩
    rcases i' with _|i'
    ·simp at hx;subst hx
     rcases hs j u hu with h|⟨h,rfl⟩
     ·obtain ⟨q,f1,f2⟩:=k7 0 j (.agg cs) u rfl h
      exact ⟨q,f1,f2.mono (fun _ _ h=>h) (.refl _ w) hA hφ⟩
     ·obtain ⟨q,f1,f2⟩:=k7 0 j (.agg cs) .nils rfl h
      have:=nilx _ f2
      subst this
      exact ⟨_,f1,.own0 (Nat.lt_succ_self nx) (by rw [hφν])⟩
    ·simp at hx
  ·split at hb
   ·rename_i e
    subst e;cases hb
    refine ⟨Nat.lt_succ_self nx,by rw [hφν],h0,by simp [LIM],(by intro x hx;simp at hx),.inl ⟨by rw [hφν],rfl,by rw [hφν]⟩⟩
   ·obtain ⟨g1,g2⟩:=hr.st m b hb
    have g1:m<nx:=g1
    refine ⟨hA m g1,?_⟩
    rw [hφ m g1]
    exact g2.mono (fun _ _ h=>h) (.refl _ w) hA hφ (fun _ h=>h) fun _ _=>rfl
 ·rcases name m b e1 with rfl|⟨c1,f1⟩
  ·rw [hφν] at e3;cases e3
  ·rcases name m' b' e2 with rfl|⟨c2,f2⟩
   ·rw [hφν] at e4;cases e4
   ·have g1:m<nx:=(hr.st m _ f1).1
    have g2:m'<nx:=(hr.st m' _ f2).1
    rw [hφ m g1] at e3
    rw [hφ m' g2] at e4
    exact hr.inj m m' _ _ x f1 f2 e3 e4
 ·obtain ⟨g1,g2⟩:=hr.pin m hm
  exact ⟨hA m g1,(hφ m g1).trans g2⟩
end
mutual
def V.nfd:V→V
 | .nils=>.fro []
 | .agg vs=>.agg (U8 vs)
 | .tup vs=>.tup (U8 vs)
 | v=>v
def V.U8:List V→List V
 | []=>[]
 | v::r=>v.nfd::U8 r
end
variable {f:FuncId} {r':V} {args:List V}
theorem D6:∀ l:List V,V.U8 l=l.map V.nfd
 | []=>rfl
 | v::r=>by rw [V.U8,D6 r];rfl
theorem Xu (v:V) (h:v.one=true):v.nfd.one=true:=by
 cases v<;>first|rfl|(simp [V.one] at h)
theorem Fz.nfd {X:Nat→Prop} {w:World} {v:V} {x:Value} (h:Fz X w v x):Fz X w v.nfd x:=by
 induction h with
 | nils=>rw [V.nfd];exact .fro0 (fun _=>rfl)
 | agg h1 h2 h3 ih =>
  rw [V.nfd,D6]
  refine .agg (by simpa using h1) (fun v hv=>?_) fun i x c hx hc=>?_
  ·obtain ⟨u,hu,rfl⟩:=List.mem_map.1 hv
   exact Xu u (h2 u hu)
  ·rw [List.getElem?_map,Option.map_eq_some_iff] at hx
   obtain ⟨u,hu,rfl⟩:=hx
   exact ih i u c hu hc
 | tup h1 h3 ih =>
  rw [V.nfd,D6]
  refine .tup (by simpa using h1) fun i x c hx hc=>?_
  rw [List.getElem?_map,Option.map_eq_some_iff] at hx
  obtain ⟨u,hu,rfl⟩:=hx
  exact ih i u c hu hc
 | int h=>exact .int h
 | bool=>exact .bool
 | str h=>exact .str h
 | fro0 h=>exact .fro0 h
 | fro c h1 h2 h3 h4 h5 h6 h7 h8=>exact .fro c h1 h2 h3 h4 h5 h6 h7 h8
 | fp c h1 h2 h3 h4 h5=>exact .fp c h1 h2 h3 h4 h5
 | nilp=>exact .nilp
 | fn h1 h2 h3 h4=>exact .fn h1 h2 h3 h4
 | nilf=>exact .nilf
 | ifc h=>exact .ifc h
 | nili=>exact .nili
 | nilm=>exact .nilm
 | und=>exact .und
theorem av.nfd {P:Program} {g:iI} {r:V} (h:av P g f args r) (e:r.nfd=r'):av P g f args r':=fun N w vs hG hN hl hv=>(h N w vs hG hN hl hv).mono fun _ _w' ⟨x,h1,h2,h3⟩=>⟨x,h1,h2,e ▸ h3.nfd⟩
theorem aj.nfd {P:Program} {r:V} (h:aj P f args r) (e:r.nfd=r'):aj P f args r':=fun g=>(h g).nfd e
section
variable {P:Program} {N:Env} {l r:List Oper} {o:Oper} {tm:List (Nat × V)} {st:List (Nat × Option Blk)} {nx nt:Nat} {tr:List Tr} {K:S→List Tr→Prop} {tb:List Ty} {d T:Nat} {t t':TypeId} {x y z:Operand} {a b n:Int} {p q:List UInt8} {u v:Bool} {e ee:Ty}
variable {ts:Array TypeId} {i0 pos sz f el1 m off:Nat} {xs:List V}
theorem aa1 {w:V} (h:∀ (y:Value) (w:World),(callFunc f #[y]).run P w = .ok (.value y) w) (k:ay P N l K r ⟨(d,w)::tm,st,nx,nt⟩ (tr++[aH l o ⟨[(x,w)],[]⟩ []])) (ho:o.op = .call { callee:=.value (.func f),args := #[x],argTypes:=ts }:=by rfl) (hx:S.ev ⟨tm,st,nx,nt⟩ x=some (w):=by rfl) (hg:ax l o ⟨tm,st,nx,nt⟩=some true:=by rfl) (hd:o.dst=some d:=by rfl) (hlt:Nat.blt d nt=true:=by rfl):ay P N l K (o::r) ⟨tm,st,nx,nt⟩ tr:=aJ hg hd hlt (U0 ho h) (hT hx h0) k
theorem ac0 (_htb:aL P tb) (k:ay P N l K r ⟨(d,.loc m 0 off)::tm,st,nx,nt⟩ (tr++[aH l o ⟨[(x,.loc m 0 off)],[(m,.els el1 sz xs)]⟩ []])) (ho:o.op = .convert t t' x:=by rfl) (_hk5:(nth tb t).map Ty.knd=some 5:=by rfl) (hx:S.ev ⟨tm,st,nx,nt⟩ x=some (.loc m 0 off):=by rfl) (hg:ax l o ⟨tm,st,nx,nt⟩=some true:=by rfl) (hd:o.dst=some d:=by rfl) (hlt:Nat.blt d nt=true:=by rfl) (hB:S.blk ⟨tm,st,nx,nt⟩ m=some (.els el1 sz xs):=by rfl) (hs:P.underlying t=some (.pointer (P.pointee t)):=by kernel_rfl) (hd':P.underlying t'=some .unsafePointer:=by kernel_rfl) (hj:((P.info? (P.pointee t)).map fun j=>Nat.beq j.size 0)=some false:=by kernel_rfl) (hl:xs≠[]:=by simp) (hoff:off<sz:=by decide):ay P N l K (o::r) ⟨tm,st,nx,nt⟩ tr:=by
 cases h:P.info? (P.pointee t) with
 | none=>rw [h] at hj;cases hj
 | some j =>
  rw [h] at hj
  exact aJ hg hd hlt (Yb ho hs hd' h (Option.some.inj hj) hl hoff) (hT hx (hN hB h0)) k
theorem Y8 (_htb:aL P tb) (k:ay P N l K r ⟨(d,.loc m 0 0)::tm,st,nx,nt⟩ (tr++[aH l o ⟨[(x,.loc m 0 0)],[(m,.els el1 sz xs)]⟩ []])) (ho:o.op = .convert t t' x:=by rfl) (_hk5:(nth tb t').map Ty.knd=some 5:=by rfl) (hx:S.ev ⟨tm,st,nx,nt⟩ x=some (.loc m 0 0):=by rfl) (hg:ax l o ⟨tm,st,nx,nt⟩=some true:=by rfl) (hd:o.dst=some d:=by rfl) (hlt:Nat.blt d nt=true:=by rfl) (hB:S.blk ⟨tm,st,nx,nt⟩ m=some (.els el1 sz xs):=by rfl) (hs:P.underlying t=some .unsafePointer:=by kernel_rfl) (hd':P.underlying t'=some (.pointer (P.pointee t')):=by kernel_rfl) (hj:(P.info? (P.pointee t')).isSome=true:=by kernel_rfl) (hc:P.cellsOf el1=sz:=by kernel_rfl) (hlies:liesAt P P.depth el1 1 0 (P.pointee t') 1=true:=by kernel_rfl) (hl:xs≠[]:=by simp):ay P N l K (o::r) ⟨tm,st,nx,nt⟩ tr:=by
 obtain ⟨j,hj⟩:=Option.isSome_iff_exists.1 hj
 exact aJ hg hd hlt (QW ho hs hd' hj hc hlies hl) (hT hx (hN hB h0)) k
theorem Yr (k:ay P N l K r ⟨(d,.bool true)::tm,st,nx,nt⟩ (tr++[aH l o ⟨[(x,.nilp),(y,.nilp)],[]⟩ []])) (ho:o.op = .binOp .eql t x y t':=by rfl) (hx:S.ev ⟨tm,st,nx,nt⟩ x=some (.nilp):=by rfl) (hy:S.ev ⟨tm,st,nx,nt⟩ y=some (.nilp):=by rfl) (hg:ax l o ⟨tm,st,nx,nt⟩=some true:=by rfl) (hd:o.dst=some d:=by rfl) (hlt:Nat.blt d nt=true:=by rfl) (ht:P.underlying t=some (.pointer (P.pointee t)):=by kernel_rfl):ay P N l K (o::r) ⟨tm,st,nx,nt⟩ tr:=aJ hg hd hlt (xU ho ht (.inl ⟨rfl,rfl⟩)) (hT hx (hT hy h0)) k
theorem ZU (k:ay P N l K r ⟨(d,.bool false)::tm,st,nx,nt⟩ (tr++[aH l o ⟨[(x,.loc m i0 off),(y,.nilp)],[]⟩ []])) (ho:o.op = .binOp .eql t x y t':=by rfl) (hx:S.ev ⟨tm,st,nx,nt⟩ x=some (.loc m i0 off):=by rfl) (hy:S.ev ⟨tm,st,nx,nt⟩ y=some (.nilp):=by rfl) (hg:ax l o ⟨tm,st,nx,nt⟩=some true:=by rfl) (hd:o.dst=some d:=by rfl) (hlt:Nat.blt d nt=true:=by rfl) (ht:P.underlying t=some (.pointer (P.pointee t)):=by kernel_rfl):ay P N l K (o::r) ⟨tm,st,nx,nt⟩ tr:=aJ hg hd hlt (xU ho ht (.inr ⟨⟨_,_,_,rfl⟩,rfl⟩)) (hT hx (hT hy h0)) k
theorem ZK (k:ay P N l K r ⟨(d,.bool false)::tm,st,nx,nt⟩ (tr++[aH l o ⟨[(x,.loc m i0 off),(y,.loc m i0 off)],[]⟩ []])) (ho:o.op = .binOp .neq t x y t':=by rfl) (hx:S.ev ⟨tm,st,nx,nt⟩ x=some (.loc m i0 off):=by rfl) (hy:S.ev ⟨tm,st,nx,nt⟩ y=some (.loc m i0 off):=by rfl) (hg:ax l o ⟨tm,st,nx,nt⟩=some true:=by rfl) (hd:o.dst=some d:=by rfl) (hlt:Nat.blt d nt=true:=by rfl) (ht:P.underlying t=some (.pointer (P.pointee t)):=by kernel_rfl) (hj:(P.info? (P.pointee t)).isSome=true:=by kernel_rfl):ay P N l K (o::r) ⟨tm,st,nx,nt⟩ tr:=by
 obtain ⟨j,hj⟩:=Option.isSome_iff_exists.1 hj
 exact aJ hg hd hlt (Jj ho ht hj) (hT hx (hT hy h0)) k
theorem abe {el:Nat} {es:Ty} (htb:aL P tb) (k:ay P N l K r ⟨(d,.own nx 0 (p++q).length)::tm,(m,none)::(nx,some (.els el 1 ((p++q).map bB)))::st,nx+1,nt⟩ (tr++[aH l o ⟨[(x,.own m 0 p.length),(y,au q)],[(m,.els el 1 (p.map bB))]⟩ [(m,none),(nx,some (.els el 1 ((p++q).map bB)))]])) (ho:o.op = .call { callee:=.builtin .append,args := #[x,y],argTypes := #[t,t'] }:=by rfl) (hx:S.ev ⟨tm,st,nx,nt⟩ x=some (.own m 0 p.length):=by rfl) (hy:S.ev ⟨tm,st,nx,nt⟩ y=some (au q):=by rfl) (hg:ax l o ⟨tm,st,nx,nt⟩=some true:=by rfl) (hd:o.dst=some d:=by rfl) (hlt:Nat.blt d nt=true:=by rfl) (hB:S.blk ⟨tm,st,nx,nt⟩ m=some (.els el 1 (p.map bB)):=by rfl) (hT':nth tb t=some e:=by rfl) (hs:e.sl=some el:=by rfl) (hE:nth tb el=some ee:=by rfl) (hz:ee.zeroV=some (.int .u8 0):=by rfl) (hsz:Nat.beq ee.size 1=true:=by rfl) (hby:Nat.beq ee.bytes 1=true:=by rfl) (hU:nth tb t'=some es:=by rfl) (hku:Nat.beq es.knd 2=true:=by rfl) (hlim:p.length+q.length≤LIM:=by first|omega|(simp only [LIM] at *;omega)):ay P N l K (o::r) ⟨tm,st,nx,nt⟩ tr:=Mw rfl hg hd hlt (UW htb ho hT' hs hE hz hsz hby hU hku hlim) (hT hx (hT hy (hN hB h0))) k
theorem Zb {el:Nat} {es:Ty} (htb:aL P tb) (k:ay P N l K r ⟨(d,.own nx 0 q.length)::tm,(nx,some (.els el 1 (q.map bB)))::st,nx+1,nt⟩ (tr++[aH l o ⟨[(x,.nils),(y,au q)],[]⟩ [(nx,some (.els el 1 (q.map bB)))]])) (ho:o.op = .call { callee:=.builtin .append,args := #[x,y],argTypes := #[t,t'] }:=by rfl) (hx:S.ev ⟨tm,st,nx,nt⟩ x=some (.nils):=by rfl) (hy:S.ev ⟨tm,st,nx,nt⟩ y=some (au q):=by rfl) (hg:ax l o ⟨tm,st,nx,nt⟩=some true:=by rfl) (hd:o.dst=some d:=by rfl) (hlt:Nat.blt d nt=true:=by rfl) (hT':nth tb t=some e:=by rfl) (hs:e.sl=some el:=by rfl) (hE:nth tb el=some ee:=by rfl) (hz:ee.zeroV=some (.int .u8 0):=by rfl) (hsz:Nat.beq ee.size 1=true:=by rfl) (hby:Nat.beq ee.bytes 1=true:=by rfl) (hU:nth tb t'=some es:=by rfl) (hku:Nat.beq es.knd 2=true:=by rfl) (hlim:q.length≤LIM:=by first|omega|(simp only [LIM] at *;omega)):ay P N l K (o::r) ⟨tm,st,nx,nt⟩ tr:=FB rfl hg hd hlt (Gy htb ho hT' hs hE hz hsz hby hU hku hlim) (hT hx (hT hy h0)) k
theorem YE {el m1:Nat} (k:ay P N l K r ⟨(d,.loc m 0 0)::tm,st,nx,nt⟩ (tr++[aH l o ⟨[(x,.own m 0 m1)],[(m,.els el sz xs)]⟩ []])) (ho:o.op = .call { callee:=.builtin .unsafeSliceData,args := #[x],argTypes:=ts }:=by rfl) (hx:S.ev ⟨tm,st,nx,nt⟩ x=some (.own m 0 m1):=by rfl) (hg:ax l o ⟨tm,st,nx,nt⟩=some true:=by rfl) (hd:o.dst=some d:=by rfl) (hlt:Nat.blt d nt=true:=by rfl) (hB:S.blk ⟨tm,st,nx,nt⟩ m=some (.els el sz xs):=by rfl) (hk:xs.length=m1:=by simp) (hl:xs≠[]:=by first|assumption|simp [*]):ay P N l K (o::r) ⟨tm,st,nx,nt⟩ tr:=aJ hg hd hlt (QS ho hk hl) (hT hx (hN hB h0)) k
theorem Uo (k:ay P N l K r ⟨(d,.nilp)::tm,st,nx,nt⟩ (tr++[aH l o ⟨[(x,.nils)],[]⟩ []])) (ho:o.op = .call { callee:=.builtin .unsafeSliceData,args := #[x],argTypes:=ts }:=by rfl) (hx:S.ev ⟨tm,st,nx,nt⟩ x=some (.nils):=by rfl) (hg:ax l o ⟨tm,st,nx,nt⟩=some true:=by rfl) (hd:o.dst=some d:=by rfl) (hlt:Nat.blt d nt=true:=by rfl):ay P N l K (o::r) ⟨tm,st,nx,nt⟩ tr:=aJ hg hd hlt (Cq ho) (hT hx h0) k
theorem acJ {el:Nat} (k:ay P N l K r ⟨(d,au p)::tm,(m,none)::st,nx,nt⟩ (tr++[aH l o ⟨[(x,.loc m 0 0),(y,.int .i64 p.length)],[(m,.els el 1 (p.map bB))]⟩ [(m,none)]])) (ho:o.op = .call { callee:=.builtin .unsafeString,args := #[x,y],argTypes := #[t,t'] }:=by rfl) (hx:S.ev ⟨tm,st,nx,nt⟩ x=some (.loc m 0 0):=by rfl) (hy:S.ev ⟨tm,st,nx,nt⟩ y=some (.int .i64 p.length):=by rfl) (hg:ax l o ⟨tm,st,nx,nt⟩=some true:=by rfl) (hd:o.dst=some d:=by rfl) (hlt:Nat.blt d nt=true:=by rfl) (hB:S.blk ⟨tm,st,nx,nt⟩ m=some (.els el 1 (p.map bB)):=by rfl) (hp:P.underlying t=some (.pointer el):=by kernel_rfl) (hc:P.cellsOf el=1:=by kernel_rfl) (hl:p≠[]:=by first|assumption|simp [*]):ay P N l K (o::r) ⟨tm,st,nx,nt⟩ tr:=aaZ hg hd hlt (TH ho hp hc hl) (hT hx (hT hy (hN hB h0))) k
theorem YT (k:ay P N l K r ⟨(d,au [])::tm,st,nx,nt⟩ (tr++[aH l o ⟨[(x,.nilp),(y,.int .i64 0)],[]⟩ []])) (ho:o.op = .call { callee:=.builtin .unsafeString,args := #[x,y],argTypes := #[t,t'] }:=by rfl) (hx:S.ev ⟨tm,st,nx,nt⟩ x=some (.nilp):=by rfl) (hy:S.ev ⟨tm,st,nx,nt⟩ y=some (.int .i64 0):=by rfl) (hg:ax l o ⟨tm,st,nx,nt⟩=some true:=by rfl) (hd:o.dst=some d:=by rfl) (hlt:Nat.blt d nt=true:=by rfl):ay P N l K (o::r) ⟨tm,st,nx,nt⟩ tr:=aJ hg hd hlt (HZ ho) (hT hx (hT hy h0)) k
theorem Ij {w:ByteArray} (htb:aL P tb) (k:ay P N l K r ⟨(d,.loc nx 0 0)::tm,(nx,some (.sit w 0))::st,nx+1,nt⟩ (tr++[aH l o ⟨[(x,.str w)],[]⟩ [(nx,some (.sit w 0))]])) (ho:o.op = .range T x:=by rfl) (hx:S.ev ⟨tm,st,nx,nt⟩ x=some (.str w):=by rfl) (hg:ax l o ⟨tm,st,nx,nt⟩=some true:=by rfl) (hd:o.dst=some d:=by rfl) (hlt:Nat.blt d nt=true:=by rfl) (hT':nth tb T=some e:=by rfl) (hk:Nat.beq e.knd 2=true:=by rfl):ay P N l K (o::r) ⟨tm,st,nx,nt⟩ tr:=FB rfl hg hd hlt (EK htb ho hT' hk) (hT hx h0) k
theorem nY {w:ByteArray} (c wd:Nat) (k:ay P N l K r ⟨(d,.tup [.bool true,.int .i64 (pos:Int),.int .i32 (c:Int)])::tm,(m,some (.sit w (pos+wd)))::st,nx,nt⟩ (tr++[aH l o ⟨[(x,.loc m 0 0)],[(m,.sit w pos)]⟩ [(m,some (.sit w (pos+wd)))]])) (ho:o.op = .next x true:=by rfl) (hx:S.ev ⟨tm,st,nx,nt⟩ x=some (.loc m 0 0):=by rfl) (hg:ax l o ⟨tm,st,nx,nt⟩=some true:=by rfl) (hd:o.dst=some d:=by rfl) (hlt:Nat.blt d nt=true:=by rfl) (hB:S.blk ⟨tm,st,nx,nt⟩ m=some (.sit w pos):=by rfl) (hp:pos<w.size:=by assumption) (hc:Utf8.decode w pos=(c,wd):=by assumption) (hw:pos+wd≤dY:=by assumption):ay P N l K (o::r) ⟨tm,st,nx,nt⟩ tr:=acV hg hd hlt (HY ho hp hc hw) (hT hx (hN hB h0)) k
theorem Bo {w:ByteArray} (k:ay P N l K r ⟨(d,.tup [.bool false])::tm,st,nx,nt⟩ (tr++[aH l o ⟨[(x,.loc m 0 0)],[(m,.sit w pos)]⟩ []])) (ho:o.op = .next x true:=by rfl) (hx:S.ev ⟨tm,st,nx,nt⟩ x=some (.loc m 0 0):=by rfl) (hg:ax l o ⟨tm,st,nx,nt⟩=some true:=by rfl) (hd:o.dst=some d:=by rfl) (hlt:Nat.blt d nt=true:=by rfl) (hB:S.blk ⟨tm,st,nx,nt⟩ m=some (.sit w pos):=by rfl) (hp:¬ pos<w.size:=by assumption):ay P N l K (o::r) ⟨tm,st,nx,nt⟩ tr:=aJ hg hd hlt (EY ho hp) (hT hx (hN hB h0)) k
theorem eZ {nx':Nat} {g:Operand} {fs bs' ws:List V} {xs:Array Operand} {args vs:List V} {sts bs:List Blk} {rv r2:V} {sts' us:List (Option Blk)} {up st2:List (Nat × Option Blk)} (ns news:List Nat) (h:aR P N.g f args sts rv sts') (k:ay P N l K r ⟨(d,r2)::tm,st2,nx',nt⟩ (tr++[aH l o ⟨(g,.fn (.func f) fs bs')::jm xs.toList vs,uS ns bs⟩ up])) (ho:o.op = .call { callee:=.value g,args:=xs,argTypes:=ts }:=by rfl) (hf:S.ev ⟨tm,st,nx,nt⟩ g=some (.fn (.func f) fs bs'):=by rfl) (he:evL ⟨tm,st,nx,nt⟩ xs.toList=some vs:=by rfl) (hargs:jM ns args=some ws:=by rfl) (hws:ws=fs++vs++bs':=by rfl) (hg:ax l o ⟨tm,st,nx,nt⟩=some true:=by rfl) (hd:o.dst=some d:=by rfl) (hlt:Nat.blt d nt=true:=by rfl) (hb:dZ P f=true:=by kernel_rfl) (_hnx:nx+news.length=nx':=by rfl) (hbs:yD ⟨tm,st,nx,nt⟩ ns=some bs:=by rfl) (hst:gJ ns sts bs:=by repeat' first|exact gJ.nil|apply gJ.cons|exact cO.same (aT fun _=>rfl)|exact cO.ren rfl|exact cO.sit|exact cO.map (jV fun _=>rfl)|exact cO.map (by assumption)) (hlen:Nat.beq ns.length sts.length=true:=by rfl) (hdis:dO (ns++news)=true:=by rfl) (hlen':Nat.beq (ns++news).length sts'.length=true:=by rfl) (hr2:nW (ns++news) rv=some r2:=by rfl) (hus:dU (ns++news) sts' us:=by repeat' first|exact dU.nil|apply dU.no|apply dU.on|exact cO.same (aT fun _=>rfl)|exact cO.ren rfl|exact cO.sit|exact cO.map (jV fun _=>rfl)|exact cO.map (by assumption)) (hup:yR (ns++news) us=some up:=by rfl) (hst2:Ey up st=some st2:=by rfl) (hnw:sP nx nx' news=true:=by rfl):ay P N l K (o::r) ⟨tm,st,nx,nt⟩ tr:=r_m (Nn ns news ho (enters hb) h hargs hws (kW he) hst hlen hdis hlen' hr2 hus hup) nx' hnw hg hd hlt (hT hf (oO he (oL hbs))) hst2 k
theorem Ic {α:Type} (f:α→V) {L K':List α} {el:Nat} {z0:V} (htb:aL P tb) (k:ay P N l K r ⟨(d,.own nx 0 (L++K').length)::tm,(m,none)::(nx,some (.els el sz ((L++K').map f)))::st,nx+1,nt⟩ (tr++[aH l o ⟨[(x,.own m 0 L.length),(y,.fro (K'.map f))],[(m,.els el sz (L.map f))]⟩ [(m,none),(nx,some (.els el sz ((L++K').map f)))]])) (ho:o.op = .call { callee:=.builtin .append,args := #[x,y],argTypes := #[T,T] }:=by rfl) (hx:S.ev ⟨tm,st,nx,nt⟩ x=some (.own m 0 L.length):=by rfl) (hy:S.ev ⟨tm,st,nx,nt⟩ y=some (.fro (K'.map f)):=by rfl) (hg:ax l o ⟨tm,st,nx,nt⟩=some true:=by rfl) (hd:o.dst=some d:=by rfl) (hlt:Nat.blt d nt=true:=by rfl) (hB:S.blk ⟨tm,st,nx,nt⟩ m=some (.els el sz (L.map f)):=by rfl) (hT':nth tb T=some e:=by rfl) (hs:e.sl=some el:=by rfl) (hE:nth tb el=some ee:=by rfl) (hz:ee.zeroV=some z0:=by rfl) (hsz:ee.size=sz:=by rfl) (hzl:z0.cells.length=sz:=by rfl) (hf:∀ a,(f a).cells.length=sz∧((f a).cells.all V.one)=true:=by exact fun _=>⟨rfl,rfl⟩) (hlim:(L++K').length≤LIM:=by simp only [LIM,List.length_append,List.length_nil];omega) (hby:(L++K').length*ee.bytes≤140737488355328:=by show _*(_:Nat)≤_;simp;omega):ay P N l K (o::r) ⟨tm,st,nx,nt⟩ tr:=Mw rfl hg hd hlt (Ej htb ho hT' hs hE hz hsz hzl (fun q hq=>by obtain ⟨a,_,rfl⟩:=List.mem_map.1 hq;exact ⟨(hf a).1,List.all_eq_true.1 (hf a).2⟩) (by simp) (by simp) (by simp) hlim hby) (hT hx (hT hy (hN hB h0))) k
end
end Abs
end Go.Proofs.YtlfdjpgghiemfaaGreatDoor
