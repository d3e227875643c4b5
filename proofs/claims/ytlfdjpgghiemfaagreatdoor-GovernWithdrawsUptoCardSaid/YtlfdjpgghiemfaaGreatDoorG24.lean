/- Texts of the proof, joined: GovP, Inv, SixtyQ, CoP. -/
import Derived.Test.YtlfdjpgghiemfaaGreatDoorG18
import Derived.Test.YtlfdjpgghiemfaaGreatDoorG19
import Derived.Test.YtlfdjpgghiemfaaGreatDoorG20
import Derived.Test.YtlfdjpgghiemfaaGreatDoorG23
import Derived.Test.YtlfdjpgghiemfaaGreatDoorG13
import Derived.Test.YtlfdjpgghiemfaaGreatDoorG1
import Derived.Lib.IndexBytes
import Derived.Lib.TrimByte
section
namespace Go.Proofs.YtlfdjpgghiemfaaGreatDoor.GovP
open Abs Scan HostP PathT Rdy JarP JarQ JarR PolP GoesW SortP SortW LineP LineB
theorem Rj.sub {L M:List Cookie} {nx:Int} (h:Rj L nx) (hs:M.Sublist L):Rj M nx :=
 ((JarR.Rj.weak h).sub hs).right (Nat.le_trans hs.length_le h.len) fun d=>Nat.le_trans hs.countP_le (h.per d)
def codeS (S:List Suffix) (L:List Cookie) (nx:Int) (p:Pol) (g:Int) (P:Nat→Bool) (U:List Int) (t:Int):Nat :=
 if SufP.checkF S≠0 then SufP.checkF S else if checkJ L nx≠0 then checkJ L nx else if checkP p≠0 then checkP p else if GrantP.check g U≠0 then GrantP.check g U else if isJ t=false then 3 else if keptF p P U t L=L then 0 else 4
structure OkS (S:List Suffix) (L:List Cookie) (nx:Int) (p:Pol) (g:Int) (P:Nat→Bool) (U:List Int) (t:Int):Prop where
 suf:SufP.checkF S=0
 jar:checkJ L nx=0
 pol:checkP p=0
 con:GrantP.check g U=0
 day:isJ t=true
 kept:keptF p P U t L=L
theorem code_ok {S:List Suffix} {L:List Cookie} {nx:Int} {p:Pol} {g:Int} {P:Nat→Bool} {U:List Int} {t:Int} (h:codeS S L nx p g P U t=0):OkS S L nx p g P U t:=by
 unfold codeS at h
 split at h
 ·rename_i q;exact absurd h q
 ·split at h
  ·rename_i q;exact absurd h q
  ·split at h
   ·rename_i q;exact absurd h q
   ·split at h
    ·rename_i q;exact absurd h q
    ·split at h
     ·cases h
     ·split at h
      ·rename_i h1 h2 h3 h4 h5 h6
       exact ⟨by simpa using h1,by simpa using h2,by simpa using h3,by simpa using h4,by simpa using h5,h6⟩
      ·cases h
theorem kept_cons (p:Pol) (P:Nat→Bool) (U:List Int) (now:Int) (c:Cookie) (L:List Cookie):keptF p P U now (c::L)=(if letsF p P U c=true∧now<(clampF p c).expiry then [clampF p c] else [])++keptF p P U now L:=by
 unfold keptF
 rw [List.flatMap_cons]
theorem kept_all {p:Pol} {P:Nat→Bool} {U:List Int} {t:Int}:∀ {L:List Cookie},keptF p P U t L=L→∀ c∈L,letsF p P U c=true∧clampF p c=c∧t<c.expiry
 | [],_,c,hc=>by cases hc
 | a::L,h,c,hc=>by
  rw [kept_cons] at h
  split at h
  ·rename_i q
   have h1:clampF p a=a:=(List.cons.inj h).1
   have h2:keptF p P U t L=L:=(List.cons.inj h).2
   rcases List.mem_cons.1 hc with rfl|hc
   ·rw [h1] at q
    exact ⟨q.1,h1,q.2⟩
   ·exact kept_all h2 c hc
  ·have:=kept_len (p:=p) (P:=P) (U:=U) (now:=t) L
   rw [List.nil_append] at h
   rw [h,List.length_cons] at this
   omega
theorem kept_live {p:Pol} {P:Nat→Bool} {U:List Int} {now:Int}:∀ {L:List Cookie},(∀ c∈L,letsF p P U c=true∧clampF p c=c)→keptF p P U now L=liveF now L
 | [],_=>rfl
 | a::L,h=>by
  obtain ⟨h1,h2⟩:=h a List.mem_cons_self
  rw [kept_cons,kept_live fun c hc=>h c (List.mem_cons_of_mem _ hc),h1,h2]
  unfold liveF
  rw [List.filter_cons]
  by_cases hl:now<a.expiry
  ·rw [if_pos ⟨rfl,hl⟩,if_pos (decide_eq_true hl)];rfl
  ·rw [if_neg (fun q=>hl q.2),if_neg (by simpa using hl)];rfl
theorem kept_now {p:Pol} {P:Nat→Bool} {U:List Int} {t:Int} {L:List Cookie} (h:keptF p P U t L=L) (now:Int):keptF p P U now L=liveF now L :=
 kept_live fun c hc=>⟨(kept_all h c hc).1,(kept_all h c hc).2.1⟩
theorem live_sub (now:Int) (L:List Cookie):(liveF now L).Sublist L:=List.filter_sublist
def goF (f:From) (now:Int) (L:List Cookie):List Cookie:=(L.filter fun c=>goesF c f now).map fun c=>{ c with used:=now }
theorem go_live (f:From) (now:Int) (L:List Cookie):goF f now (liveF now L)=goF f now L:=by
 unfold goF liveF
 rw [List.filter_filter]
 congr 1
 apply List.filter_congr
 intro c _
 unfold goesF
 by_cases h:now<c.expiry<;>simp [h]
def toldF (f:From) (now:Int) (L:List Cookie):List Cookie:=sortF ckLt (goF f now L)
theorem told_mem {L:List Cookie} {x:Cookie}:x∈sortF ckLt L↔x∈L:=by
 obtain ⟨M,h1,h2,_⟩:=sort_spec LineP.ck_weak L
 rw [← h1,List.mem_map]
 constructor
 ·rintro ⟨p,hp,rfl⟩
  have:=h2.mem_iff.1 hp
  rw [List.mem_zipIdx_iff_getElem?] at this
  exact List.mem_of_getElem? this
 ·intro hx
  obtain ⟨i,hi⟩:=List.mem_iff_getElem?.1 hx
  exact ⟨(x,i),h2.mem_iff.2 (by rw [List.mem_zipIdx_iff_getElem?];exact hi),rfl⟩
theorem told_at {f:From} {now:Int} {L:List Cookie} {x:Cookie} (h:x∈toldF f now L):∃ c∈L,goesF c f now=true∧x = { c with used:=now }:=by
 unfold toldF at h
 rw [told_mem] at h
 obtain ⟨c,hc,rfl⟩:=List.mem_map.1 h
 obtain ⟨h1,h2⟩:=List.mem_filter.1 hc
 exact ⟨c,h1,h2,rfl⟩
theorem lets_used (p:Pol) (P:Nat→Bool) (U:List Int) (c:Cookie) (n:Int):letsF p P U { c with used:=n }=letsF p P U c:=rfl
theorem told_len {f:From} {now:Int} {L:List Cookie}:(toldF f now L).length≤L.length:=by
 unfold toldF goF
 rw [sortF_len,List.length_map]
 exact List.length_filter_le _ _
end Go.Proofs.YtlfdjpgghiemfaaGreatDoor.GovP
end
section
namespace Go.Proofs.YtlfdjpgghiemfaaGreatDoor.Abs
open Go.RowKit Mem Facts
section
variable {P:Program} {N:Env} {M:Nat→Prop} {o:Oper} {s:S} {a:Act} {w:World}
def MethOf (P:Program) (T:TypeId) (name:String) (f:FuncId):Prop:=∀ (x:Value) (w:World),(Go.method (P.types.size+Made.depth) T x name).run P w = .ok (f,x) w
theorem run_inv {f:Nat} {T:TypeId} {name:String} {g:Operand} {xs:Array Operand} {ts:Array TypeId} {x:Value} (ho:o.op = .call { callee:=.invoke g name,args:=xs,argTypes:=ts }) (hg:a.eval g = .iface T x) (hm:MethOf P T name f) (hc:∀ (fs:Array Value) (w:World),(callFunc f fs).run P w = .ok (.enter f fs) w):(execOp a.eval o).run P w = .ok (.enter f (#[x]++xs.map a.eval)) w:=by
 have e1:(#[Value.iface T x]++xs.map a.eval)[0]? = some (.iface T x):=by
  rw [Array.getElem?_append_left (by simp)]
  rfl
 have e2:(#[Value.iface T x]++xs.map a.eval).extract 1 (#[Value.iface T x]++xs.map a.eval).size=xs.map a.eval:=by
  apply Array.ext
  ·simp
  ·intro i h1 h2
   rw [Array.getElem_extract,Array.getElem_append_right (by simp)]
   simp
 have e3:(callMethod (.iface T x) name (xs.map a.eval)).run P w=(callFunc f (#[x]++xs.map a.eval)).run P w:=by
  have hx:(Go.method (P.types.size+100) T x name).run P w = .ok (f,x) w:=hm x w
  simp [callMethod,go_sem]
  rw [hx]
  rfl
 unfold execOp
 simp only [ho,resolve,hg,Sem.run_bind,Sem.run_pure,Result.andThen_ok,invoke,e1,e2]
 rw [e3]
 exact hc _ _
theorem law_inv {f:Nat} {T:TypeId} {name:String} {g:Operand} {xs:Array Operand} {ts:Array TypeId} {vs:List V} {v r:V} (ho:o.op = .call { callee:=.invoke g name,args:=xs,argTypes:=ts }) (hm:MethOf P T name f) (hc:∀ (fs:Array Value) (w:World),(callFunc f fs).run P w = .ok (.enter f fs) w) (hl:vs.length=xs.size)
  (h:ACallsG P N.g f (v::vs) r) (hn:V.namesL (v::vs)=[]):OpLaw P N o ⟨(g,.ifc T v)::tsOf xs.toList vs,[]⟩ r [] []:=fun s M A φ a w hh hr _ hd=>by
 obtain ⟨x,g1,g2⟩:∃ x,a.eval g = .iface T x∧Rep (fun b=>M b∨N b) A φ w v x:=by
  have:=hr.ev hh.a
  generalize a.eval g=y at this
  cases this with
  | fz h=>cases h with
   | ifc h=>exact ⟨_,rfl,.fz h⟩
  | ifc h=>exact ⟨_,rfl,h⟩
 have hh':Holds ⟨tsOf xs.toList vs,[]⟩ s:=⟨fun p hp=>hh.1 p (List.mem_cons_of_mem _ hp),hh.2⟩
 unfold Oper.wp
 rw [run_inv ho g1 hm hc]
 refine Calls.mono (h (fun b=>M b∨N b) w _ hr.gl hr.lim (by simp;omega) fun i u y hu hy=>rep_fz (X:=fun b=>M b∨N b) (A:=A) (φ:=φ) ?_ (List.eq_nil_iff_forall_not_mem.2 fun m hm=>?_)) ?_
 ·rcases i with _|i
  ·rw [Array.getElem?_append_left (by simp)] at hy
   simp at hu hy
   subst hu hy
   exact g2
  ·have hy:(xs.map a.eval)[i]? = some y:=by
    rw [Array.getElem?_append_right (by simp)] at hy
    simpa using hy
   simp only [Array.getElem?_map,Option.map_eq_some_iff] at hy
   obtain ⟨p,hp,rfl⟩:=hy
   exact hr.ev (ts_at hh' i p u (by simpa using hp) (by simpa using hu))
 ·have:=mem_namesL.2 ⟨u,List.mem_of_getElem? hu,hm⟩
  rw [hn] at this;cases this
 ·rintro e w' ⟨x,rfl,hb,hfz⟩
  exact rel_grow_dst hr hb (.fz hfz) hd
end
section
variable {P:Program} {N:Env} {l r:List Oper} {o:Oper} {tm:List (Nat × V)} {st:List (Nat × Option Blk)} {nx nt:Nat} {tr:List Tr} {K:S→List Tr→Prop} {d:Nat}
theorem x_inv {f:Nat} {T:TypeId} {name:String} {g:Operand} {xs:Array Operand} {ts:Array TypeId} {vs:List V} {v w:V} (h:ACallsG P N.g f (v::vs) w) (hm:MethOf P T name f) (k:ARun P N l K r ⟨(d,w)::tm,st,nx,nt⟩ (tr++[trOf l o ⟨(g,.ifc T v)::tsOf xs.toList vs,[]⟩ []])) (ho:o.op = .call { callee:=.invoke g name,args:=xs,argTypes:=ts }:=by rfl) (hf:S.ev ⟨tm,st,nx,nt⟩ g=some (.ifc T v):=by rfl) (he:evL ⟨tm,st,nx,nt⟩ xs.toList=some vs:=by rfl) (hg:guardV l o ⟨tm,st,nx,nt⟩=some true:=by rfl) (hd:o.dst=some d:=by rfl) (hlt:Nat.blt d nt=true:=by rfl) (hb:hasBody P f=true:=by kernel_rfl) (hn:V.namesL (v::vs)=[]:=by rfl):ARun P N l K (o::r) ⟨tm,st,nx,nt⟩ tr:=r_val hg hd hlt (law_inv ho hm (enters hb) (ev_len he) h hn) (hT hf (ts_of he fun p hp=>by cases hp)) k
end
def cellV:V→Bool
 | .agg _=>false
 | _=>true
theorem cells_plain {cs:List V} (h:cs.all cellV=true):∀ u∈cs,u.cells=[u]:=fun u hu=>by
 have:=List.all_eq_true.1 h u hu
 cases u<;>first|rfl|cases this
section
variable {P:Program} {tb:List Ty} {e ee:Ty} {N:Env} {l r:List Oper} {o:Oper} {tm:List (Nat × V)} {st:List (Nat × Option Blk)} {nx nt:Nat} {tr:List Tr} {K:S→List Tr→Prop} {d:Nat} {T:TypeId} {x:Operand}
theorem x_slA {cs:List V} {off len el:Nat} (htb:TbOk P tb) (k:ARun P N l K r ⟨(d,.fro ((cs.drop off).take len))::tm,st,nx,nt⟩ (tr++[trOf l o ⟨[(x,.fp cs off)],[]⟩ []])) (ho:o.op = .slice T x none none none:=by rfl) (hx:S.ev ⟨tm,st,nx,nt⟩ x=some (.fp cs off):=by rfl) (hg:guardV l o ⟨tm,st,nx,nt⟩=some true:=by rfl) (hd:o.dst=some d:=by rfl) (hlt:Nat.blt d nt=true:=by rfl) (hT':nth tb T=some e:=by rfl) (hs:e.arr=some (len,el):=by rfl) (hE:nth tb el=some ee:=by rfl) (h1:ee.size=1:=by rfl) (h0':Nat.blt 0 len=true:=by rfl) (hl:Nat.ble len LIM=true:=by rfl) (hc:Nat.ble (off+len) cs.length=true:=by rfl) (hone:cs.all cellV=true:=by rfl):ARun P N l K (o::r) ⟨tm,st,nx,nt⟩ tr:=r_val hg hd hlt (law_slice_arr_fp htb ho hT' hs hE h1 (Nat.le_of_ble_eq_true h0') (Nat.le_of_ble_eq_true hl) (Nat.le_of_ble_eq_true hc) (cells_plain hone)) (hT hx h0) k
theorem x_ldF {cs:List V} {off:Nat} {w:V} (htb:TbOk P tb) (hv:subV cs off e.agg e.size=some w) (k:ARun P N l K r ⟨(d,w)::tm,st,nx,nt⟩ (tr++[trOf l o ⟨[(x,.fp cs off)],[]⟩ []])) (ho:o.op = .load T x:=by rfl) (hx:S.ev ⟨tm,st,nx,nt⟩ x=some (.fp cs off):=by rfl) (hg:guardV l o ⟨tm,st,nx,nt⟩=some true:=by rfl) (hd:o.dst=some d:=by rfl) (hlt:Nat.blt d nt=true:=by rfl) (hT':nth tb T=some e:=by rfl):ARun P N l K (o::r) ⟨tm,st,nx,nt⟩ tr:=r_val hg hd hlt (law_load_fp htb ho hT' hv) (hT hx h0) k
end
inductive NilAs (k:Nat):List V→List V→Prop
 | nil:NilAs k [] []
 | same {v vs us}:NilAs k vs us→NilAs k (v::vs) (v::us)
 | at {n vs us}:n<k→NilAs k vs us→NilAs k (.nils::vs) (.own n 0 0::us)
 | agg {cs ds vs us}:NilAs k cs ds→NilAs k vs us→NilAs k (.agg cs::vs) (.agg ds::us)
section
variable {X A:Nat→Prop} {φ:Nat→Pl} {w:World}
end
theorem mcallsG_frz {P:Program} {g:Glob} {f:FuncId} {args:List V} {rv u:V} {bs:List Blk} (h:MCallsG P g f args [] rv (bs.map some)) (hf:frz (fun n=>bs[n]?) rv=some u) (hok:FrzOk (fun n=>bs[n]?) rv):ACallsG P g f args u:=fun N w vs hG hN hlen hv=>by
 have hblk:∀ n k,(S.mk [] (rowsFrom bs 0) bs.length 0).blk n=some k↔bs[n]? = some k:=fun n k=>by
  unfold S.blk
  simp only [lk_rows,Nat.zero_le,if_true,Nat.sub_zero]
  cases bs[n]? <;> simp
 refine Calls.mono (h N (fun _=>False) (fun _=>⟨none,0,0⟩) w vs ⟨fun n k hk=>by simp at hk,fun n n' k k' b e1=>by simp at e1,fun b hb=>hN b (hb.elim False.elim id),fun b hb=>hb.elim,hG.sub fun b hb=>hb.elim False.elim id⟩ hlen fun i v x hv' hx=>.fz ((hv i v x hv' hx).mono (fun b _ hb=>hb.elim False.elim id) (.refl _ w))) ?_
 rintro e w' ⟨x,M2,φ2,rfl,hs,hM,_,rows2,hrep⟩
 have at2:∀ n k,bs[n]? = some k→(bs.map some)[n]? = some (some k):=fun n k hk=>by rw [List.getElem?_map,hk];rfl
 have rel:Rel ⟨⟨N,g⟩,0,fun _=>⟨none,0,0⟩,[]⟩ M2 (· < (bs.map some).length) φ2 ⟨[],rowsFrom bs 0,bs.length,0⟩ ⟨#[],[]⟩ w' :=
  ⟨fun t v ht=>by simp [lk] at ht,rfl,fun n k hk=>rows2.st n k (at2 n k ((hblk n k).1 hk)),fun n n' k k' b e1 e2=>rows2.inj n n' k k' b (at2 n k ((hblk n k).1 e1)) (at2 n' k' ((hblk n' k').1 e2)),rows2.lim,rows2.dis,rfl,fun n hn=>by exact absurd hn (Nat.not_lt_zero n),rows2.gl⟩
 exact ⟨x,rfl,hs.below,rel.frz (b:=fun n=>bs[n]?) (fun n k hk=>(hblk n k).2 hk) hrep hf hok⟩
end Go.Proofs.YtlfdjpgghiemfaaGreatDoor.Abs
end
section
namespace Go.Proofs.YtlfdjpgghiemfaaGreatDoor.SixtyQ
open BitsP SixtyP
def place (c:UInt8):Nat:=abc.idxOf c
theorem u8_all (p:UInt8→Bool) (h:∀ m:Fin 256,p (UInt8.ofNat m.val)=true) (c:UInt8):p c=true:=by
 have:=h ⟨c.toNat,c.toNat_lt⟩
 simpa using this
theorem letter_place (c:UInt8) (h:place c<64):letter (place c)=c:=by
 have:=u8_all (fun c => !decide (place c<64)||letter (place c)==c) (by decide +kernel) c
 simpa [h] using this
theorem index_place (c:UInt8):Lib.indexByte abc c=if place c<64 then (place c:Int) else -1:=by
 have:=u8_all (fun c=>Lib.indexByte abc c==if place c<64 then (place c:Int) else -1) (by decide +kernel) c
 simpa using this
def known (t:List UInt8):Bool:=t.all fun c=>decide (place c<64)
def dbits (t:List UInt8):List Nat:=t.flatMap fun c=>bitsOf (place c) 6
theorem dbits_cons (c:UInt8) (t:List UInt8):dbits (c::t)=bitsOf (place c) 6++dbits t:=rfl
theorem dbits_app (a b:List UInt8):dbits (a++b)=dbits a++dbits b:=by simp [dbits]
theorem dbits_len (t:List UInt8):(dbits t).length=6*t.length:=by
 induction t with
 | nil=>rfl
 | cons c l ih=>rw [dbits_cons,List.length_append,bitsOf_len,ih,List.length_cons];omega
theorem dbits_bin (t:List UInt8):Bin (dbits t):=by
 intro b hb
 simp only [dbits,List.mem_flatMap] at hb
 obtain ⟨c,_,hb⟩:=hb
 exact bitsOf_bin _ _ b hb
theorem enc6_dbits (t:List UInt8) (h:known t=true):enc6 (dbits t)=t:=by
 induction t with
 | nil=>rfl
 | cons c l ih =>
  simp only [known,List.all_cons,Bool.and_eq_true,decide_eq_true_eq] at h
  rw [dbits_cons,enc6_app _ _ (bitsOf_len _ _),num_bitsOf,Nat.mod_eq_of_lt (by simpa using h.1),letter_place c h.1,ih h.2]
theorem bits_num (l:List Nat) (h:Bin l):bitsOf (num l) l.length=l:=by
 revert h
 refine snoc_ind (p:=fun l=>Bin l→bitsOf (num l) l.length=l) (fun _=>rfl) (fun l b ih h=>?_) l
 have h1:=ih h.left
 have h2:b<2:=h b (by simp)
 have key:∀ (w n b:Nat),b<2→bitsOf (2*n+b) (w+1)=bitsOf n w++[b]:=by
  intro w
  induction w with
  | zero=>intro n b hb;simp [bitsOf];omega
  | succ w ihw =>
   intro n b hb
   rw [bitsOf,ihw n b hb,bitsOf]
   simp only [List.cons_append,List.cons.injEq,and_true]
   rw [Nat.pow_succ,Nat.mul_comm (2^w) 2,← Nat.div_div_eq_div_mul]
   congr 2;omega
 rw [num_snoc,List.length_append,List.length_singleton,key _ _ _ h2,h1]
def pad6 (l:List Nat):List Nat:=l++List.replicate ((6-l.length % 6) % 6) 0
theorem num_noughts (l:List Nat) (k:Nat):num (l++List.replicate k 0)=num l*2^k:=by
 induction k with
 | zero=>simp
 | succ k ih=>rw [List.replicate_succ',← List.append_assoc,num_snoc,ih,Nat.pow_succ];rw [Nat.add_zero,Nat.mul_comm 2,Nat.mul_assoc]
theorem enc6_few (l:List Nat) (h0:l≠[]) (h:l.length≤6):enc6 l=[letter (num (l++List.replicate (6-l.length) 0))]:=by
 have hl:0<l.length:=List.length_pos_iff.2 h0
 rw [enc6_step l h0,Nat.min_eq_right h,List.take_length,List.drop_length,num_noughts];rfl
theorem enc6_pad:∀ (n:Nat) (l:List Nat),l.length≤n→enc6 (pad6 l)=enc6 l
 | 0,l,h=>by
  obtain rfl:l=[]:=List.eq_nil_of_length_eq_zero (by omega)
  rfl
 | n+1,l,h=>by
  by_cases h0:l=[]
  ·subst h0;rfl
  ·have hl:0<l.length:=List.length_pos_iff.2 h0
   by_cases h6:l.length<6
   ·have e:(6-l.length % 6) % 6=6-l.length:=by omega
    unfold pad6
    rw [e,enc6_few l h0 (by omega),enc6_few _ (by simp [h0]) (by simp;omega)]
    simp only [List.length_append,List.length_replicate]
    rw [show 6-(l.length+(6-l.length))=0 from by omega];simp
   ·have ht:(l.take 6).length=6:=by rw [List.length_take];omega
    have hs:l=l.take 6++l.drop 6:=(List.take_append_drop 6 l).symm
    have e:pad6 l=l.take 6++pad6 (l.drop 6):=by
     unfold pad6
     rw [← List.append_assoc,← hs,List.length_drop];congr 2;omega
    rw [e,enc6_app _ _ ht,enc6_pad n (l.drop 6) (by rw [List.length_drop];omega)]
    conv=>{ rhs;rw [hs,enc6_app _ _ ht] }
def readF (t:List UInt8):List UInt8 × Nat :=
 if known t=false then ([],1)
 else if t.length % 4=1 then ([],1)
 else if 400<t.length*6/8 then ([],2)
 else if num ((dbits t).drop (8*(t.length*6/8)))≠0 then ([],1)
 else ((packB ((dbits t).take (8*(t.length*6/8)))).map UInt8.ofNat,0)
theorem tbits_app (a b:List UInt8):tbits (a++b)=tbits a++tbits b:=by simp [tbits]
theorem byteAt_num (l:List Nat) (j:Nat) (h:8*j+8≤l.length):byteAt l j=num ((l.drop (8*j)).take 8):=by
 have e:∀ i,i<8→l.getD (8*j+i) 0=((l.drop (8*j)).take 8).getD i 0:=fun i hi=>by
  simp only [List.getD_eq_getElem?_getD]
  rw [List.getElem?_take_of_lt hi,List.getElem?_drop]
 have hl:((l.drop (8*j)).take 8).length=8:=by rw [List.length_take,List.length_drop];omega
 unfold byteAt
 rw [show 8*j=8*j+0 from rfl,e 0 (by omega),Nat.add_zero,e 1 (by omega),e 2 (by omega),e 3 (by omega),e 4 (by omega),e 5 (by omega),e 6 (by omega),e 7 (by omega)]
 generalize (l.drop (8*j)).take 8=m at hl
 match m,hl with
 | [a,b,c,d,e,f,g,h],_=>simp [num];omega
theorem pack_tbits (s:List UInt8):(packB (tbits s)).map UInt8.ofNat=s:=by
 have hl:=tbits_len s
 apply List.ext_getElem
 ·simp [packB_len,hl];omega
 ·intro i h1 h2
  have h3:(tbits s).drop (8*i)=tbits (s.drop i):=by
   conv=>{ lhs;rw [← List.take_append_drop i s,tbits_app] }
   rw [List.drop_left' (by rw [tbits_len,List.length_take];omega)]
  simp only [packB,List.getElem_map,List.getElem_range]
  rw [byteAt_num _ _ (by omega),h3,List.drop_eq_getElem_cons h2]
  have h4:tbits (s[i]::s.drop (i+1))=bitsOf s[i].toNat 8++tbits (s.drop (i+1)):=rfl
  rw [h4,List.take_left' (bitsOf_len _ _),num_bitsOf,Nat.mod_eq_of_lt (by simpa using s[i].toNat_lt)]
  simp
theorem tbits_packed (l:List Nat) (k:Nat) (hb:Bin l) (h:l.length=8*k):tbits ((packB l).map UInt8.ofNat)=l:=by
 have key:∀ (k:Nat) (l:List Nat),Bin l→l.length=8*k→∃ s:List UInt8,l=tbits s:=by
  intro k
  induction k with
  | zero=>intro l _ h;exact ⟨[],List.eq_nil_of_length_eq_zero (by omega)⟩
  | succ k ih =>
   intro l hb h
   have ht:(l.take 8).length=8:=by rw [List.length_take];omega
   have hs:l=l.take 8++l.drop 8:=(List.take_append_drop 8 l).symm
   rw [hs] at hb
   obtain ⟨s,hs2⟩:=ih (l.drop 8) hb.right (by rw [List.length_drop];omega)
   have h1:=num_lt hb.left
   have h2:=bits_num _ hb.left
   rw [ht] at h1 h2
   refine ⟨UInt8.ofNat (num (l.take 8))::s,?_⟩
   have e:tbits (UInt8.ofNat (num (l.take 8))::s)=bitsOf (UInt8.ofNat (num (l.take 8))).toNat 8++tbits s:=rfl
   rw [e,UInt8.toNat_ofNat',Nat.mod_eq_of_lt (by simpa using h1),h2,← hs2,← hs]
 obtain ⟨s,rfl⟩:=key k l hb h
 rw [pack_tbits]
theorem num_zero (l:List Nat) (h:num l=0):l=List.replicate l.length 0:=by
 revert h
 refine snoc_ind (p:=fun l=>num l=0→l=List.replicate l.length 0) (fun _=>rfl) (fun l b ih h=>?_) l
 rw [num_snoc] at h
 have h1:=ih (by omega)
 have h2:b=0:=by omega
 subst h2
 rw [List.length_append,List.length_singleton,List.replicate_succ',← h1]
theorem write_read (t:List UInt8) (h:(readF t).2=0):(readF t).1.length≤400∧enc6 (tbits (readF t).1)=t:=by
 unfold readF at h ⊢
 by_cases h1:known t=false
 ·rw [if_pos h1] at h;cases h
 ·rw [if_neg h1] at h ⊢
  by_cases h2:t.length % 4=1
  ·rw [if_pos h2] at h;cases h
  ·rw [if_neg h2] at h ⊢
   by_cases h3:400<t.length*6/8
   ·rw [if_pos h3] at h;cases h
   ·rw [if_neg h3] at h ⊢
    by_cases h4:num ((dbits t).drop (8*(t.length*6/8)))≠0
    ·rw [if_pos h4] at h;cases h
    ·rw [if_neg h4]
     have hk:known t=true:=by simpa using h1
     have hn:num ((dbits t).drop (8*(t.length*6/8)))=0:=by omega
     have hl:=dbits_len t
     have hz:=num_zero _ hn
     rw [List.length_drop,hl] at hz
     have ht:((dbits t).take (8*(t.length*6/8))).length=8*(t.length*6/8):=by rw [List.length_take,hl];omega
     have hb:=dbits_bin t
     have hs:dbits t=(dbits t).take (8*(t.length*6/8))++(dbits t).drop (8*(t.length*6/8)):=(List.take_append_drop _ _).symm
     have hb':=hb
     rw [hs] at hb'
     have hp:pad6 ((dbits t).take (8*(t.length*6/8)))=dbits t:=by
      conv=>{ rhs;rw [hs,hz] }
      unfold pad6
      rw [ht];congr 2
      have hq:t.length % 4=0∨t.length % 4=2∨t.length % 4=3:=by omega
      rcases hq with hq|hq|hq<;>omega
     refine ⟨by rw [List.length_map,packB_len,ht];omega,?_⟩
     rw [tbits_packed _ _ hb'.left ht,← enc6_pad _ _ (Nat.le_refl _),hp,enc6_dbits t hk]
theorem read_none (t:List UInt8) (h:(readF t).2≠0):(readF t).1=[]:=by
 unfold readF at h ⊢
 repeat' split
 all_goals first|rfl|(exfalso;simp_all)
theorem getD_pad (l:List Nat) (k i:Nat):(l++List.replicate k 0).getD i 0=l.getD i 0:=by
 simp only [List.getD_eq_getElem?_getD]
 by_cases h:i<l.length
 ·rw [List.getElem?_append_left h]
 ·rw [List.getElem?_append_right (by omega),List.getElem?_eq_none (l:=l) (by omega)]
  by_cases h2:i-l.length<k
  ·rw [List.getElem?_eq_getElem (by simpa using h2),List.getElem_replicate];rfl
  ·rw [List.getElem?_eq_none (by simp;omega)]
theorem byteAt_pad (l:List Nat) (k j:Nat):byteAt (l++List.replicate k 0) j=byteAt l j:=by
 unfold byteAt;simp only [getD_pad]
theorem last_byte (l:List Nat) (_h:l.length % 8≠0):byteAt l (l.length/8)=num (l.drop (8*(l.length/8)))*2^(8-l.length % 8):=by
 rw [← byteAt_pad l (8-l.length % 8),byteAt_num _ _ (by simp;omega),List.drop_append_of_le_length (by omega),List.take_of_length_le (by simp;omega),num_noughts]
theorem getD_take (l:List Nat) (n i:Nat) (h:i<n):(l.take n).getD i 0=l.getD i 0:=by
 simp only [List.getD_eq_getElem?_getD]
 rw [List.getElem?_take_of_lt h]
theorem pack_take (l:List Nat) (m:Nat) (h:8*m≤l.length):(packB l).take m=packB (l.take (8*m)):=by
 apply List.ext_getElem
 ·rw [List.length_take,packB_len,packB_len,List.length_take];omega
 ·intro i h1 h2
  have hi:i<m:=by rw [List.length_take] at h1;omega
  rw [List.getElem_take]
  simp only [packB,List.getElem_map,List.getElem_range]
  unfold byteAt
  rw [getD_take _ _ _ (by omega),getD_take _ _ _ (by omega),getD_take _ _ _ (by omega),getD_take _ _ _ (by omega),getD_take _ _ _ (by omega),getD_take _ _ _ (by omega),getD_take _ _ _ (by omega),getD_take _ _ _ (by omega)]
theorem pack_drop (l:List Nat):(packB l).drop (l.length/8)=if l.length % 8=0 then [] else [byteAt l (l.length/8)]:=by
 by_cases h:l.length % 8=0
 ·rw [if_pos h,List.drop_of_length_le (by rw [packB_len];omega)]
 ·rw [if_neg h]
  have hl:l.length/8<(packB l).length:=by rw [packB_len];omega
  rw [List.drop_eq_getElem_cons hl,List.drop_of_length_le (by rw [packB_len];omega)]
  simp [packB]
theorem trim_tail (l:List Nat) (hb:Bin l):Lib.trimB (((packB l).map UInt8.ofNat).drop (l.length/8)) 0=[]↔num (l.drop (8*(l.length/8)))=0:=by
 rw [← List.map_drop,pack_drop]
 by_cases h:l.length % 8=0
 ·rw [if_pos h,List.drop_of_length_le (by omega)];exact ⟨fun _=>rfl,fun _=>rfl⟩
 ·rw [if_neg h,List.map_singleton]
  have hlt:=byteAt_lt hb (l.length/8)
  have e:=last_byte l h
  have hp:0<2^(8-l.length % 8):=Nat.two_pow_pos _
  generalize byteAt l (l.length/8)=x at e hlt
  generalize num (l.drop (8*(l.length/8)))=y at e
  generalize 2^(8-l.length % 8)=z at e hp
  by_cases hx:x=0
  ·subst hx
   have:y=0:=by rcases Nat.mul_eq_zero.1 e.symm with h|h<;>omega
   exact ⟨fun _=>this,fun _=>by decide⟩
  ·have hy:y≠0:=by rintro rfl;simp at e;exact hx e
   refine ⟨fun h=>?_,fun h=>absurd h hy⟩
   have hne:(UInt8.ofNat x==0)=false:=by
    rw [beq_eq_false_iff_ne];intro he
    have:=congrArg UInt8.toNat he
    rw [UInt8.toNat_ofNat'] at this
    simp at this;omega
   simp [Lib.trimB,Lib.trimLeftB,Lib.trimRightB,hne] at h
theorem known_app (a b:List UInt8):known (a++b)=(known a&&known b):=by simp [known]
theorem read_bad {t:List UInt8} (h:known t=false):readF t=([],1):=by unfold readF;rw [if_pos h]
theorem read_one {t:List UInt8} (h:known t=true) (h1:t.length % 4=1):readF t=([],1):=by unfold readF;rw [if_neg (by rw [h];decide),if_pos h1]
theorem read_many {t:List UInt8} (h:known t=true) (h1:¬ t.length % 4=1) (h2:400<t.length*6/8):readF t=([],2):=by unfold readF;rw [if_neg (by rw [h];decide),if_neg h1,if_pos h2]
theorem read_rest {t:List UInt8} (h:known t=true) (h1:¬ t.length % 4=1) (h2:¬ 400<t.length*6/8) (h3:¬ num ((dbits t).drop (8*(t.length*6/8)))=0):readF t=([],1):=by unfold readF;rw [if_neg (by rw [h];decide),if_neg h1,if_neg h2,if_pos h3]
theorem read_ok {t:List UInt8} (h:known t=true) (h1:¬ t.length % 4=1) (h2:¬ 400<t.length*6/8) (h3:num ((dbits t).drop (8*(t.length*6/8)))=0):readF t=(((packB (dbits t)).map UInt8.ofNat).take (t.length*6/8),0):=by
 have hl:=dbits_len t
 unfold readF;rw [if_neg (by rw [h];decide),if_neg h1,if_neg h2,if_neg (by simpa using h3),← List.map_take,pack_take _ _ (by omega)]
end Go.Proofs.YtlfdjpgghiemfaaGreatDoor.SixtyQ
end
section
namespace Go.Proofs.YtlfdjpgghiemfaaGreatDoor.ConP
open BitsP SixtyP SixtyQ
theorem snocI {α:Type} {p:List α→Prop} (h0:p []) (h1:∀ l b,p l→p (l++[b])):∀ l,p l:=fun l=>by
 have key:∀ r:List α,p r.reverse:=fun r=>by
  induction r with
  | nil=>exact h0
  | cons b r ih=>rw [List.reverse_cons];exact h1 _ _ ih
 have:=key l.reverse
 rwa [List.reverse_reverse] at this
def consR (u:Nat):List (Nat × Nat)→List (Nat × Nat)
 | []=>[(u,u)]
 | (a,b)::r=>if a=u+1 then (u,b)::r else (u,u)::(a,b)::r
def snocR:List (Nat × Nat)→Nat→List (Nat × Nat)
 | [],v=>[(v,v)]
 | [(a,b)],v=>if b+1=v then [(a,v)] else [(a,b),(v,v)]
 | p::q::r,v=>p::snocR (q::r) v
def runsF:List Nat→List (Nat × Nat)
 | []=>[]
 | u::l=>consR u (runsF l)
theorem snoc_cons (u v:Nat):∀ r:List (Nat × Nat),snocR (consR u r) v=consR u (snocR r v)
 | []=>by
  simp only [consR,snocR]
  by_cases h:u+1=v
  ·rw [if_pos h,if_pos h.symm]
  ·rw [if_neg h,if_neg fun e=>h e.symm]
 | [(a,b)]=>by
  simp only [consR,snocR]
  by_cases h1:a=u+1<;>by_cases h2:b+1=v<;>simp [h1,h2,snocR]
 | (a,b)::q::r=>by
  simp only [consR,snocR]
  by_cases h1:a=u+1<;>simp [h1,snocR]
theorem runs_snoc:∀ (l:List Nat) (v:Nat),runsF (l++[v])=snocR (runsF l) v
 | [],v=>rfl
 | u::l,v=>by rw [List.cons_append,runsF,runsF,runs_snoc l v,snoc_cons]
theorem snocR_last:∀ (d:List (Nat × Nat)) (a b v:Nat),snocR (d++[(a,b)]) v=if b+1=v then d++[(a,v)] else d++[(a,b)]++[(v,v)]
 | [],a,b,v=>by simp [snocR]
 | [p],a,b,v=>by
  show p::snocR [(a,b)] v=_
  simp only [snocR]
  split<;>rfl
 | p::q::d,a,b,v=>by
  have:=snocR_last (q::d) a b v
  show p::snocR (q::(d++[(a,b)])) v=_
  rw [show q::(d++[(a,b)])=(q::d)++[(a,b)] from rfl,this]
  split<;>rfl
theorem runs_take {U:List Nat} {k v:Nat} (h:U[k]? = some v):runsF (U.take (k+1))=snocR (runsF (U.take k)) v:=by
 rw [List.take_add_one,h]
 exact runs_snoc _ _
theorem consR_len (u:Nat):∀ r,(consR u r).length≤r.length+1
 | []=>by simp [consR]
 | (a,b)::r=>by simp only [consR];split<;>simp
theorem runs_len:∀ U:List Nat,(runsF U).length≤U.length
 | []=>Nat.le_refl _
 | u::l=>by
  have h1:=consR_len u (runsF l)
  have h2:=runs_len l
  rw [runsF,List.length_cons];omega
theorem snocR_all {p:Nat→Prop} (v:Nat) (hv:p v):∀ r:List (Nat × Nat),(∀ x∈r,p x.1∧p x.2)→∀ x∈snocR r v,p x.1∧p x.2
 | [],_,x,hx=>by simp only [snocR,List.mem_singleton] at hx;subst hx;exact ⟨hv,hv⟩
 | [(a,b)],h,x,hx=>by
  have:=h (a,b) (List.mem_singleton.2 rfl)
  simp only [snocR] at hx
  split at hx
  ·simp only [List.mem_singleton] at hx;subst hx;exact ⟨this.1,hv⟩
  ·simp only [List.mem_cons,List.not_mem_nil,or_false] at hx
   rcases hx with rfl|rfl
   ·exact this
   ·exact ⟨hv,hv⟩
 | y::q::r,h,x,hx=>by
  simp only [snocR,List.mem_cons] at hx
  rcases hx with rfl|hx
  ·exact h _ (List.mem_cons_self ..)
  ·exact snocR_all v hv (q::r) (fun z hz=>h z (List.mem_cons_of_mem _ hz)) x (by simpa using hx)
theorem runs_all {p:Nat→Prop} (U:List Nat) (h:∀ v∈U,p v):∀ x∈runsF U,p x.1∧p x.2:=by
 refine snocI (p:=fun U=>(∀ v∈U,p v)→∀ x∈runsF U,p x.1∧p x.2) (fun _ x hx=>by cases hx) (fun l b ih h=>?_) U h
 rw [runs_snoc]
 exact snocR_all b (h b (by simp)) _ (ih fun v hv=>h v (List.mem_append_left _ hv))
def lastOf (U:List Nat):Nat:=U.getLast?.getD 0
theorem snocR_end (v:Nat):∀ r,((snocR r v).getLast?.map Prod.snd)=some v
 | []=>rfl
 | [(a,b)]=>by simp only [snocR];split<;>rfl
 | p::q::r=>by
  have h:=snocR_end v (q::r)
  simp only [snocR]
  have hne:snocR (q::r) v≠[]:=fun e=>by rw [e] at h;cases h
  rw [List.getLast?_cons_of_ne_nil hne]
  exact h
theorem runs_last (U:List Nat):((runsF U).getLast?.map Prod.snd).getD 0=lastOf U:=by
 refine snocI (p:=fun U=>((runsF U).getLast?.map Prod.snd).getD 0=lastOf U) rfl (fun l b _=>?_) U
 rw [runs_snoc,snocR_end,lastOf]
 simp
def sizeR (p:Nat × Nat):Nat:=if p.1=p.2 then 7 else 13
def runBits (p:Nat × Nat):List Nat:=(!decide (p.1=p.2)).toNat::(bitsOf p.1 6++if p.1=p.2 then [] else bitsOf p.2 6)
theorem runBits_len (p:Nat × Nat):(runBits p).length=sizeR p:=by
 unfold runBits sizeR
 split<;>simp [bitsOf_len]
def sizes (r:List (Nat × Nat)):Nat:=r.foldl (fun n p=>n+sizeR p) 0
theorem sizes_snoc (r:List (Nat × Nat)) (p:Nat × Nat):sizes (r++[p])=sizes r+sizeR p:=by unfold sizes;rw [List.foldl_append];rfl
def runsBits (r:List (Nat × Nat)):List Nat:=r.flatMap runBits
theorem runsBits_snoc (r:List (Nat × Nat)) (p:Nat × Nat):runsBits (r++[p])=runsBits r++runBits p:=by simp [runsBits]
theorem runsBits_len (r:List (Nat × Nat)):(runsBits r).length=sizes r:=by
 refine snocI (p:=fun r=>(runsBits r).length=sizes r) rfl (fun r p ih=>?_) r
 rw [runsBits_snoc,sizes_snoc,List.length_append,ih,runBits_len]
theorem sizes_le (r:List (Nat × Nat)):sizes r≤13*r.length:=by
 refine snocI (p:=fun r=>sizes r≤13*r.length) (Nat.le_refl _) (fun r p ih=>?_) r
 rw [sizes_snoc,List.length_append,List.length_singleton]
 have:sizeR p≤13:=by unfold sizeR;split<;>omega
 omega
theorem toNat_bin (b:Bool):b.toNat<2:=by cases b<;>decide
theorem cons_bin {b:Nat} {l:List Nat} (h:b<2) (hl:Bin l):Bin (b::l):=fun x hx=>by
 rcases List.mem_cons.1 hx with rfl|hx
 ·exact h
 ·exact hl x hx
theorem runBits_bin (p:Nat × Nat):Bin (runBits p):=by
 unfold runBits
 refine cons_bin (toNat_bin _) ((bitsOf_bin _ _).app ?_)
 split
 ·exact bin_nil
 ·exact bitsOf_bin _ _
theorem runsBits_bin (r:List (Nat × Nat)):Bin (runsBits r):=fun b hb=>by
 obtain ⟨p,_,hp⟩:=List.mem_flatMap.1 hb
 exact runBits_bin p b hp
def eachBit (U:List Nat) (n:Nat):List Nat:=(List.range n).map fun i=>(U.contains (i+1)).toNat
theorem eachBit_succ (U:List Nat) (n:Nat):eachBit U (n+1)=eachBit U n++[(U.contains (n+1)).toNat]:=by simp [eachBit,List.range_succ]
theorem eachBit_len (U:List Nat) (n:Nat):(eachBit U n).length=n:=by simp [eachBit]
theorem eachBit_bin (U:List Nat) (n:Nat):Bin (eachBit U n):=fun b hb=>by
 obtain ⟨i,_,rfl⟩:=List.mem_map.1 hb
 exact toNat_bin _
def byRuns (U:List Nat):List Nat:=1::(bitsOf (runsF U).length 6++runsBits (runsF U))
def byEach (U:List Nat):List Nat:=0::eachBit U (lastOf U)
def short (U:List Nat):Bool:=decide (6+sizes (runsF U)<lastOf U)
def vendBits (U:List Nat):List Nat:=bif short U then byRuns U else byEach U
theorem byRuns_len (U:List Nat):(byRuns U).length=7+sizes (runsF U):=by simp [byRuns,bitsOf_len,runsBits_len];omega
theorem byEach_len (U:List Nat):(byEach U).length=1+lastOf U:=by simp [byEach,eachBit_len];omega
theorem vendBits_len (U:List Nat):(vendBits U).length≤1+lastOf U:=by
 unfold vendBits
 cases h:short U with
 | false=>rw [cond_false,byEach_len];exact Nat.le_refl _
 | true =>
  rw [cond_true,byRuns_len]
  unfold short at h
  have:=of_decide_eq_true h
  omega
theorem vendBits_bin (U:List Nat):Bin (vendBits U):=by
 unfold vendBits
 cases short U with
 | true=>exact cons_bin (by decide) ((bitsOf_bin _ _).app (runsBits_bin _))
 | false=>exact cons_bin (by decide) (eachBit_bin _ _)
def purpBits (P:Nat→Bool) (n:Nat):List Nat:=(List.range n).map fun i=>(P i).toNat
theorem purpBits_succ (P:Nat→Bool) (n:Nat):purpBits P (n+1)=purpBits P n++[(P n).toNat]:=by simp [purpBits,List.range_succ]
theorem purpBits_len (P:Nat→Bool) (n:Nat):(purpBits P n).length=n:=by simp [purpBits]
theorem purpBits_bin (P:Nat→Bool) (n:Nat):Bin (purpBits P n):=fun b hb=>by
 obtain ⟨i,_,rfl⟩:=List.mem_map.1 hb
 exact toNat_bin _
def headBits (g:Nat) (P:Nat→Bool) (U:List Nat):List Nat:=bitsOf 1 6++bitsOf g 36++purpBits P 10++bitsOf (lastOf U) 6
def conBits (g:Nat) (P:Nat→Bool) (U:List Nat):List Nat:=headBits g P U++vendBits U
theorem headBits_len (g:Nat) (P:Nat→Bool) (U:List Nat):(headBits g P U).length=58:=by simp [headBits,bitsOf_len,purpBits_len]
theorem headBits_bin (g:Nat) (P:Nat→Bool) (U:List Nat):Bin (headBits g P U):=(((bitsOf_bin _ _).app (bitsOf_bin _ _)).app (purpBits_bin _ _)).app (bitsOf_bin _ _)
theorem conBits_bin (g:Nat) (P:Nat→Bool) (U:List Nat):Bin (conBits g P U):=(headBits_bin g P U).app (vendBits_bin U)
theorem conBits_len (g:Nat) (P:Nat→Bool) (U:List Nat):(conBits g P U).length≤59+lastOf U:=by
 unfold conBits
 rw [List.length_append,headBits_len]
 have:=vendBits_len U
 omega
def packT (l:List Nat):List UInt8:=(packB l).map UInt8.ofNat
theorem packT_len (l:List Nat):(packT l).length=(l.length+7)/8:=by simp [packT,packB_len]
def conText (g:Nat) (P:Nat→Bool) (U:List Nat):List UInt8:=enc6 (tbits (packT (conBits g P U)))
def RightN (U:List Nat):Prop:=U.Pairwise (· < ·)∧∀ v∈U,1≤v∧v≤40
theorem lastOf_le {U:List Nat} (h:RightN U):lastOf U≤40:=by
 unfold lastOf
 cases hl:U.getLast? with
 | none=>simp
 | some v=>exact (h.2 v (List.mem_of_getLast? hl)).2
theorem right_len:∀ (U:List Nat) (a:Nat),U.Pairwise (· < ·)→(∀ v∈U,a≤v∧v≤40)→a≤41→U.length+a≤41
 | [],a,_,_,ha=>by simp only [List.length_nil];omega
 | u::l,a,h,hr,_=>by
  obtain ⟨h1,h2⟩:=List.pairwise_cons.1 h
  have hu:=hr u (List.mem_cons_self ..)
  have:=right_len l (u+1) h2 (fun v hv=>⟨h1 v hv,(hr v (List.mem_cons_of_mem _ hv)).2⟩) (by omega)
  rw [List.length_cons];omega
theorem right_few {U:List Nat} (h:RightN U):U.length≤40:=by
 have:=right_len U 1 h.1 h.2 (by omega)
 omega
theorem tw_step:∀ (U:List Nat) (i:Nat),U.Pairwise (· < ·)→i<lastOf U→∃ h,U[(U.takeWhile (fun x=>decide (x≤i))).length]? = some h∧decide (h=i+1)=U.contains (i+1)∧(U.takeWhile (fun x=>decide (x≤i+1))).length=(U.takeWhile (fun x=>decide (x≤i))).length+(decide (h=i+1)).toNat
 | [],i,_,h=>by simp [lastOf] at h
 | u::l,i,hp,hi=>by
  obtain ⟨h1,h2⟩:=List.pairwise_cons.1 hp
  by_cases hu:u≤i
  ·have hl:i<lastOf l:=by
    cases l with
    | nil=>simp [lastOf] at hi;omega
    | cons x l=>simpa [lastOf] using hi
   obtain ⟨h,e1,e2,e3⟩:=tw_step l i h2 hl
   refine ⟨h,?_,?_,?_⟩
   ·rw [List.takeWhile_cons_of_pos (by simpa using hu),List.length_cons,List.getElem?_cons_succ];exact e1
   ·rw [e2,List.contains_cons,show (i+1==u)=false from by simp;omega,Bool.false_or]
   ·rw [List.takeWhile_cons_of_pos (by simp;omega),List.takeWhile_cons_of_pos (by simpa using hu),List.length_cons,List.length_cons,e3];omega
  ·have e0:(u::l).takeWhile (fun x=>decide (x≤i))=[]:=List.takeWhile_cons_of_neg (by simpa using hu)
   rw [e0]
   refine ⟨u,rfl,?_,?_⟩
   ·by_cases hc:u=i+1
    ·subst hc;simp
    ·rw [decide_eq_false hc]
     symm
     rw [← Bool.not_eq_true,List.contains_iff_mem]
     intro hm
     rcases List.mem_cons.1 hm with e|hm
     ·exact hc e.symm
     ·have:=h1 _ hm;omega
   ·by_cases hc:u=i+1
    ·rw [List.takeWhile_cons_of_pos (by simp;omega),decide_eq_true hc]
     have:l.takeWhile (fun x=>decide (x≤i+1))=[]:=by
      cases l with
      | nil=>rfl
      | cons x l=>have:=h1 x (List.mem_cons_self ..);exact List.takeWhile_cons_of_neg (by simp;omega)
     rw [this];rfl
    ·rw [List.takeWhile_cons_of_neg (by simp;omega),decide_eq_false hc];rfl
def endF (U:List Nat):Nat→Nat→Nat
 | 0,e=>e
 | n+1,e=>if U.contains (e+1) then endF U n (e+1) else e
def begR (U:List Nat) (v:Nat):List (Nat × Nat):=if U.contains v && !U.contains (v-1) then [(v,endF U 41 v)] else []
def docRuns (U:List Nat) (n:Nat):List (Nat × Nat):=(List.range' 1 n).flatMap (begR U)
end Go.Proofs.YtlfdjpgghiemfaaGreatDoor.ConP
namespace Go.Proofs.YtlfdjpgghiemfaaGreatDoor.ConQ
open BitsP SixtyP SixtyQ ConP
def spanV (a b:Nat):List Nat:=List.range' a (b+1-a)
def runsP:Nat→List Nat→Option (List Nat)
 | 0,_=>some []
 | n+1,l=>if l.length<7 then none
  else if num (l.take 1)=1 then (if l.length<13 then none else (runsP n (l.drop 13)).map (spanV (num ((l.drop 1).take 6)) (num ((l.drop 7).take 6)) ++ ·))
  else (runsP n (l.drop 7)).map (spanV (num ((l.drop 1).take 6)) (num ((l.drop 1).take 6)) ++ ·)
def eachP (n:Nat) (l:List Nat):List Nat:=((List.range n).filter fun i=>decide (l.getD i 0=1)).map (· + 1)
theorem eachP_succ (n:Nat) (l:List Nat):eachP (n+1) l=eachP n l++if l.getD n 0=1 then [n+1] else []:=by
 unfold eachP
 rw [List.range_succ,List.filter_append,List.map_append]
 congr 1
 by_cases h:l.getD n 0=1
 ·rw [if_pos h,List.filter_cons_of_pos (by simpa using h)];rfl
 ·rw [if_neg h,List.filter_cons_of_neg (by simpa using h)];rfl
theorem eachP_len (n:Nat) (l:List Nat):(eachP n l).length≤n:=by
 unfold eachP
 rw [List.length_map]
 exact Nat.le_trans (List.length_filter_le _ _) (by simp)
def vendsP (last:Nat) (l:List Nat):Option (List Nat) :=
 if num (l.take 1)=1 then (if l.length<7 then none else runsP (num ((l.drop 1).take 6)) (l.drop 7))
 else if l.length<1+last then none else some (eachP last (l.drop 1))
def given (l:List Nat):Nat:=num ((l.drop 6).take 36)
def purp (l:List Nat) (i:Nat):Bool:=decide (num ((l.drop (42+i)).take 1)=1)
def lastP (l:List Nat):Nat:=num ((l.drop 52).take 6)
def vends (l:List Nat):Option (List Nat):=vendsP (lastP l) (l.drop 58)
def codeP (l:List Nat):Nat:=if l.length<6 then 5 else if num (l.take 6)≠1 then 7 else if l.length<59 then 5 else match vends l with
 | none=>5
 | some _=>0
abbrev Rd:=Nat × (Nat→Bool) × List Nat × Nat
def noRd (c:Nat):Rd:=(0,fun _=>false,[],c)
abbrev toI (U:List Nat):List Int:=U.map fun n:Nat=>(n:Int)
def readL (t:List UInt8) (l:List Nat) (U:List Nat):Rd:=if GrantP.check (given l:Int) (toI U)=0∧conText (given l) (purp l) U=t then (given l,purp l,U,0) else noRd 1
def readC (t:List UInt8):Rd :=
 if (readF t).2≠0 then noRd (readF t).2
 else if codeP (tbits (readF t).1)≠0 then noRd (codeP (tbits (readF t).1))
 else readL t (tbits (readF t).1) ((vends (tbits (readF t).1)).getD [])
theorem right_toI {U:List Nat}:GrantP.Right (toI U)↔RightN U:=by
 unfold GrantP.Right RightN
 rw [List.pairwise_map]
 constructor
 ·rintro ⟨h1,h2⟩
  exact ⟨h1.imp fun h=>by omega,fun v hv=>by have:=h2 (v:Int) (List.mem_map.2 ⟨v,hv,rfl⟩);omega⟩
 ·rintro ⟨h1,h2⟩
  refine ⟨h1.imp fun h=>by omega,fun v hv=>?_⟩
  obtain ⟨n,hn,rfl⟩:=List.mem_map.1 hv
  have:=h2 n hn
  omega
theorem check_iff {g:Int} {L:List Int}:GrantP.check g L=0↔(0≤g∧g≤68719476735)∧GrantP.Right L:=by
 unfold GrantP.check GrantP.codeG
 by_cases h:g<0∨68719476735<g
 ·rw [if_pos h,if_neg (by decide)]
  constructor
  ·intro h;cases h
  ·intro h;omega
 ·rw [if_neg h,if_pos rfl]
  constructor
  ·intro h2;exact ⟨by omega,GrantP.right_of h2⟩
  ·intro h2;exact GrantP.of_right h2.2
theorem right_nat {L:List Int} (h:GrantP.Right L):∃ U,L=toI U∧RightN U:=by
 have e:L=toI (L.map Int.toNat):=by
  unfold toI
  rw [List.map_map]
  conv=>lhs;rw [← List.map_id L]
  refine List.map_congr_left fun v hv=>?_
  have:=h.2 v hv
  simp only [id,Function.comp]
  omega
 exact ⟨_,e,right_toI.1 (e ▸ h)⟩
theorem check_nat {g:Int} {L:List Int} (h:GrantP.check g L=0):∃ (n:Nat) (U:List Nat),g=(n:Int)∧L=toI U∧n≤68719476735∧RightN U:=by
 obtain ⟨h1,h2⟩:=check_iff.1 h
 obtain ⟨U,e,hU⟩:=right_nat h2
 exact ⟨g.toNat,U,by omega,e,by omega,hU⟩
def spans (r:List (Nat × Nat)):List Nat:=r.flatMap fun p=>spanV p.1 p.2
def pad (l:List Nat):Nat:=8*((l.length+7)/8)-l.length
section
variable {g:Nat} {P:Nat→Bool} {U:List Nat}
end
end Go.Proofs.YtlfdjpgghiemfaaGreatDoor.ConQ
end
