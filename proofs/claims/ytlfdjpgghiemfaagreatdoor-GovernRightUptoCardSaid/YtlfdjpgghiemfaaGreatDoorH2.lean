/- Texts of the proof, joined: BitsS, BitsT, WordP, OneB, WordW. -/
import Derived.Test.YtlfdjpgghiemfaaGreatDoorProg
import Derived.Test.YtlfdjpgghiemfaaGreatDoorH1
import Derived.WalkLawsBesides
import Derived.WalkSpells
import Derived.Deep.Light
import Derived.RangeFuncBox
import Derived.Lib.SlTrimSet
set_option maxHeartbeats 2000000
set_option maxRecDepth 100000
namespace Go.Proofs.YtlfdjpgghiemfaaGreatDoor
namespace eu
open Go.RowKit Mem gT
theorem Hu:Elem Tryz.prog 98 5 1 1:=Elem.mk Tryz.underlying98 (by kernel_rfl:(Tryz.prog.info? 5).map (fun i=>(i.zero,i.size,i.bytes))=some (some (.int .u8 0),1,1)) rfl (by decide)
def leftOf (l:List Nat):Nat:=8*((l.length+7)/8)-l.length
def u8s (l:List Nat):List Value:=l.map fun n:Nat=>Value.int .u8 (n:Int)
def BN (T:Nat) (w:World) (g:Nat) (p:Nat→Prop) (l:List Nat):Prop :=
 (∀ k,p k→k<w.heap.size∧k≠g)∧∃ v,w.heap[g]? = some (.cells #[v,.int .i64 (leftOf l)] T (0,0))∧(∀ k,v.ownBlock=some k→¬ p k∧k≠g)∧w.ownsRow 0 5 1 v (aZ l).length (u8s (aZ l))
abbrev WO:=BN 237
def UM (T:Nat) (w:World) (g:Nat) (p:Nat→Prop) (l:List Nat) (r cap:Nat):Prop :=
 (∀ k,p k→k<w.heap.size∧k≠g)∧w.heap[g]? = some (.cells #[.slice (some ⟨r,0,none⟩) (l.length/8+1) cap,.int .i64 ((7-l.length % 8:Nat):Int)] T (0,0))∧¬ p r∧r≠g∧w.ownsRow 0 5 1 (.slice (some ⟨r,0,none⟩) (l.length/8+1) cap) (l.length/8+1) (u8s (gM l))
section
variable {T:Nat}
variable {p:Nat→Prop} {l:List Nat} {w:World} {g:Nat}
theorem KW {r cap:Nat} (h:UM T w g p l r cap) (b:Nat):BN T (w.setCell ⟨r,l.length/8,none⟩ (.int .u8 ((bJ l (l.length/8)+b*2^(7-l.length % 8):Nat):Int))) g p (l++[b]):=by
 obtain ⟨hp,hg,hr,hrg,hown⟩:=h
 refine ⟨fun k hk=>⟨by simpa [World.setCell] using (hp k hk).1,(hp k hk).2⟩,.slice (some ⟨r,0,none⟩) (l.length/8+1) cap,?_,?_,?_⟩
 ·rw [heap_setCell_other _ _ _ _ (by simpa using hrg.symm),hg]
  simp only [leftOf,List.length_append,List.length_singleton]
  rw [show 8*((l.length+1+7)/8)-(l.length+1)=7-l.length % 8 from by omega]
 ·intro k hk;simp only [Value.ownBlock,Option.some.injEq] at hk;subst hk;exact ⟨hr,hrg⟩
 ·rw [dH,List.length_append,List.length_singleton,show (l.length+1+7)/8=l.length/8+1 from by omega,BR]
  have:=(hown.stored (l.length/8) (.int .u8 ((bJ l (l.length/8)+b*2^(7-l.length % 8):Nat):Int))).1
  simpa [u8s,List.map_set] using this
theorem Wm (h:BN T w g p l) (hl:l.length % 8≠0):∃ r cap,w.heap[g]? = some (.cells #[.slice (some ⟨r,0,none⟩) (l.length/8+1) cap,.int .i64 ((7-l.length % 8+1:Nat):Int)] T (0,0))∧UM T (w.setCell ⟨g,1,none⟩ (.int .i64 ((7-l.length % 8:Nat):Int))) g p l r cap:=by
 obtain ⟨hp,v,hg,hv,hown⟩:=h
 have hn:(aZ l).length=l.length/8+1:=by rw [dH];omega
 rw [hn,← Dq hl] at hown
 obtain ⟨r,cap,rfl⟩:=ownsRow_succ hown
 obtain ⟨hr,hrg⟩:=hv r rfl
 have hg':w.heap[g]? = some (.cells #[.slice (some ⟨r,0,none⟩) (l.length/8+1) cap,.int .i64 ((7-l.length % 8+1:Nat):Int)] T (0,0)):=by
  rw [hg];unfold leftOf;rw [show 8*((l.length+7)/8)-l.length=7-l.length % 8+1 from by omega]
 exact ⟨r,cap,hg',fun k hk=>⟨by simpa [World.setCell] using (hp k hk).1,(hp k hk).2⟩,wL hg' _,hr,hrg,ownsRow_setCell_other hown (by simpa [Value.ownBlock] using hrg) _⟩
theorem Vl {w1:World} {o:Obj} {v v1:Value} (hp:∀ k,p k→k<w.heap.size∧k≠g) (hg:w.heap[g]? = some (.cells #[v,.int .i64 (0:Int)] T (0,0))) (hv:∀ k,v.ownBlock=some k→¬ p k∧k≠g) (hl:l.length % 8=0) (ho:w1.ownsRow 0 5 1 v1 ((aZ l).length+1) (u8s (aZ l)++[.int .u8 0])) (gr:(w.alloc o).grownBy w1 v.ownBlock) (ha:v1.ownBlock=v.ownBlock∨v1.ownBlock=some (w.alloc o).heap.size):
  ∃ r cap,v1 = .slice (some ⟨r,0,none⟩) (l.length/8+1) cap∧w1.heap[g]? = some (.cells #[v,.int .i64 (0:Int)] T (0,0))∧UM T (((w1.setCell ⟨g,0,none⟩ v1).setCell ⟨g,1,none⟩ (.int .i64 8)).setCell ⟨g,1,none⟩ (.int .i64 7)) g p l r cap∧Kept p w (((w1.setCell ⟨g,0,none⟩ v1).setCell ⟨g,1,none⟩ (.int .i64 8)).setCell ⟨g,1,none⟩ (.int .i64 7)):=by
 have hgl:=block_lt hg
 have hn:(aZ l).length+1=l.length/8+1:=by rw [dH];omega
 have hz:u8s (aZ l)++[.int .u8 0]=u8s (gM l):=by rw [Da hl];simp [u8s]
 rw [hn,hz] at ho
 obtain ⟨r,cap,rfl⟩:=ownsRow_succ ho
 have hr:¬ p r∧r≠g:=by
  rcases ha with ha|ha
  ·exact hv r (by rw [← ha];rfl)
  ·simp [Value.ownBlock] at ha
   subst ha
   exact ⟨fun h=>absurd (hp _ h).1 (by omega),by omega⟩
 have hvg:v.ownBlock≠some g:=fun e=>(hv g e).2 rfl
 have h1:w1.heap[g]? = some (.cells #[v,.int .i64 (0:Int)] T (0,0)):=by
  rw [gr.block g (by simp;omega) (fun e=>hvg e.symm),Below.heap_alloc w o g hgl,hg]
 have hk:Kept p w w1:=((Kept.refl p w).alloc o).grown gr (fun k e hp'=>absurd hp' (hv k e).1)
 refine ⟨r,cap,rfl,h1,⟨fun k hk'=>⟨?_,(hp k hk').2⟩,?_,hr.1,hr.2,?_⟩,?_⟩
 ·have:=hk.size;have:=(hp k hk').1;simp [World.setCell];omega
 ·rw [hl];exact wL (wL (TT h1 _) _) _
 ·have hne:(Value.slice (some ⟨r,0,none⟩) (l.length/8+1) cap).ownBlock≠some g:=by simpa [Value.ownBlock] using hr.2
  exact ownsRow_setCell_other (ownsRow_setCell_other (ownsRow_setCell_other ho hne _) hne _) hne _
 ·have hq:p g→w.heap.size≤g:=fun h=>absurd rfl (hp g h).2
  exact ((hk.setCell hq _).setCell hq _).setCell hq _
theorem A7 (x b f:Nat) (hr:x % 2^(f+1)=0) (hb:b<2):x ||| (b*2^f)=x+b*2^f:=by
 refine nat_join (f+1) x _ hr ?_
 have:0<2^f:=Nat.two_pow_pos f
 rw [Nat.pow_succ,Nat.mul_comm];exact Nat.mul_lt_mul_of_pos_left hb this
theorem Qc (x b f:Nat) (hx:x<256) (hb:b<2) (hf:f≤7) (h:x ||| (b*2^f)=x+b*2^f):bits BinOp.or IntKind.u8 (x:Int) (IntKind.u8.wrap (IntKind.u8.wrap (b:Int)*2^f))=((x+b*2^f:Nat):Int):=by
 have hp:2^f≤2^7:=Nat.pow_le_pow_right (by omega) hf
 have h1:b*2^f<256:=by
  have:b*2^f≤1*2^f:=Nat.mul_le_mul_right _ (by omega)
  omega
 have e1:IntKind.u8.wrap (b:Int)=((b:Nat):Int):=by rw [IntKind.wrap_u8'];omega
 have e2:IntKind.u8.wrap (((b:Nat):Int)*2^f)=((b*2^f:Nat):Int):=by
  have e:((b:Nat):Int)*2^f=((b*2^f:Nat):Int):=by simp
  rw [e,IntKind.wrap_u8'];omega
 rw [e1,e2,u8_or_nat x (b*2^f) hx h1,h]
theorem U1 (n k:Nat) (hn:n<18446744073709551616):bits .and .u64 ((n:Int)/2^k) 1=((n/2^k % 2:Nat):Int):=by
 have e:((n:Int)/2^k)=((n/2^k:Nat):Int):=by simp
 rw [e,show (1:Int)=((1:Nat):Int) from rfl,u64_and_nat _ 1 (Nat.lt_of_le_of_lt (Nat.div_le_self _ _) hn) (by omega),nat_mask1]
theorem ZT (g:Nat) (p:Nat→Prop) (l:List Nat) (n W:Nat) (hn:n<18446744073709551616) (hW:W≤64) (w:World) (hl:Bin l) (hlen:l.length+W≤1125899906842624) (h:BN T w g p l) :
  Calls Tryz.prog 195 #[.pointer (some ⟨g,0,none⟩),.int .u64 n,.int .i64 W] w (fun e w'=>e = .returned (.tuple #[])∧BN T w' g p (l++bitsOf n W)∧Kept p w w'):=by
 go_enter Tryz.func195,Tryz.ntmps195
 go_wp2_with fail
 go_loopw [6] (fun i wr=>∃ (k:Nat) (pre:List Nat),k≤W∧i = .int .i64 ((k:Int)-1)∧pre++bitsOf n k=bitsOf n W∧BN T wr g p (l++pre)∧Kept p w wr) (fun i _=>(intOf i+1).toNat)
 case atStart=>exact ⟨W,[],Nat.le_refl _,rfl,rfl,by simpa using h,Kept.refl _ _⟩
 case round =>
  obtain ⟨k,pre,hk,rfl,hpre,hsink,hkept⟩:=hrel
  have hlp:(l++pre).length+k=l.length+W:=by
   have:=congrArg List.length hpre;simp [bG] at this;simp;omega
  have hbin:Bin (l++pre):=hl.app (Bin.left (by rw [hpre];exact bY n W))
  have HP:=Lib.hid hpre;clear hpre
  rcases k with _|k
  ·go_wp2_with fail
   go_end0
   have e1:=HP.out
   simp only [bitsOf,List.append_nil] at e1
   rw [← e1]
   exact ⟨rfl,hsink,hkept⟩
  ·generalize hm:l++pre=m at hsink hlp hbin
   have HM:=Lib.hid hm;clear hm
   have hmq:m.length/8+1≤140737488355328:=by omega
   have HL:=Lib.hid hlp;clear hlp
   by_cases hfr:m.length % 8=0
   ·obtain ⟨hp,v,hg,hv,hown⟩:=hsink
    have hf0:leftOf m=0:=by unfold leftOf;omega
    rw [hf0] at hg
    obtain ⟨c0,c1,f0,f1⟩:=iN hg
    have hps:(aZ m).length+1≤140737488355328:=by rw [dH];omega
    have Hg:=Lib.hid hg;have HF:=Lib.hid hf0;have HR:=Lib.hid hfr;clear hg hf0 hfr
    go_wp2_with (first
     | (at_builtin
        refine aa9 Hu rfl (.tmp 23) (.tmp 24) rfl 0 v (aZ m).length _ rfl (hown.alloc _) ⟨wr.heap.size,0,none⟩ 1 1 [.int .u8 0] (wr.heap.size+1) rfl rfl (Row.lit wr _ [.int .u8 0] _ (by omega)) (by simp [Value.oneCell']) (by omega) (by omega) (Nat.zero_le _) ?_
        intro v1 w1 o1 g1 a1
        obtain ⟨r,cap,rfl,hg1,hroom,hk1⟩:=Vl hp Hg.out hv HR.out o1 g1 a1
        obtain ⟨d0,d1,e0,e1⟩:=iN hg1
        have Hg1:=Lib.hid hg1;have HO:=Lib.hid o1;have HA:=Lib.hid a1
        have HQ:=Lib.hid hroom;have HK:=Lib.hid hk1
        clear hg1 o1 a1 hroom hk1 c0 c1 f0 f1))
    have hroom:=HQ.out;have hk1:=HK.out
    clear HQ HK HO HA Hg1 d0 d1 e0 e1 g1 hown Hg
    generalize (((w1.setCell ⟨g,0,none⟩ (Value.slice (some ⟨r,0,none⟩) (m.length/8+1) cap)).setCell ⟨g,1,none⟩ (Value.int .i64 8)).setCell ⟨g,1,none⟩ (Value.int .i64 7))=wq at hroom hk1 ⊢
    obtain ⟨hpq,hgq,hr,hrg,hownq⟩:=hroom
    obtain ⟨c0,c1,f0,f1⟩:=iN hgq
    have hx:=lU hbin (m.length/8)
    have c2:wq.cell? ⟨r,m.length/8,none⟩=some (.int .u8 ((bJ m (m.length/8):Nat):Int)):=by
     rw [hownq.cellAt (m.length/8) (by omega)];simp [u8s,zJ]
    have f2:=hownq.frozenAt (m.length/8)
    have hput:=KW ⟨hpq,hgq,hr,hrg,hownq⟩ (n/2^k % 2)
    have hor:=A7 (bJ m (m.length/8)) (n/2^k % 2) (7-m.length % 8) (by have:=qU m;rwa [show 8-m.length % 8=7-m.length % 8+1 from by omega] at this) (by omega)
    have hbit:=U1 n k hn
    have hb2:n/2^k % 2<2:=by omega
    have hbl:bitsOf n (k+1)=[n/2^k % 2]++bitsOf n k:=rfl
    have HBL:=Lib.hid hbl
    clear hbl
    have hfin:=Qc (bJ m (m.length/8)) (n/2^k % 2) (7-m.length % 8) hx hb2 (by omega) hor
    generalize bJ m (m.length/8)+n/2^k % 2*2^(7-m.length % 8)=y at hput hfin
    have Hput:=Lib.hid hput
    clear hput hor hgq hownq hpq hbin
    generalize bJ m (m.length/8)=x at hx c2 hfin
    generalize m.length/8=q at hmq c0 c2 f2 Hput ⊢
    have hf7:7-m.length % 8≤7:=by omega
    generalize 7-m.length % 8=f at c1 hfin hf7 ⊢
    generalize n/2^k % 2=b at hbit Hput hb2 HBL hfin
    have hb3:(0:Int)≤(b:Int):=by omega
    have hb4:(b:Int)<2:=by omega
    have hw1:IntKind.i64.wrap (q:Int)=q:=IntWalk.i64_in _ (by omega)
    have hw2:(0:Int)≤(q:Int):=by omega
    have hw3:(q:Int)<(q:Int)+1:=by omega
    refine Seq.vO (S:=fun w'=>w'.cell? ⟨g,0,none⟩=some (.slice (some ⟨r,0,none⟩) (q+1) cap)∧w'.cell? ⟨g,1,none⟩=some (.int .i64 (f:Int)))
     [(0,false),(1,false),(2,false),(3,false),(4,false),(5,false),(6,false),(7,false),(8,false),(9,false),(10,false),(12,false),(13,false),(14,false),(15,false),(16,false),(17,false),(18,false),(19,false),(20,false),(21,false),(11,true),(22,false),(23,false),(24,true)]
     (by kernel_rfl) (by kernel_rfl) (fun _ _ d _ _ h=>by cases d<;>exact h) ⟨c0,c1⟩ ?_
    simp only [Seq.lay,List.getElem?_cons_zero,List.getElem?_cons_succ]
    repeat (first
     | (refine Seq.kM (v := ?_) (by rfl) ?_ ?_
        rotate_left
        ·(intro w' hS;obtain ⟨s0,s1⟩:=hS;go_simp;with_reducible rfl)
        simp only [Act.put,List.setIfInBounds_toArray,List.set_cons_zero,List.set_cons_succ]))
    refine Seq.tL (by rfl) (fun K hK=>?_)
    go_simp
    refine hK _ _ ⟨c0,c1⟩ ?_
    clear hK K
    repeat (first
     | (refine Seq.kM (v := ?_) (by rfl) ?_ ?_
        rotate_left
        ·(intro w' hS;obtain ⟨s0,s1⟩:=hS;go_simp;with_reducible rfl)
        simp only [Act.put,List.setIfInBounds_toArray,List.set_cons_zero,List.set_cons_succ]))
    refine Seq.tL (by rfl) (fun K hK=>?_)
    go_simp
    refine hK _ _ ⟨?_,?_⟩ ?_
    ·exact (World.cell?_of_block (w:=wq) (heap_setCell_other _ _ _ _ (by simpa using hrg.symm))).trans c0
    ·exact (World.cell?_of_block (w:=wq) (heap_setCell_other _ _ _ _ (by simpa using hrg.symm))).trans c1
    clear hK K
    refine Seq.uf ?_
    go_wp2_with fail
    go_roundw
    case rel =>
     refine ⟨k,pre++[b],by omega,by go_num,?_,?_,(hkept.trans hk1).setCell (fun h=>absurd h hr) _ |>.drew⟩
     ·rw [← HP.out,HBL.out,List.append_assoc]
     ·rw [← List.append_assoc,HM.out];exact Hput.out
    case measure=>simp [intOf]
   ·obtain ⟨r,cap,hg,hroom⟩:=Wm hsink hfr
    have hp:=hsink.1
    have hk1:Kept p wr (wr.setCell ⟨g,1,none⟩ (.int .i64 ((7-m.length % 8:Nat):Int))):=(Kept.refl p wr).setCell (fun h=>absurd rfl (hp g h).2) _
    obtain ⟨c0,c1,f0,f1⟩:=iN hg
    have hfe:(((7-m.length % 8+1:Nat):Int)==0)=false:=by simp;omega
    have hf7:7-m.length % 8≤7:=by omega
    have HQ:=Lib.hid hroom;have HK:=Lib.hid hk1;have HR:=Lib.hid hfr
    clear hg hroom hk1 hfr hsink hp
    generalize hfd:7-m.length % 8=fr at c1 hfe hf7 HQ HK
    have HFD:=Lib.hid hfd;clear hfd
    go_wp2_with fail
    have hroom:=HQ.out;have hk1:=HK.out
    clear HQ HK c0 c1 f0 f1
    generalize wr.setCell ⟨g,1,none⟩ (Value.int .i64 (fr:Int))=wq at hroom hk1 ⊢
    clear hf7 hfe
    obtain ⟨hpq,hgq,hr,hrg,hownq⟩:=hroom
    obtain ⟨c0,c1,f0,f1⟩:=iN hgq
    have hx:=lU hbin (m.length/8)
    have c2:wq.cell? ⟨r,m.length/8,none⟩=some (.int .u8 ((bJ m (m.length/8):Nat):Int)):=by
     rw [hownq.cellAt (m.length/8) (by omega)];simp [u8s,zJ]
    have f2:=hownq.frozenAt (m.length/8)
    have hput:=KW ⟨hpq,hgq,hr,hrg,hownq⟩ (n/2^k % 2)
    have hor:=A7 (bJ m (m.length/8)) (n/2^k % 2) (7-m.length % 8) (by have:=qU m;rwa [show 8-m.length % 8=7-m.length % 8+1 from by omega] at this) (by omega)
    have hbit:=U1 n k hn
    have hb2:n/2^k % 2<2:=by omega
    have hbl:bitsOf n (k+1)=[n/2^k % 2]++bitsOf n k:=rfl
    have HBL:=Lib.hid hbl
    clear hbl
    have hfin:=Qc (bJ m (m.length/8)) (n/2^k % 2) (7-m.length % 8) hx hb2 (by omega) hor
    generalize bJ m (m.length/8)+n/2^k % 2*2^(7-m.length % 8)=y at hput hfin
    have Hput:=Lib.hid hput
    clear hput hor hgq hownq hpq hbin
    generalize bJ m (m.length/8)=x at hx c2 hfin
    generalize m.length/8=q at hmq c0 c2 f2 Hput ⊢
    have hf7:7-m.length % 8≤7:=by omega
    generalize 7-m.length % 8=f at c1 hfin hf7 ⊢
    generalize n/2^k % 2=b at hbit Hput hb2 HBL hfin
    have hb3:(0:Int)≤(b:Int):=by omega
    have hb4:(b:Int)<2:=by omega
    have hw1:IntKind.i64.wrap (q:Int)=q:=IntWalk.i64_in _ (by omega)
    have hw2:(0:Int)≤(q:Int):=by omega
    have hw3:(q:Int)<(q:Int)+1:=by omega
    refine Seq.vO (S:=fun w'=>w'.cell? ⟨g,0,none⟩=some (.slice (some ⟨r,0,none⟩) (q+1) cap)∧w'.cell? ⟨g,1,none⟩=some (.int .i64 (f:Int)))
     [(0,false),(1,false),(2,false),(3,false),(4,false),(5,false),(6,false),(7,false),(8,false),(9,false),(10,false),(12,false),(13,false),(14,false),(15,false),(16,false),(17,false),(18,false),(19,false),(20,false),(21,false),(11,true),(22,false),(23,false),(24,true)]
     (by kernel_rfl) (by kernel_rfl) (fun _ _ d _ _ h=>by cases d<;>exact h) ⟨c0,c1⟩ ?_
    simp only [Seq.lay,List.getElem?_cons_zero,List.getElem?_cons_succ]
    repeat (first
     | (refine Seq.kM (v := ?_) (by rfl) ?_ ?_
        rotate_left
        ·(intro w' hS;obtain ⟨s0,s1⟩:=hS;go_simp;with_reducible rfl)
        simp only [Act.put,List.setIfInBounds_toArray,List.set_cons_zero,List.set_cons_succ]))
    refine Seq.tL (by rfl) (fun K hK=>?_)
    go_simp
    refine hK _ _ ⟨c0,c1⟩ ?_
    clear hK K
    repeat (first
     | (refine Seq.kM (v := ?_) (by rfl) ?_ ?_
        rotate_left
        ·(intro w' hS;obtain ⟨s0,s1⟩:=hS;go_simp;with_reducible rfl)
        simp only [Act.put,List.setIfInBounds_toArray,List.set_cons_zero,List.set_cons_succ]))
    refine Seq.tL (by rfl) (fun K hK=>?_)
    go_simp
    refine hK _ _ ⟨?_,?_⟩ ?_
    ·exact (World.cell?_of_block (w:=wq) (heap_setCell_other _ _ _ _ (by simpa using hrg.symm))).trans c0
    ·exact (World.cell?_of_block (w:=wq) (heap_setCell_other _ _ _ _ (by simpa using hrg.symm))).trans c1
    clear hK K
    refine Seq.uf ?_
    go_wp2_with fail
    go_roundw
    case rel =>
     refine ⟨k,pre++[b],by omega,by go_num,?_,?_,(hkept.trans hk1).setCell (fun h=>absurd h hr) _ |>.drew⟩
     ·rw [← HP.out,HBL.out,List.append_assoc]
     ·rw [← List.append_assoc,HM.out];exact Hput.out
    case measure=>simp [intOf]
end
end eu
namespace jL
open Go.RowKit Mem gT eu
def btx (l:List Nat):ByteArray:=⟨((aZ l).map UInt8.ofNat).toArray⟩
theorem VY {T:Nat} (g:Nat) (p:Nat→Prop) (l:List Nat) (w:World) (hl:Bin l) (h:BN T w g p l) :
  Calls Tryz.prog 196 #[.pointer (some ⟨g,0,none⟩)] w (fun e w'=>e = .returned (.string (btx l))∧w=w'):=by
 obtain ⟨hp,v,hg,hv,hown⟩:=h
 obtain ⟨c0,c1,f0,f1⟩:=iN hg
 have hb:∀ x∈aZ l,x<256:=fun x hx=>by
  simp only [aZ,List.mem_map] at hx
  obtain ⟨j,_,rfl⟩:=hx
  exact lU hl j
 unfold btx
 generalize aZ l=q at hown hb ⊢
 rcases hown.2 with ⟨rfl,h2⟩|⟨r,cap,cur,rfl,hg',hh,_⟩
 ·obtain rfl:q=[]:=List.eq_nil_of_length_eq_zero h2
  clear hg hown hp hv
  have kb:(convert 98 9 (.slice none 0 0)).run Tryz.prog w = .ok (.string ByteArray.empty) w:=run_convert_bytes_nil w 98 5 Tryz.underlying98 Tryz.underlying5 0 0 9 Tryz.underlying9
  clear hb f0 f1 h2 c1 hl
  go_enter Tryz.func196,Tryz.ntmps196
  go_wp2_with fail
  go_ret
  exact ⟨rfl,rfl⟩
 ·have kb:=run_convert_bytes_back (P:=Tryz.prog) w 98 9 5 ⟨r,0,none⟩ cap (q.map UInt8.ofNat) Tryz.underlying98 Tryz.underlying5 Tryz.underlying9 (fun j hj=>by
   have hj':j<q.length:=by simpa using hj
   have hx:=hb q[j] (List.getElem_mem hj')
   have hc:=hown.cellAt j (by omega)
   have e:(u8s q)[j]? = some (.int .u8 (((q.map UInt8.ofNat)[j]).toNat:Int)):=by
    simp [u8s,hj',UInt8.toNat_ofNat'];omega
   rw [e] at hc
   unfold Addr.add
   split
   ·subst_vars;exact hc
   ·simpa using hc)
  simp only [List.length_map] at kb
  clear hg hown hp hv hb hg' hh
  go_enter Tryz.func196,Tryz.ntmps196
  go_wp2_with fail
  go_ret
  exact ⟨rfl,rfl⟩
def BH (T:Nat) (w:World) (g:Nat) (s:ByteArray) (n:Nat):Prop:=w.heap[g]? = some (.cells #[.string s,.int .i64 (n:Int)] T (0,0))
abbrev Ca:=BH 196
section
variable {ty:Nat}
theorem BH.below {w w':World} {g:Nat} {s:ByteArray} {n:Nat} (h:BH ty w g s n) (hb:Below w.heap.size w w'):BH ty w' g s n:=(hb.block g (block_lt h)).trans h
theorem rZ (g:Nat) (s:ByteArray) (n:Nat) (w:World) (hs:8*s.size≤9223372036854775807) (hn:n≤8*s.size) (h:BH ty w g s n) :
  Calls Tryz.prog 236 #[.pointer (some ⟨g,0,none⟩)] w (fun e w'=>e = .returned (.int .i64 ((8*s.size-n:Nat):Int))∧Below w.heap.size w w'):=by
 obtain ⟨c0,c1,f0,f1⟩:=iN h
 have hw1:IntKind.i64.wrap (8*(s.size:Int))=8*(s.size:Int):=IntWalk.i64_in _ (by omega)
 have hw2:IntKind.i64.wrap (8*(s.size:Int)-(n:Int))=8*(s.size:Int)-(n:Int):=IntWalk.i64_in _ (by omega)
 have e:((8*s.size-n:Nat):Int)=8*(s.size:Int)-(n:Int):=by omega
 rw [e]
 clear h e
 go_enter Tryz.func236,Tryz.ntmps236
 go_wp2_with fail
 go_quiet (fail)
 go_wp2_with fail
 go_ret
 exact ⟨rfl,below_drewN (Below.refl _ _) _⟩
theorem X6 (n k:Nat) (hn:n<256):bits .and .u8 ((n:Int)/2^k) 1=((n/2^k % 2:Nat):Int):=by
 have e:((n:Int)/2^k)=((n/2^k:Nat):Int):=by simp
 rw [e,show (1:Int)=((1:Nat):Int) from rfl,u8_and_nat _ 1 (Nat.lt_of_le_of_lt (Nat.div_le_self _ _) hn) (by omega),nat_mask1]
theorem XM (N b:Nat) (hN:N<9223372036854775808) (hb:b<2):bits .or .u64 ((N:Int)*2) (b:Int)=((2*N+b:Nat):Int):=by
 rw [show (N:Int)*2=((2*N:Nat):Int) from by omega,u64_or_nat (2*N) b (by omega) (by omega),nat_join 1 (2*N) b (by omega) (by omega)]
theorem F9 (l:List Nat) (i k b:Nat) (h:l[i+k]? = some b):(l.drop i).take (k+1)=(l.drop i).take k++[b]:=by
 obtain ⟨hl,rfl⟩:=List.getElem?_eq_some_iff.1 h
 rw [List.take_succ_eq_append_getElem (by simp;omega)]
 simp
theorem O8 (g:Nat) (s:ByteArray) (n W:Nat) (w:World) (hs:8*s.size≤9223372036854775807) (hW:W≤64) (hn:n+W≤8*s.size) (h:BH ty w g s n) :
  Calls Tryz.prog 237 #[.pointer (some ⟨g,0,none⟩),.int .i64 W] w (fun e w'=>e = .returned (.int .u64 (num (((aF s.data.toList).drop n).take W)))∧BH ty w' g s (n+W)∧Kept (· ≠ g) w w'):=by
 have hbin:=lT s.data.toList
 have hsl:s.data.toList.length=s.size:=by simp
 have htb:=fun i (hi:i<8*s.data.toList.length)=>BO s.data.toList i hi
 have HTB:=Lib.hid htb;have HSL:=Lib.hid hsl;clear htb hsl
 generalize aF s.data.toList=T at hbin HTB ⊢
 go_enter Tryz.func237,Tryz.ntmps237
 go_wp2_with fail
 go_loopw [4,7] (fun v i wr=>∃ k:Nat,k≤W∧i = .int .i64 k∧v = .int .u64 (num ((T.drop n).take k))∧BH ty wr g s (n+k)∧Kept (· ≠ g) w wr) (fun _ i _=>W-(intOf i).toNat)
 case atStart=>exact ⟨0,Nat.zero_le _,rfl,rfl,h,Kept.refl _ _⟩
 case round =>
  obtain ⟨k,hk,rfl,rfl,hsrc,hkept⟩:=hrel
  have hlt64:num ((T.drop n).take k)<2^k:=Nat.lt_of_lt_of_le (qE (fun b hb=>hbin b (List.mem_of_mem_drop (List.mem_of_mem_take hb)))) (Nat.pow_le_pow_right (by omega) (List.length_take_le _ _))
  by_cases hlt:k<W
  ·obtain ⟨c0,c1,f0,f1⟩:=iN hsrc
   have hq:(n+k)/8<s.size:=by omega
   have hb:=HTB.out (n+k) (by rw [HSL.out];omega)
   have htk:=F9 T n k _ hb
   have hns:=kz ((T.drop n).take k) (s.data.toList[(n+k)/8].toNat/2^(7-(n+k) % 8) % 2)
   rw [← htk] at hns
   have HNS:=Lib.hid hns;have HSRC:=Lib.hid hsrc
   clear hns htk hb hsrc
   have HN:=Lib.hid hn
   generalize hi0:n+k=i0 at c1 hq HNS HSRC hkept
   have HI:=Lib.hid hi0
   have hi1:(i0:Int)+1≤9223372036854775807:=by omega
   clear hi0 hn
   have hc256:s[i0/8].toNat<256:=UInt8.toNat_lt _
   have hidx:s.data.toList[i0/8]=s[i0/8]:=rfl
   rw [hidx] at HNS
   clear hidx
   have hd:IntKind.i64.wrap ((i0:Int)/8)=((i0/8:Nat):Int):=by rw [IntWalk.i64_in _ (by omega)];omega
   have hr:(i0:Int).tmod 8=((i0 % 8:Nat):Int):=by rw [Int.tmod_eq_emod_of_nonneg (by omega)];omega
   have hf:IntKind.i64.wrap (7-((i0 % 8:Nat):Int))=((7-i0 % 8:Nat):Int):=by rw [IntWalk.i64_in _ (by omega)];omega
   have hf7:7-i0 % 8≤7:=by omega
   generalize 7-i0 % 8=f at hf hf7 HNS
   generalize i0 % 8=r at hr hf
   obtain ⟨q,hqe⟩:∃ q,q=i0/8:=⟨_,rfl⟩
   have hql:q<s.size:=by omega
   have hcq:s[i0/8]=s[q]:=by subst hqe;rfl
   rw [hcq] at HNS hc256
   rw [← hqe] at hd
   have HQ:=Lib.hid hqe
   clear hqe hcq hq
   have hq2:(q:Int)<(s.size:Int):=by omega
   have hq3:(0:Int)≤(q:Int):=by omega
   have hbit:=X6 s[q].toNat f hc256
   have hb2:s[q].toNat/2^f % 2<2:=by omega
   have hN:num ((T.drop n).take k)<9223372036854775808:=Nat.lt_of_lt_of_le hlt64 (Nat.le_trans (Nat.pow_le_pow_right (by omega) (show k≤63 by omega)) (by decide))
   generalize s[q].toNat/2^f % 2=b at hbit hb2 HNS
   generalize num ((T.drop n).take k)=N at hN HNS hlt64
   have HOR:=Lib.hid (XM N b hN hb2)
   go_wp2_with fail
   refine Seq.vO (S:=fun w'=>w'.cell? ⟨g,0,none⟩=some (.string s)∧w'.cell? ⟨g,1,none⟩=some (.int .i64 (i0:Int)))
    [(0,false),(1,false),(2,false),(3,false),(4,false),(5,false),(6,false),(7,false),(8,false),(9,false),(10,false),(11,false),(12,false),(13,false),(14,false),(15,false),(16,false),(17,false),(18,false)]
    (by kernel_rfl) (by kernel_rfl) (fun _ _ d _ _ h=>by cases d<;>exact h) ⟨c0,c1⟩ ?_
   simp only [Seq.lay,List.getElem?_cons_zero,List.getElem?_cons_succ]
   repeat (first
    | (refine Seq.kM (v := ?_) (by rfl) ?_ ?_
       rotate_left
       ·(intro w' hS;obtain ⟨s0,s1⟩:=hS;go_simp;with_reducible rfl)
       simp only [Act.put,List.setIfInBounds_toArray,List.set_cons_zero,List.set_cons_succ]))
   refine Seq.uf ?_
   go_wp2_with fail
   go_roundw
   case rel =>
    refine ⟨k+1,by omega,by go_num,by rw [HOR.out,HNS.out],?_,(hkept.setCell (fun h=>absurd rfl h) _).drew⟩
    have h1:=wL HSRC.out (.int .i64 ((i0:Int)+1))
    have h2:=HI.out
    unfold BH
    rw [show ((n+(k+1):Nat):Int)=(i0:Int)+1 from by omega]
    exact h1
   case measure=>simp [intOf];omega
  ·obtain rfl:k=W:=by omega
   go_wp2_with fail
   go_ret
   exact ⟨rfl,hsrc,hkept⟩
end
end jL
namespace bX
def jK (c:UInt8):UInt8:=if 65≤c.toNat∧c.toNat≤90 then UInt8.ofNat (c.toNat+32) else c
def fold (l:List UInt8):List UInt8:=l.map jK
theorem zb (c:UInt8):(jK c).toNat=if 65≤c.toNat∧c.toNat≤90 then c.toNat+32 else c.toNat:=by
 unfold jK
 split
 ·rw [UInt8.toNat_ofNat'];omega
 ·rfl
theorem KE (a b:List UInt8):fold (a++b)=fold a++fold b:=by simp [fold]
def nT (c:UInt8):Bool:=c.toNat==32||c.toNat==9
def ve (p:UInt8→Bool) (l:List UInt8):List UInt8:=(l.reverse.dropWhile p).reverse
theorem Bw (p:UInt8→Bool) (l:List UInt8) (c:UInt8):(l++[c]).dropWhile p=if l.dropWhile p=[] then (if p c then [] else [c]) else l.dropWhile p++[c]:=by
 induction l with
 | nil=>simp [List.dropWhile_cons]
 | cons a l ih =>
  rw [List.cons_append,List.dropWhile_cons,List.dropWhile_cons]
  cases p a with
  | true=>simpa using ih
  | false=>simp
theorem vE (p:UInt8→Bool) (c:UInt8) (l:List UInt8):ve p (c::l)=if ve p l=[] then (if p c then [] else [c]) else c::ve p l:=by
 unfold ve
 rw [List.reverse_cons,Bw]
 by_cases h:l.reverse.dropWhile p=[]
 ·simp only [h,if_true,List.reverse_nil];cases p c<;>simp
 ·simp [h]
theorem M4 (p:UInt8→Bool) (l:List UInt8):(ve p l).dropWhile p=ve p (l.dropWhile p):=by
 induction l with
 | nil=>rfl
 | cons c l ih =>
  rw [vE,List.dropWhile_cons]
  cases hp:p c with
  | true =>
   simp only [if_true]
   by_cases h:ve p l=[]
   ·rw [if_pos h,← ih,h]
   ·rw [if_neg h,List.dropWhile_cons,hp];simpa using ih
  | false =>
   by_cases h:ve p l=[]
   ·rw [if_pos h];simp only [Bool.false_eq_true,if_false];rw [vE,if_pos h,hp];simp [hp]
   ·rw [if_neg h];simp only [Bool.false_eq_true,if_false];rw [vE,if_neg h,List.dropWhile_cons,hp];simp
def trim (l:List UInt8):List UInt8:=ve nT (l.dropWhile nT)
theorem QF (c:UInt8):[32,9].contains c=nT c:=by
 unfold nT
 have e1:(c==32)=(c.toNat==32):=by rw [Bool.eq_iff_iff,beq_iff_eq,beq_iff_eq];exact ⟨fun h=>by rw [h];rfl,fun h=>UInt8.toNat_inj.1 h⟩
 have e2:(c==9)=(c.toNat==9):=by rw [Bool.eq_iff_iff,beq_iff_eq,beq_iff_eq];exact ⟨fun h=>by rw [h];rfl,fun h=>UInt8.toNat_inj.1 h⟩
 rw [← e1,← e2];simp
 rw [Bool.eq_iff_iff];simp
theorem VE (l:List UInt8):Lib.trimS l [32,9]=trim l:=by
 unfold Lib.trimS Lib.trimLeftS Lib.trimRightS trim
 have e:(fun c:UInt8=>[32,9].contains c)=nT:=funext QF
 rw [e]
 exact M4 nT l
end bX
namespace yP
open Go.RowKit Mem
theorem rW (n:Int) (w:World) (h0:0≤n) (h1:n<256) :
  Calls Tryz.prog 154 #[.int .i64 n] w (Gives (.string ⟨#[UInt8.ofNat n.toNat]⟩) w):=by
 have hn:((UInt8.ofNat n.toNat).toNat:Int)=n:=by rw [UInt8.toNat_ofNat'];omega
 have kb:(convert 98 9 (.slice (some ⟨w.heap.size,0,none⟩) 1 1)).run Tryz.prog (w.alloc (.cells #[.int .u8 n] 5)) = .ok (.string ⟨#[UInt8.ofNat n.toNat]⟩) (w.alloc (.cells #[.int .u8 n] 5)) :=
  run_convert_bytes_back (P:=Tryz.prog) _ 98 9 5 ⟨w.heap.size,0,none⟩ 1 [UInt8.ofNat n.toNat] Tryz.underlying98 Tryz.underlying5 Tryz.underlying9 (fun j hj=>by
   obtain rfl:j=0:=by simpa using hj
   simp only [List.getElem_cons_zero,hn]
   simp [Addr.add,World.cell?_alloc_new])
 generalize UInt8.ofNat n.toNat=c at kb ⊢
 clear hn
 go_enter Tryz.func154,Tryz.ntmps154
 go_wp2_with fail
 go_ret
 exact ⟨rfl,(Below.refl _ _).alloc (Nat.le_refl _) _⟩
end yP
namespace om
open Go.RowKit Mem bX yP
variable {w:World} {s:ByteArray} {k g:Nat}
theorem qA (s:ByteArray) (k:Nat) (h:k<s.size):s.data.toList.take (k+1)=s.data.toList.take k++[s[k]]:=by
 rw [List.take_succ_eq_append_getElem (by simpa using h)];rfl
theorem Ob (s:ByteArray) (k:Nat) (h:k<s.size):s.data.toList.drop k=s[k]::s.data.toList.drop (k+1):=List.drop_eq_getElem_cons (by simpa using h)
theorem mkB (s:ByteArray):(⟨s.data.toList.toArray⟩:ByteArray)=s:=by apply ByteArray.ext;simp
def str (l:List UInt8):ByteArray:=⟨l.toArray⟩
theorem Xt (a:List UInt8) (c:UInt8):str (a++[c])=str a++⟨#[c]⟩:=by
 apply ByteArray.ext;simp [str,ByteArray.data_append]
theorem aM (l:List UInt8):(str l).size=l.length:=by simp [str,ByteArray.size]
theorem CW (w:World) (g i:Nat) (cs:Array Value) (t:TypeId) (fr:Nat × Nat) (v:Value) (hg:w.heap[g]? = some (.cells cs t fr)) :
  (w.setCell ⟨g,i,none⟩ v).heap[g]? = some (.cells (cs.setIfInBounds i v) t fr):=by
 rw [setCell_eq_setRow w g i cs t fr v hg]
 exact setRow_heap w g cs _ t _ hg
def qx (w:World) (g:Nat) (s:ByteArray) (k:Nat):Prop :=
 ∃ C:Array Value,w.heap[g]? = some (.cells C 5 (C.size,C.size+1))∧s.size≤C.size∧∀ j (hj:j<s.size),C[j]? = some (.int .u8 ((if j<k then jK s[j] else s[j]).toNat:Int))
theorem FC (h:qx w g s k) (j:Nat) (hj:j<s.size):w.cell? ⟨g,j,none⟩=some (.int .u8 ((if j<k then jK s[j] else s[j]).toNat:Int))∧w.frozen? ⟨g,j,none⟩=false:=by
 obtain ⟨C,h1,h2,h3⟩:=h
 have h4:=h3 j hj
 constructor
 ·simp [World.cell?,h1,h4]
 ·simp [World.frozen?,h1];omega
theorem WC (h:qx w g s k) (hk:k<s.size):qx (w.setCell ⟨g,k,none⟩ (.int .u8 ((jK s[k]).toNat:Int))) g s (k+1):=by
 obtain ⟨C,h1,h2,h3⟩:=h
 refine ⟨C.setIfInBounds k (.int .u8 ((jK s[k]).toNat:Int)),?_,by simpa using h2,fun j hj=>?_⟩
 ·have h4:=CW w g k _ _ _ (.int .u8 ((jK s[k]).toNat:Int)) h1
  simpa using h4
 ·by_cases e:j=k
  ·subst e
   rw [Array.getElem?_setIfInBounds_self_of_lt (by omega),if_pos (by omega)]
  ·rw [Array.getElem?_setIfInBounds_ne (by omega),h3 j hj]
   by_cases hlt:j<k
   ·rw [if_pos hlt,if_pos (by omega)]
   ·rw [if_neg hlt,if_neg (by omega)]
theorem Sd (h:qx w g s k) (hk:k<s.size) (he:jK s[k]=s[k]):qx w g s (k+1):=by
 obtain ⟨C,h1,h2,h3⟩:=h
 refine ⟨C,h1,h2,fun j hj=>?_⟩
 rw [h3 j hj]
 by_cases e:j=k
 ·subst e;rw [if_neg (by omega),if_pos (by omega),he]
 ·by_cases hlt:j<k
  ·rw [if_pos hlt,if_pos (by omega)]
  ·rw [if_neg hlt,if_neg (by omega)]
theorem UJ (s:ByteArray) (w:World) (hs:s.size≤4611686018427387904) :
  Calls Tryz.prog 120 #[.string s] w (Gives (.string (str (fold s.data.toList))) w):=by
 have kc:=fun (w:World) (s:ByteArray)=>run_bytes_of_string (P:=Tryz.prog) w 9 98 5 s Tryz.underlying9 Tryz.underlying98 Tryz.underlying5
 have kb:=fun (w:World) (g cap:Nat) (l:List UInt8) h=>run_convert_bytes_back (P:=Tryz.prog) w 98 9 5 ⟨g,0,none⟩ cap l Tryz.underlying98 Tryz.underlying5 Tryz.underlying9 h
 have KB:=Lib.hid kb
 clear kb
 go_enter Tryz.func120,Tryz.ntmps120
 go_wp2_with fail
 have hrow:qx (w.alloc (.cells (bytesRow s (grownCap w s.size 0 5)) 5 ((bytesRow s (grownCap w s.size 0 5)).size,(bytesRow s (grownCap w s.size 0 5)).size+1))).drew w.heap.size s 0:=by
  refine ⟨_,heap_alloc_new w _,by simp [bytesRow],fun j hj=>?_⟩
  rw [bytesRow_at s _ j (by simpa using hj),if_neg (by omega)];rfl
 have hb0:Below w.heap.size w (w.alloc (.cells (bytesRow s (grownCap w s.size 0 5)) 5 ((bytesRow s (grownCap w s.size 0 5)).size,(bytesRow s (grownCap w s.size 0 5)).size+1))).drew:=((Below.refl _ w).alloc (Nat.le_refl _) _).drew
 generalize (w.alloc (.cells (bytesRow s (grownCap w s.size 0 5)) 5 ((bytesRow s (grownCap w s.size 0 5)).size,(bytesRow s (grownCap w s.size 0 5)).size+1))).drew=w1 at hrow hb0 ⊢
 generalize grownCap w s.size 0 5=C
 clear kc
 go_loopw [10] (fun i wr=>∃ k:Nat,k≤s.size∧i = .int .i64 k∧qx wr w.heap.size s k∧Below w.heap.size w wr) (fun i _=>s.size-(intOf i).toNat)
 case atStart=>exact ⟨0,Nat.zero_le _,rfl,hrow,hb0⟩
 case round =>
  obtain ⟨k,hk,rfl,hh,hb⟩:=hrel
  by_cases hlt:k<s.size
  ·obtain ⟨c0,f0⟩:=FC hh k hlt
   rw [if_neg (by omega)] at c0
   have hc256:s[k].toNat<256:=UInt8.toNat_lt _
   have hnat:=zb s[k]
   have HH:=Lib.hid hh
   have hk1:(0:Int)≤(k:Int):=by omega
   have hk2:(k:Int)<(s.size:Int):=by omega
   by_cases hup:65≤s[k].toNat∧s[k].toNat≤90
   ·have hset:=WC hh hlt
    rw [if_pos hup] at hnat
    have hi:((jK s[k]).toNat:Int)=(s[k].toNat:Int)+32:=by omega
    rw [hi] at hset
    have HS:=Lib.hid hset
    obtain ⟨u1,u2⟩:=hup
    clear hset hh hnat hi
    generalize s[k]=c at c0 hc256 u1 u2 HS
    go_wp2_with fail
    go_roundw
    case rel=>exact ⟨k+1,by omega,by go_num,HS.out,hb.setCell (Nat.le_refl _) _⟩
    case measure=>simp [intOf];omega
   ·have hkeep:jK s[k]=s[k]:=by
     rw [if_neg hup] at hnat
     exact UInt8.toNat_inj.1 hnat
    have HS:=Lib.hid (Sd hh hlt hkeep)
    clear hkeep hh hnat
    generalize s[k]=c at c0 hc256 hup
    by_cases u1:65≤c.toNat
    ·have u2:¬ c.toNat≤90:=fun h=>hup ⟨u1,h⟩
     clear hup
     go_wp2_with fail
     go_roundw
     case rel=>exact ⟨k+1,by omega,by go_num,HS.out,hb⟩
     case measure=>simp [intOf];omega
    ·have u3:decide ((65:Int)≤(c.toNat:Int))=false:=by simp;omega
     clear hup
     go_wp2_with fail
     go_roundw
     case rel=>exact ⟨k+1,by omega,by go_num,HS.out,hb⟩
     case measure=>simp [intOf];omega
  ·obtain rfl:k=s.size:=by omega
   have kb:=KB.out wr w.heap.size C (fold s.data.toList) (fun j hj=>by
    have hj':j<s.size:=by simpa [fold] using hj
    obtain ⟨c0,_⟩:=FC hh j hj'
    rw [if_pos hj'] at c0
    have e:(⟨w.heap.size,0,none⟩:Addr).add j=⟨w.heap.size,j,none⟩:=by
     unfold Addr.add
     split
     ·subst_vars;rfl
     ·simp
    rw [e,c0]
    simp [fold];rfl)
   have e:(fold s.data.toList).length=s.size:=by simp [fold]
   rw [e] at kb
   clear hh hrow
   go_wp2_with fail
   go_ret
   exact ⟨rfl,hb⟩
end om
end Go.Proofs.YtlfdjpgghiemfaaGreatDoor
