/- Texts of the proof, joined: Glob, HostP, HostO, FnB, HostA, HostB. -/
import Derived.Test.YtlfdjpgghiemfaaGreatDoorH16
import Derived.Lib.ItoaLen
import Derived.Lib.AppendIntMem
set_option maxHeartbeats 4000000
set_option maxRecDepth 100000
namespace Go.Proofs.YtlfdjpgghiemfaaGreatDoor
namespace eO
open Go.RowKit Mem Abs bH
def Cells (f:Nat→Option Obj) (g:Nat) (cs:Array Value):Prop:=∃ t fr,f g=some (.cells cs t fr)
def gN:Nat:=max (max 2 3) 1+1
def bI:iI:=⟨gN,fun f=>(∃ v:Value,(v = .nilIface∨∃ t p,v = .iface t p)∧Cells f 2 #[v])∧(∃ v:Value,(v = .nilIface∨∃ t p,v = .iface t p)∧Cells f 3 #[v])∧Cells f 1 (Lib.pow10Tab.map fun z=>Value.int .u64 z).toArray⟩
section
variable {X:Nat→Prop} {w:World} {l:List UInt8}
variable {cs:Array Value} {W:World} {P:Program} {g:Nat}
theorem P9 (hg:g<gN) (h:Cells (fun i=>if i<gN then w.heap[i]? else none) g cs) (i:Nat):w.cell? ⟨g,i,none⟩=cs[i]? := by
 obtain ⟨t,fr,h⟩:=h
 simp only [hg,if_true] at h
 unfold World.cell?
 simp only [h]
 rfl
theorem aaD (h : kC bI X w) : Lib.TabIs Tryz.prog w "internal/strconv.uint64pow10" .u64 Lib.pow10Tab := by
 obtain ⟨_,_,_,_,t,fr,h⟩:=h
 have e : Tryz.prog.globalNamed "internal/strconv.uint64pow10" = some 1 := by kernel_rfl
 unfold Lib.TabIs World.var?
 rw [e]
 have h:w.heap[1]? = _:=h
 simp only [Option.bind_some,h]
abbrev digits (n:Int):List UInt8:=Lib.itoa n
theorem Og (n:Int) (h:InR .i64 n):(digits n).length≤21:=Lib.itoa_length_le n h.1 h.2
theorem MX {n:Int}:av Tryz.prog bI 50 [.int .i64 n] (au (digits n)):=fun N w vs hG hN hlen hv=>by
 obtain ⟨vs⟩:=vs
 match vs,hlen with
 | [x0],_ =>
  obtain ⟨rfl,h0⟩:=kS (hv 0 _ x0 rfl rfl)
  have h1 : -9223372036854775808≤n∧n≤9223372036854775807:=h0
  refine (Tryz.strconv_Itoa n h1.1 h1.2 w (aaD hG)).mono fun e w' ⟨h2,k,os,h3⟩=>⟨_,h2,?_,.str ?_⟩
  ·rw [h3];exact Lib.below_grow _ _ (Nat.le_refl _) _ _
  ·rw [aM];have:=Og n h0;simp only [dY];omega
def Ef (l:List UInt8):Int × Bool:=match Lib.atoiAll l with
 | .ok v=>(v,true)
 | .range=>(Lib.atoiSat l,false)
 | _=>(0,false)
def TN:Bool→Abs.V
 | true=>.nili
 | false=>.ifc 212 (.fp [] 0)
theorem X4 {v:Int} (h:Lib.atoiAll l = .ok v):InR .i64 v:=by
 unfold Lib.atoiAll at h
 split at h
 ·cases h
 ·dsimp only at h
  split at h
  ·cases h
  ·cases h
  ·split at h
   ·cases h
   ·split at h
    ·cases h
    ·cases h
     constructor<;>simp only [rng]<;>split<;>omega
theorem aco (l:List UInt8):InR .i64 (Lib.atoiSat l):=by
 unfold Lib.atoiSat
 split<;>exact ⟨by decide,by decide⟩
theorem acD (hl:l.length≤281474976710656):av Tryz.prog bI 96 [au l] (.tup [.int .i64 (Ef l).1,TN (Ef l).2]):=fun N w vs hG hN hlen hv=>by
 obtain ⟨vs⟩:=vs
 match vs,hlen with
 | [x0],_ =>
  obtain ⟨rfl,h0⟩:=iJ (hv 0 _ x0 rfl rfl)
  obtain ⟨g1,g2,⟨v1,i1,k1⟩,⟨v2,i2,k2⟩,_⟩:=hG
  have sz:(str l).size≤281474976710656:=by rw [aM];exact hl
  have two:∀ {w':World} {a b:Abs.V} {x y:Value},Fz N w' a x→Fz N w' b y→Fz N w' (.tup [a,b]) (.tuple #[x,y]):=fun ha hb=>.tup rfl fun i x c hx hc=>by
   have hi:i<2:=(List.getElem?_eq_some_iff.1 hx).1
   have:i=0∨i=1:=by omega
   rcases this with rfl|rfl<;>(cases hx;cases hc)
   ·exact ha
   ·exact hb
  have far:∀ {w':World} {M:Nat} {o:Obj},w.heap.size≤M→w'.heap[M]? = some o→Fz N w' (TN false) (.iface 212 (.pointer (some ⟨M,0,none⟩))):=fun {w' M o} h1 h2 =>
   .ifc (.fp (cs:=[]) (o:=0) (fun _=>undef) (fun hx=>by have:=hN M hx;omega) (block_lt h2) (fun u hu=>by cases hu) (fun j u hu=>by simp at hu) (fun j u hu=>by simp at hu))
  unfold Ef
  rcases he:Lib.atoiAll l with v|_|_
  ·refine (Tryz.strconv_Atoi_ok (str l) (by omega) v (by rw [aY];exact he) w).mono fun e w' ⟨h2,h3⟩=>⟨_,h2,?_,two (.int (X4 he)) .nili⟩
   rcases h3 with rfl|⟨t,rfl⟩
   ·exact Below.refl _ _
   ·exact Lib.bytesWorld_below _ _ _
  ·exact (Tryz.strconv_Atoi_syntax (str l) sz (by rw [aY,he];exact ⟨fun v h=>(by cases h),fun h=>(by cases h)⟩) v1 w (P9 (by decide) k1 0) i1).mono fun e w' ⟨M,h2,h3,h4,h5⟩=>⟨_,h2,h5,two (.int (oo _)) (far h3 h4)⟩
  ·refine (Tryz.strconv_Atoi_range (str l) sz (by rw [aY];exact he) v2 w (P9 (by decide) k2 0) i2).mono fun e w' ⟨M,h2,h3,h4,h5⟩=>⟨_,h2,h5,two ?_ (far h3 h4)⟩
   rw [aY]
   exact .int (aco l)
theorem AV {P:Program} {W:World} {n:String} {d:DataW Unit}:∀ {l:List (String × DataW Unit)} {ps:List MemPlace},DataW.LaidVars P W l ps→(n,d)∈l →
  ∃ g t cs fuel p,P.globalNamed n=some g∧(P.globals[g]?).map (·.type)=some t∧W.var? P n=some cs∧DataW.trod (fun _=>()) P W 0 (fun _=>true) false fuel t cs.toList=some (d,p)
 | (m,e)::r,ps,h,hm=>by
  obtain ⟨g,t,cs,fuel,p,q,h1,h2,h3,h4,h5,_⟩:=h
  rcases List.mem_cons.1 hm with e|hm
  ·cases e;exact ⟨g,t,cs,fuel,p,h1,h2,h3,h4⟩
  ·exact AV h5 hm
theorem D5 {n:String} (hg:P.globalNamed n=some g) (h:W.var? P n=some cs):∃ t fr,W.heap[g]? = some (.cells cs t fr):=by
 unfold World.var? at h
 rw [hg] at h
 simp only [Option.bind_some] at h
 split at h
 ·rename_i cs' t fr hh
  cases h
  exact ⟨t,fr,hh⟩
 ·cases h
theorem trod_held {fuel t ms:_} {cs:List Value} {d:DataW Unit} {p:List MemPlace} (ht:P.underlying t=some (.interface ms)) (h:DataW.trod (fun _=>()) P W 0 (fun _=>true) false fuel t cs=some (d,p)):∃ v,cs=[v]∧(v = .nilIface∨∃ u x,v = .iface u x):=by
 cases fuel with
 | zero=>simp [DataW.trod] at h
 | succ fuel =>
  unfold DataW.trod at h
  rw [ht] at h
  split at h<;>first
   | (rename_i e1 e2;cases e2;exact ⟨_,rfl,.inl rfl⟩)
   | exact ⟨_,rfl,.inl rfl⟩
   | exact ⟨_,rfl,.inr ⟨_,_,rfl⟩⟩
   | (rename_i e;cases e)
   | cases h
theorem Zv {laid : List (String × DataW Unit)} {d1 d2 : DataW Unit} {w : World} (h : laidMet Tryz.prog laid w) (m1 : ("strconv.ErrSyntax", d1) ∈ laid) (m2 : ("strconv.ErrRange", d2) ∈ laid) (m3 : ("internal/strconv.uint64pow10", Lib.tabData .u64 Lib.pow10Tab) ∈ laid) : kC bI (fun _ => False) w := by
 obtain ⟨ps,h,_⟩:=h
 have ht:∀ n g t,Tryz.prog.globalNamed n=some g→(Tryz.prog.globals[g]?).map (·.type)=some t→∀ g' t',Tryz.prog.globalNamed n=some g'→(Tryz.prog.globals[g']?).map (·.type)=some t'→g'=g∧t'=t:=fun n g t h1 h2 g' t' h3 h4=>by
  rw [h1] at h3;cases h3
  rw [h2] at h4;cases h4
  exact ⟨rfl,rfl⟩
 obtain ⟨g,t,cs,fuel,p,a1,a2,a3,a4⟩:=AV h m1
 obtain ⟨rfl,rfl⟩:=ht _ 2 102 (by kernel_rfl) (by kernel_rfl) g t a1 a2
 obtain ⟨v1,e1,i1⟩:=trod_held Tryz.underlying102 a4
 obtain ⟨t1,fr1,b1⟩:=D5 a1 a3
 obtain ⟨g',t',cs',fuel',p',c1,c2,c3,c4⟩:=AV h m2
 obtain ⟨rfl,rfl⟩:=ht _ 3 102 (by kernel_rfl) (by kernel_rfl) g' t' c1 c2
 obtain ⟨v2,e2,i2⟩:=trod_held Tryz.underlying102 c4
 obtain ⟨t2,fr2,b2⟩:=D5 c1 c3
 obtain ⟨g3,t3,cs3,fuel3,p3,k1,k2,k3,k4⟩:=AV h m3
 obtain ⟨rfl,rfl⟩:=ht _ 1 252 (by kernel_rfl) (by kernel_rfl) g3 t3 k1 k2
 obtain ⟨tt,fr3,b3⟩:=D5 k1 k3
 have e3:=Lib.cells_of_tab Tryz.underlying252 Tryz.underlying201 (by kernel_rfl) (by kernel_rfl) k4
 have e1:cs = #[v1]:=by apply Array.ext';simpa using e1
 have e2:cs' = #[v2]:=by apply Array.ext';simpa using e2
 have e3:cs3=(Lib.pow10Tab.map fun z=>Value.int .u64 z).toArray:=by apply Array.ext';simpa using e3
 have hsz:∀ g o,w.heap[g]? = some o→g<w.heap.size:=fun g o h=>(Array.getElem?_eq_some_iff.1 h).1
 have z1:=hsz _ _ b1
 have z2:=hsz _ _ b2
 have z3:=hsz _ _ b3
 refine ⟨by show gN≤_;unfold gN;omega,fun b hb=>hb.elim,⟨v1,i1,t1,fr1,?_⟩,⟨v2,i2,t2,fr2,?_⟩,⟨tt,fr3,?_⟩⟩
 ·rw [← e1];exact (if_pos (show 2<gN by decide)).trans b1
 ·rw [← e2];exact (if_pos (show 3<gN by decide)).trans b2
 ·rw [← e3];exact (if_pos (show 1<gN by decide)).trans b3
end
end eO
namespace cu
open bX dn
def dB (c:UInt8):Bool:=decide (48≤c.toNat)&&decide (c.toNat≤57)
def kU (c:UInt8):Bool:=(decide (97≤c.toNat)&&decide (c.toNat≤122))||dB c
def sj (c:UInt8):Bool:=kU c||c.toNat==45
def label (l:List UInt8):Bool := !l.isEmpty&&decide (l.length≤63)&&kU (l.getD 0 0)&&kU (l.getD (l.length-1) 0)&&l.all sj
def dS (l:List UInt8):List UInt8 × Nat:=if 253<l.length then ([],2) else if (split 46 (fold l)).all label then (fold l,0) else ([],1)
def value (l:List UInt8):Nat:=l.foldl (fun n c=>10*n+(c.toNat-48)) 0
def octet (l:List UInt8):Bool:=decide (1≤l.length)&&decide (l.length≤3)&&l.all dB&&decide (value l≤255)&&(decide (l.length≤1) || !(l.getD 0 0==48))
def address (l:List UInt8):Bool:=decide ((split 46 l).length=4)&&(split 46 l).all octet
def qI (l s:List UInt8):Bool:=decide (s.length≤l.length)&&l.drop (l.length-s.length)==s
def iq (h d:List UInt8):Bool:=h==d||(!address h&&qI h (46::d))
def after:List UInt8→List (List UInt8)
 | []=>[]
 | c::r=>if c=46 then r::after r else after r
def xw (l:List UInt8):List (List UInt8):=if l=[] then [] else if address l then [l] else l::after l
theorem FJ (l s:List UInt8):qI l s=true↔∃ x,l=x++s:=by
 unfold qI
 constructor
 ·intro h
  simp only [Bool.and_eq_true,decide_eq_true_eq,beq_iff_eq] at h
  refine ⟨l.take (l.length-s.length),?_⟩
  conv=>{ lhs;rw [← List.take_append_drop (l.length-s.length) l,h.2] }
 ·rintro ⟨x,rfl⟩
  simp
theorem Vt {l h:List UInt8} (e:dS l=(h,0)):h=fold l∧l.length≤253∧(split 46 (fold l)).all label=true:=by
 unfold dS at e
 split at e
 ·cases e
 ·split at e
  ·rename_i h1 h2
   cases e
   exact ⟨rfl,by omega,h2⟩
  ·cases e
theorem pz (a:List UInt8):∀ l:List UInt8,a∈after l↔∃ x,l=x++46::a
 | []=>by simp [after]
 | c::r=>by
  have ih:=pz a r
  unfold after
  constructor
  ·intro h
   split at h
   ·rename_i hc
    rcases List.mem_cons.1 h with rfl|h
    ·exact ⟨[],by rw [hc];rfl⟩
    ·obtain ⟨x,rfl⟩:=ih.1 h
     exact ⟨c::x,rfl⟩
   ·obtain ⟨x,rfl⟩:=ih.1 h
    exact ⟨c::x,rfl⟩
  ·rintro ⟨x,hx⟩
   cases x with
   | nil =>
    simp at hx
    rw [if_pos hx.1,hx.2];exact List.mem_cons_self
   | cons d x =>
    simp only [List.cons_append,List.cons.injEq] at hx
    have:=ih.2 ⟨x,hx.2⟩
    split
    ·exact List.mem_cons_of_mem _ this
    ·exact this
theorem Nv (l:List UInt8) (h:l.contains 46=false):after l=[]:=by
 induction l with
 | nil=>rfl
 | cons c r ih =>
  simp only [List.contains_cons,Bool.or_eq_false_iff,beq_eq_false_iff_ne] at h
  unfold after
  rw [if_neg (fun e=>h.1 e.symm),ih h.2]
theorem after_at (a r:List UInt8) (h:a.contains 46=false):after (a++46::r)=r::after r:=by
 induction a with
 | nil=>simp [after]
 | cons c a ih =>
  simp only [List.contains_cons,Bool.or_eq_false_iff,beq_eq_false_iff_ne] at h
  rw [List.cons_append,after,if_neg (fun e=>h.1 e.symm),ih h.2]
theorem FO (l:List UInt8):(after l).length≤l.length:=by
 induction l with
 | nil=>exact Nat.le_refl _
 | cons c l ih=>unfold after;split<;>simp<;>omega
end cu
namespace iR
open bX dn cu
variable {n:Nat} {s:List UInt8}
def Ar (n:Nat):List UInt8:=if n<10 then [UInt8.ofNat (48+n)] else if n<100 then [UInt8.ofNat (48+n/10),UInt8.ofNat (48+n % 10)] else [UInt8.ofNat (48+n/100),UInt8.ofNat (48+n/10 % 10),UInt8.ofNat (48+n % 10)]
theorem Ls (h:n<1000):Lib.decDigits n=Ar n:=by
 unfold Ar
 split
 ·exact Lib.decDigits_one (by assumption)
 ·split
  ·exact Lib.decDigits_two (by assumption) (by assumption)
  ·rw [Lib.decDigits,dif_neg (by assumption),Lib.decDigits_two (by omega) (by omega)]
   simp only [List.cons_append,List.nil_append,Nat.div_div_eq_div_mul]
theorem Zg:∀ n:Fin 256,octet (Ar n.val)=true∧value (Ar n.val)=n.val:=by decide +kernel
theorem UU:∀ n:Fin 256,Lib.parseMag (Ar n.val) = .ok n.val∧(match Ar n.val with|[]=>false|c::_=>decide (c.toNat≠43)&&decide (c.toNat≠45))=true:=by decide +kernel
theorem Qz (h:n<256):Lib.atoiAll (Ar n) = .ok (n:Int):=by
 obtain ⟨h1,h2⟩:=UU ⟨n,h⟩
 simp only at h1 h2
 revert h1 h2
 generalize Ar n=l
 intro h1 h2
 cases l with
 | nil=>cases h2
 | cons c r =>
  simp only [Bool.and_eq_true,decide_eq_true_eq] at h2
  unfold Lib.atoiAll
  simp only [h2.1,h2.2,or_self,if_false,h1]
  rw [if_neg (by omega),if_neg (by simp)]
theorem Xz:∀ a:Fin 10,octet [UInt8.ofNat (48+a.val)]=true→[UInt8.ofNat (48+a.val)]=Ar (value [UInt8.ofNat (48+a.val)]):=by decide +kernel
theorem Zq:∀ a b:Fin 10,octet [UInt8.ofNat (48+a.val),UInt8.ofNat (48+b.val)]=true→[UInt8.ofNat (48+a.val),UInt8.ofNat (48+b.val)]=Ar (value [UInt8.ofNat (48+a.val),UInt8.ofNat (48+b.val)]):=by decide +kernel
theorem R3:∀ a b c:Fin 10,octet [UInt8.ofNat (48+a.val),UInt8.ofNat (48+b.val),UInt8.ofNat (48+c.val)]=true→[UInt8.ofNat (48+a.val),UInt8.ofNat (48+b.val),UInt8.ofNat (48+c.val)]=Ar (value [UInt8.ofNat (48+a.val),UInt8.ofNat (48+b.val),UInt8.ofNat (48+c.val)]):=by decide +kernel
theorem yM {c:UInt8} (h:dB c=true):∃ a:Fin 10,c=UInt8.ofNat (48+a.val):=by
 unfold dB at h
 simp only [Bool.and_eq_true,decide_eq_true_eq] at h
 refine ⟨⟨c.toNat-48,by omega⟩,?_⟩
 apply UInt8.toNat.inj
 rw [UInt8.toNat_ofNat_of_lt' (by have:=c.toNat_lt;show 48+(c.toNat-48)<256;omega)]
 show c.toNat=48+(c.toNat-48)
 omega
theorem Ab (h:octet s=true):1≤s.length∧s.length≤3∧s.all dB=true∧value s≤255:=by
 unfold octet at h
 simp only [Bool.and_eq_true,decide_eq_true_eq] at h
 exact ⟨h.1.1.1.1,h.1.1.1.2,h.1.1.2,h.1.2⟩
theorem Oc (h:octet s=true):s=Ar (value s):=by
 obtain ⟨h1,h2,h3,_⟩:=Ab h
 match s,h1,h2 with
 | [a],_,_ =>
  simp at h3
  obtain ⟨a,rfl⟩:=yM h3
  exact Xz a h
 | [a,b],_,_ =>
  simp at h3
  obtain ⟨a,rfl⟩:=yM h3.1
  obtain ⟨b,rfl⟩:=yM h3.2
  exact Zq a b h
 | [a,b,c],_,_ =>
  simp at h3
  obtain ⟨a,rfl⟩:=yM h3.1
  obtain ⟨b,rfl⟩:=yM h3.2.1
  obtain ⟨c,rfl⟩:=yM h3.2.2
  exact R3 a b c h
 | a::b::c::d::r,_,h=>simp at h
theorem E9 (s:List UInt8):octet s=true↔∃ n:Int,Lib.atoiAll s = .ok n∧n≤255∧Lib.itoa n=s∧0≤n:=by
 constructor
 ·intro h
  have h1:=(Ab h).2.2.2
  have h2:=Oc h
  refine ⟨(value s:Nat),?_,by omega,?_,by omega⟩
  ·have h3:=Qz (n:=value s) (by omega)
   rwa [← h2] at h3
  ·unfold Lib.itoa
   rw [if_neg (by omega),Int.toNat_natCast,Ls (by omega),← h2]
 ·rintro ⟨n,h1,h2,h3,h4⟩
  obtain ⟨k,rfl⟩:=Int.eq_ofNat_of_zero_le h4
  unfold Lib.itoa at h3
  rw [if_neg (by omega),Int.toNat_natCast,Ls (by omega)] at h3
  rw [← h3]
  exact (Zg ⟨k,by omega⟩).1
def lead (l:List UInt8):List UInt8:=l.takeWhile dB
def Am (l:List UInt8):Nat:=value ((lead l).take 5)
theorem qo (l:List UInt8) (c:UInt8):value (l++[c])=10*value l+(c.toNat-48):=by unfold value;rw [List.foldl_append];rfl
theorem lX {α:Type} {p:List α→Prop} (h0:p []) (h1:∀ l b,p l→p (l++[b])):∀ l,p l:=fun l=>by
 have:∀ r:List α,p r.reverse:=fun r=>by
  induction r with
  | nil=>exact h0
  | cons b r ih=>rw [List.reverse_cons];exact h1 _ _ ih
 have h:=this l.reverse
 rwa [List.reverse_reverse] at h
theorem xX:∀ (l:List UInt8),l.all dB=true→value l<10^l.length:=by
 refine lX (fun _=>by decide) fun l c ih h=>?_
 ·rw [List.all_append,Bool.and_eq_true] at h
  have h1:=ih h.1
  have h2:dB c=true:=by simpa using h.2
  unfold dB at h2
  simp only [Bool.and_eq_true,decide_eq_true_eq] at h2
  rw [qo,List.length_append,List.length_singleton,Nat.pow_succ]
  omega
theorem Bp (l:List UInt8):(lead l).all dB=true:=List.all_eq_true.2 fun x hx=>by
 unfold lead at hx
 induction l with
 | nil=>simp at hx
 | cons c r ih =>
  rw [List.takeWhile_cons] at hx
  split at hx
  ·rename_i hc
   rcases List.mem_cons.1 hx with rfl|hx
   ·exact hc
   ·exact ih hx
  ·cases hx
theorem FH:∀ (s:List UInt8),s.all dB=true→s.takeWhile dB=s
 | [],_=>rfl
 | c::r,h=>by
  rw [List.all_cons,Bool.and_eq_true] at h
  rw [List.takeWhile_cons,if_pos h.1,FH r h.2]
theorem OD (s:List UInt8):octet s=(decide (1≤(lead s).length)&&decide ((lead s).length≤3)&&decide ((lead s).length=s.length)&&decide (Am s≤255)&&(decide ((lead s).length≤1) || !(s.getD 0 0==48))):=by
 by_cases h:s.all dB=true
 ·have e:lead s=s:=by
   unfold lead
   exact FH s h
  unfold octet Am
  rw [e,h]
  by_cases h3:s.length≤3
  ·rw [List.take_of_length_le (by omega)];simp
  ·simp [h3]
 ·have e:(lead s).length≠s.length:=fun e=>by
   have h1:lead s=s:=by
    have:=List.takeWhile_prefix dB (l:=s)
    exact this.eq_of_length e
   exact h (h1 ▸ Bp s)
  simp only [Bool.not_eq_true] at h
  unfold octet
  rw [h]
  simp [e]
end iR
namespace FnB
open Go.RowKit Mem Abs
variable {g:Nat} {p:UInt8→Bool} {gl:iI} {caps:List V}
theorem XH {l:List UInt8} (hg:dZ Tryz.prog g=true) (hc:V.bf caps=[]) (hl:l.length≤LIM) (h:∀ c∈l,av Tryz.prog gl g ([]++[bB c]++caps) (.bool (p c))):av Tryz.prog gl 210 [.fro (l.map bB),.fn (.func g) [] caps] (.int .i64 (fE p l)):=by
 refine gQ af Tryz.func210 rfl Tryz.ntmps210 Tryz.results210 rfl fun N=>?_
 repeat' (first|refine zt ?_|(refine isR ?_;first|refine zo ?_|refine zX ?_)|refine zr ?_|exact ah)
 refine bE (fun k=>⟨[(0,.fro (l.map bB)),(1,.fn (.func g) [] caps),(7,.int .i64 (l.map bB).length),(8,.int .i64 (k:Int))],[],0,19⟩) (fun k=>k≤l.length∧∀ j y,j<k→l[j]? = some y→p y=false) l.length 0 ?_ ⟨Nat.zero_le _,fun j y h=>absurd h (Nat.not_lt_zero _)⟩ ?_
 ·exact (by exact ah)
 ·intro k ⟨hk,hp⟩
  simp only [LIM] at hl
  have e0:((l.map bB).length:Int)=(l.length:Int):=by simp
  by_cases hk2:k<l.length
  ·have e1:(l.map bB)[k]? = some (bB l[k]):=by simp [hk2]
   have h1:=h l[k] (List.getElem_mem hk2)
   repeat' (first|refine zt ?_|(refine isR ?_;first|refine zo ?_|refine si rfl rfl rfl (yG (vs:=[_]) rfl (enters hg) (by rfl) h1 (by simp [V.bf,V.names,hc])) (hT rfl (hT rfl Abs.h0)) (fun hb=>?_) (fun hb=>?_)|refine zX ?_)|refine zr ?_|exact ah)
   ·show V.int .i64 _=V.int .i64 _
    rw [oh hp (List.getElem?_eq_getElem hk2) hb]
   ·refine ⟨⟨by omega,fun j y hj hy=>?_⟩,by omega,?_⟩
    ·rcases Nat.lt_succ_iff_lt_or_eq.1 hj with h1|rfl
     ·exact hp j y h1 hy
     ·rw [List.getElem?_eq_getElem hk2] at hy;cases hy;exact hb
    ·exact (by exact ah)
  ·repeat' (first|refine zt ?_|(refine isR ?_;first|refine zo ?_|refine zX ?_)|refine zr ?_|exact ah)
   show V.int .i64 _=V.int .i64 _
   rw [kE fun x hx=>?_]
   obtain ⟨i,hi⟩:=List.mem_iff_getElem?.1 hx
   exact hp i x (by have:=(List.getElem?_eq_some_iff.1 hi).1;omega) hi
theorem Nr {l:List UInt8} (hg:dZ Tryz.prog g=true) (hc:V.bf caps=[]) (hl:l.length≤LIM) (h:∀ c∈l,av Tryz.prog gl g ([]++[bB c]++caps) (.bool (p c))):av Tryz.prog gl 158 [.fro (l.map bB),.fn (.func g) [] caps] (.bool (l.any p)):=by
 have hi:=XH hg hc hl h
 have hn:V.bf [.fro (l.map bB),.fn (.func g) [] caps]=[]:=by simp [V.bf,V.names,hc]
 refine gQ af Tryz.func158 rfl Tryz.ntmps158 Tryz.results158 rfl fun N=>?_
 repeat' (first|refine zt ?_|(refine isR ?_;first|refine zo ?_|(refine zs4 ?_ ?_<;>intro hc))|refine zr ?_|exact ah)
 refine aJ rfl rfl rfl (Dz rfl (enters (by kernel_rfl)) (by rfl) hi hn) (hT rfl (hT rfl Abs.h0)) ?_
 repeat' (first|refine zt ?_|(refine isR ?_;first|refine zo ?_|(refine zs4 ?_ ?_<;>intro hc))|refine zr ?_|exact ah)
 ·show V.bool _=V.bool _
  rw [lW.1 (by assumption)]
 ·show V.bool _=V.bool _
  have:¬ (l.any p=true):=fun h=>by have:=lW.2 h;contradiction
  simp only [Bool.not_eq_true] at this
  rw [this]
end FnB
namespace jh
open Go.RowKit Mem Abs cu
variable {c:UInt8}
theorem Gp:aj Tryz.prog 155 [bB c] (.bool (dB c)):=by
 refine aU af Tryz.func155 rfl Tryz.ntmps155 Tryz.results155 rfl fun N=>?_
 repeat' (first|refine zt ?_|(refine isR ?_;first|refine zo ?_|(refine zs ?_ ?_<;>intro hc))|refine zr ?_|exact ah)
 all_goals (show V.bool _=V.bool _;congr 1;unfold dB;simp;omega)
theorem GR:aj Tryz.prog 157 [bB c] (.bool (kU c)):=by
 refine aU af Tryz.func157 rfl Tryz.ntmps157 Tryz.results157 rfl fun N=>?_
 repeat' (first|refine zt ?_|(refine isR ?_;first|refine zo ?_|refine zX ?_|(refine zs ?_ ?_<;>intro hc))|refine zr ?_|exact ah)
 all_goals (show V.bool _=V.bool _;congr 1;unfold kU dB;simp;omega)
abbrev WS:Abs.V:=.fn (.func 157) [] []
theorem Yi:aj Tryz.prog 159 [bB c,.fp [WS] 0] (.bool (!sj c)):=by
 refine aW af Tryz.func159 rfl Tryz.ntmps159 Tryz.results159 rfl fun N=>?_
 have h1:=GR (c:=c)
 repeat' (first|refine zt ?_|(refine isR ?_;first|refine zo ?_|refine dW (h1 _) (fun hb=>?_) (fun hb=>?_)|refine dW (h1) (fun hb=>?_) (fun hb=>?_)|(refine zs6 ?_ ?_<;>intro hc))|refine zr ?_|exact ah)
 all_goals (show V.bool _=V.bool _;congr 1;unfold sj;simp [*])
 all_goals omega
theorem gK {l:List UInt8} {r:List Abs.V} (h:V.qR (au l::r)):l.length≤4611686018427387904∧V.qR r:=by
 have:=h.1
 rw [V.Lim,aM] at this
 exact ⟨this,h.2⟩
theorem Y0 {l:List UInt8}:aj Tryz.prog 121 [au l] (.bool (label l)):=aj.lim fun hl=>by
 obtain ⟨hl,_⟩:=gK hl
 refine aU af Tryz.func121 rfl Tryz.ntmps121 Tryz.results121 rfl fun N=>?_
 by_cases h0:l=[]
 ·subst h0
  repeat' (first|refine zt ?_|(refine isR ?_;first|refine zo ?_|refine zX ?_)|refine zr ?_|exact ah)
  rfl
 ·have hp:0<l.length:=List.length_pos_iff.2 h0
  have h1:l[(0:Int).toNat]? = some (l[0]):=by simp
  have h2:l[((l.length:Int)-1).toNat]? = some (l[l.length-1]):=by
   rw [show ((l.length:Int)-1).toNat=l.length-1 by omega];simp
  have e1:l.getD 0 0=l[0]:=by rw [List.getD_eq_getElem?_getD,List.getElem?_eq_getElem hp];rfl
  have e2:l.getD (l.length-1) 0=l[l.length-1]:=by rw [List.getD_eq_getElem?_getD,List.getElem?_eq_getElem (by omega)];rfl
  generalize l[0]=a at h1 e1
  generalize l[l.length-1]=b at h2 e2
  have c1:=GR (c:=a)
  have c2:=GR (c:=b)
  by_cases hm:63<l.length
  ·repeat' (first|refine zt ?_|(refine isR ?_;first|refine zo ?_|refine zX ?_)|refine zr ?_|exact ah)
   show V.bool _=V.bool _
   congr 1;unfold label;simp;intros;omega
  ·have c3:=fun gl=>FnB.Nr (gl:=gl) (g:=159) (caps:=[.fp [WS] 0]) (p:=fun c => !sj c) (l:=l) (by kernel_rfl) rfl (by simp only [LIM];omega) (fun c _=>Yi gl)
   repeat' (first|refine zt ?_|(refine isR ?_;first|refine zo ?_|refine dW (c1 _) (fun hb=>?_) (fun hb=>?_)|refine dW (c1) (fun hb=>?_) (fun hb=>?_)|refine dW (c2 _) (fun hb=>?_) (fun hb=>?_)|refine dW (c2) (fun hb=>?_) (fun hb=>?_)|refine Lc [0] (c3 _) (fun hb=>?_) (fun hb=>?_)|refine Lc [0] (c3) (fun hb=>?_) (fun hb=>?_)|refine zX ?_)|refine zr ?_|exact ah)
   all_goals
    show V.bool _=V.bool _
    congr 1;unfold label;rw [e1,e2]
    have hq:l.length≤63:=by omega
    simp_all
theorem Dv (h:sj c=true) (h2:¬ ((c.toNat:Int)=45)):kU c=true:=by
 unfold sj at h
 rw [Bool.or_eq_true] at h
 rcases h with h|h
 ·exact h
 ·simp at h;omega
theorem LM (h:((c.toNat:Int)=45)):kU c=false:=by
 unfold kU dB
 simp;omega
theorem QX {l:List UInt8}:aj Tryz.prog 117 [au l] (.bool (label l)):=aj.lim fun hl=>by
 obtain ⟨hl,_⟩:=gK hl
 refine aU af Tryz.func117 rfl Tryz.ntmps117 Tryz.results117 rfl fun N=>?_
 by_cases h0:l=[]
 ·have hz:l.length=0:=by rw [h0];rfl
  repeat' (first|refine zt ?_|(refine isR ?_;first|refine zo ?_|refine zX ?_|(refine zs ?_ ?_<;>intro hc))|refine zr ?_|exact ah)
  rw [h0];rfl
 ·have hp:0<l.length:=List.length_pos_iff.2 h0
  have h1:l[(0:Int).toNat]? = some (l[0]):=by simp
  have h2:l[((l.length:Int)-1).toNat]? = some (l[l.length-1]):=by
   rw [show ((l.length:Int)-1).toNat=l.length-1 by omega];simp
  have e1:l.getD 0 0=l[0]:=by rw [List.getD_eq_getElem?_getD,List.getElem?_eq_getElem hp];rfl
  have e2:l.getD (l.length-1) 0=l[l.length-1]:=by rw [List.getD_eq_getElem?_getD,List.getElem?_eq_getElem (by omega)];rfl
  have m1:l[0]∈l:=List.getElem_mem _
  have m2:l[l.length-1]∈l:=List.getElem_mem _
  generalize l[0]=a at h1 e1 m1
  generalize l[l.length-1]=b at h2 e2 m2
  have el:label l=(decide (l.length≤63)&&kU a&&kU b&&l.all sj):=by
   unfold label;rw [e1,e2];cases l with
   | nil=>exact absurd rfl h0
   | cons=>rfl
  rw [el]
  repeat' (first|refine zt ?_|(refine isR ?_;first|refine zo ?_|refine zX ?_|(refine zs ?_ ?_<;>intro hc))|refine zr ?_|exact ah)
  ·show V.bool _=V.bool _
   simp;intros;omega
  ·show V.bool _=V.bool _
   simp [LM (by assumption)]
  ·show V.bool _=V.bool _
   simp [LM (c:=b) (by assumption)]
  ·refine bE (fun k=>⟨[(0,au l),(3,.int .i64 (k:Int))],[],0,55⟩) (fun k=>k≤l.length∧lK sj l k) l.length 0 ?_ ⟨Nat.zero_le _,vo⟩ ?_
   ·exact (by exact ah)
   ·intro k ⟨hk,hq⟩
    by_cases hk2:k<l.length
    ·have e1:l[k]? = some l[k]:=by simp [hk2]
     generalize l[k]=c at e1
     have hd:=Gp (c:=c)
     repeat' (first|refine zt ?_|(refine isR ?_;first|refine zo ?_|refine dW (hd _) (fun hb=>?_) (fun hb=>?_)|refine dW (hd) (fun hb=>?_) (fun hb=>?_)|refine zX ?_|(refine zs ?_ ?_<;>intro hc))|refine zr ?_|exact ah)
     all_goals first
      | (show V.bool _ = V.bool _
         rw [zh (p:=sj) e1 (by unfold sj kU;simp [*];omega)]
         simp)
      | (refine ⟨⟨by omega, hq.on e1 (by unfold sj kU; simp [*]; try omega)⟩, by omega, ?_⟩
         exact (by exact ah))
    ·repeat' (first|refine zt ?_|(refine isR ?_;first|refine zo ?_|refine zX ?_|(refine zs ?_ ?_<;>intro hc))|refine zr ?_|exact ah)
     show V.bool _=V.bool _
     have hall2:=hq.all hk2
     have hall:=List.all_eq_true.1 hall2
     rw [Dv (hall a m1) (by assumption),Dv (hall b m2) (by assumption),hall2]
     simp;omega
end jh
namespace rA
open Go.RowKit Mem Abs cu jh bH bX dn
abbrev pairT (p:List UInt8 × Nat):Abs.V:=.tup [au p.1,.int .i64 ((p.2:Nat):Int)]
theorem PN {l:List UInt8}:aj Tryz.prog 95 [au l] (pairT (dS l)):=aj.lim fun hl=>by
 obtain ⟨hl,_⟩:=bH.gK hl
 have c1:=qh (l:=l)
 refine aU af Tryz.func95 rfl Tryz.ntmps95 Tryz.results95 rfl fun N=>?_
 by_cases h0:253<l.length
 ·repeat' (first|refine zt ?_|(refine isR ?_;first|refine zo ?_|refine zX ?_)|refine zr ?_|exact ah)
  unfold dS;rw [if_pos h0];rfl
 ·obtain ⟨m,hm⟩:∃ m,fold l=m:=⟨_,rfl⟩
  have hml:m.length=l.length:=by rw [← hm,oM]
  have c2:aj _ _ [au m,.int .u8 46] _:=uq (l:=m) (u:=46) (by omega)
  have hs:=jO 46 m
  have es:dS l=if (split 46 m).all label then (m,0) else ([],1):=by unfold dS;rw [if_neg h0,hm]
  rw [es]
  rw [hm] at c1
  clear es hm
  generalize split 46 m=xs at *
  have hx:((xs.map au).length:Int)=(xs.length:Int):=by simp
  repeat' (first|refine zt ?_|(refine isR ?_;first|refine zo ?_|refine zk c1 ?_|refine zk c2 ?_|refine zX ?_)|refine zr ?_|exact ah)
  refine bE (fun k=>⟨[(0,au m),(12,qM xs),(13,.int .i64 (xs.map au).length),(14,.int .i64 (k:Int))],[],0,23⟩) (fun k=>k≤xs.length∧lK label xs k) xs.length 0 (by exact ah) ⟨Nat.zero_le _,vo⟩ ?_
  intro k ⟨hk,hq⟩
  by_cases hk2:k<xs.length
  ·have e1:(xs.map au)[k]? = some (au xs[k]):=by simp [hk2]
   have e2:xs[k]? = some xs[k]:=by simp [hk2]
   generalize xs[k]=x at e1 e2
   have c3:=Y0 (l:=x)
   repeat' (first|refine zt ?_|(refine isR ?_;first|refine zo ?_|refine iY (c3 _) (fun hb=>?_) (fun hb=>?_)|refine iY (c3) (fun hb=>?_) (fun hb=>?_)|refine zX ?_)|refine zr ?_|exact ah)
   ·exact ⟨⟨by omega,hq.on e2 (by assumption)⟩,by omega,(by exact ah)⟩
   ·rw [zh e2 (by assumption)];rfl
  ·repeat' (first|refine zt ?_|(refine isR ?_;first|refine zo ?_|refine zX ?_)|refine zr ?_|exact ah)
   rw [hq.all hk2];rfl
theorem SI {l:List UInt8}:aj Tryz.prog 88 [au l] (pairT (dS l)):=aj.lim fun hl=>by
 obtain ⟨hl,_⟩:=bH.gK hl
 have c1:=UG (l:=l)
 refine aU af Tryz.func88 rfl Tryz.ntmps88 Tryz.results88 rfl fun N=>?_
 by_cases h0:253<l.length
 ·repeat' (first|refine zt ?_|(refine isR ?_;first|refine zo ?_|refine zX ?_)|refine zr ?_|exact ah)
  unfold dS;rw [if_pos h0];rfl
 ·obtain ⟨m,hm⟩:∃ m,fold l=m:=⟨_,rfl⟩
  have hml:m.length=l.length:=by rw [← hm,oM]
  have c2:aj _ _ [au m,.int .u8 46] _:=F5 (l:=m) (u:=46) (by omega)
  have hs:=jO 46 m
  have es:dS l=if (split 46 m).all label then (m,0) else ([],1):=by unfold dS;rw [if_neg h0,hm]
  rw [es]
  rw [hm] at c1
  clear es hm
  generalize split 46 m=xs at *
  have hx:((xs.map au).length:Int)=(xs.length:Int):=by simp
  repeat' (first|refine zt ?_|(refine isR ?_;first|refine zo ?_|refine zk c1 ?_|refine zk c2 ?_|refine zX ?_)|refine zr ?_|exact ah)
  refine bE (fun k=>⟨[(0,au m),(4,qM xs),(5,.int .i64 (k:Int))],[],0,26⟩) (fun k=>k≤xs.length∧lK label xs k) xs.length 0 (by exact ah) ⟨Nat.zero_le _,vo⟩ ?_
  intro k ⟨hk,hq⟩
  by_cases hk2:k<xs.length
  ·have e1:(xs.map au)[k]? = some (au xs[k]):=by simp [hk2]
   have e2:xs[k]? = some xs[k]:=by simp [hk2]
   generalize xs[k]=x at e1 e2
   have c3:=QX (l:=x)
   repeat' (first|refine zt ?_|(refine isR ?_;first|refine zo ?_|refine iY (c3 _) (fun hb=>?_) (fun hb=>?_)|refine iY (c3) (fun hb=>?_) (fun hb=>?_)|refine zX ?_)|refine zr ?_|exact ah)
   ·exact ⟨⟨by omega,hq.on e2 (by assumption)⟩,by omega,(by exact ah)⟩
   ·rw [zh e2 (by assumption)];rfl
  ·repeat' (first|refine zt ?_|(refine isR ?_;first|refine zo ?_|refine zX ?_)|refine zr ?_|exact ah)
   rw [hq.all hk2];rfl
end rA
end Go.Proofs.YtlfdjpgghiemfaaGreatDoor
