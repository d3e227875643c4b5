/- Texts of the proof, joined: SixtyW. -/
import Derived.Test.YtlfdjpgghiemfaaGreatDoorH2
set_option maxHeartbeats 4000000
set_option maxRecDepth 100000
namespace Go.Proofs.YtlfdjpgghiemfaaGreatDoor
namespace pG
open Go.RowKit Mem gT eu jL jZ om
variable {w:World} {n g:Nat} {v:Value} {base:Nat}
theorem JM {w':World} {e:TypeId} {size:Nat} {xs:List Value} (h:w.ownsRow base e size v n xs) (k:Kept (· ≠ g) w w') (hg:g<base):w'.ownsRow base e size v n xs :=
 h.kept (row:=some g) ⟨k.os,k.tape,k.output,k.size,fun i hi hne=>k.block i hi (fun e=>hne (by rw [e]))⟩ (.inr (fun e=>by have:=(h.lt g e).1;omega))
def u8L (l:List UInt8):List Value:=l.map fun c=>.int .u8 c.toNat
theorem Hu:Elem Tryz.prog 98 5 1 1:=Elem.mk (z:=.int .u8 0) Tryz.underlying98 (by kernel_rfl) rfl (by decide)
def acW:ByteArray:=⟨#[65,66,67,68,69,70,71,72,73,74,75,76,77,78,79,80,81,82,83,84,85,86,87,88,89,90,97,98,99,100,101,102,103,104,105,106,107,108,109,110,111,112,113,114,115,116,117,118,119,120,121,122,48,49,50,51,52,53,54,55,56,57,45,95]⟩
def kT (l:List UInt8):List UInt8 × Nat:=if 400<l.length then ([],2) else (pF (aF l),0)
def adu (r:List UInt8 × Nat) (w:World) (e:Ending) (w':World):Prop:=e = .returned (.tuple #[.string (str r.1),.int .i64 (r.2:Int)])∧Below w.heap.size w w'
theorem Xi (n:Nat) (h:n<64):acW[n]'(by exact h)=letter n:=by
 have key:∀ m:Fin 64,acW[m.val]'(by exact m.isLt)=letter m.val:=by decide +kernel
 exact key ⟨n,h⟩
def aaF (g:Nat) (W:World):Nat:=match W.cell? ⟨g,1,none⟩ with|some (.int _ i)=>i.toNat|_=>0
theorem G6 {W:World} {s:ByteArray} (h:Ca W g s n):aaF g W=n:=by
 unfold aaF;rw [(iN h).2.1];simp
theorem WI {l:List UInt8} (h:w.ownsRow base 5 1 v l.length (u8L l)):(convert 98 9 v).run Tryz.prog w = .ok (.string (str l)) w:=by
 have h0:=h
 rcases h.2 with ⟨rfl,h2⟩|⟨g,cap,cur,rfl,hg,hh,_⟩
 ·obtain rfl:l=[]:=List.eq_nil_of_length_eq_zero h2
  exact run_convert_bytes_nil w 98 5 Tryz.underlying98 Tryz.underlying5 0 0 9 Tryz.underlying9
 ·exact run_convert_bytes_back (P:=Tryz.prog) w 98 9 5 ⟨g,0,none⟩ cap l Tryz.underlying98 Tryz.underlying5 Tryz.underlying9 (fun j hj=>by
   have hc:=h0.cellAt j (by omega)
   have e:(u8L l)[j]? = some (.int .u8 ((l[j]).toNat:Int)):=by simp [u8L,hj]
   rw [e] at hc
   unfold Addr.add
   split
   ·subst_vars;exact hc
   ·simpa using hc)
theorem Mx (s:ByteArray) (w:World) (hs:s.size≤281474976710656) :
  Calls Tryz.prog 204 #[.string s] w (adu (kT s.data.toList) w):=by
 by_cases hbig:400<s.size
 ·have hw:kT s.data.toList=([],2):=by unfold kT;rw [if_pos (by simpa using hbig)]
  rw [hw]
  have h1:(s.size:Int)>400:=by omega
  go_enter Tryz.func204,Tryz.ntmps204
  go_wp2_with fail
  go_ret2
  exact ⟨rfl,Below.refl _ _⟩
 ·have hw:kT s.data.toList=(pF (aF s.data.toList),0):=by unfold kT;rw [if_neg (by simpa using hbig)]
  rw [hw]
  have h1:¬ (s.size:Int)>400:=by omega
  have htl:=fU s.data.toList
  have hsl:s.data.toList.length=s.size:=by simp
  rw [hsl] at htl
  have HTL:=Lib.hid htl
  clear htl hsl hw
  go_enter Tryz.func204,Tryz.ntmps204
  go_wp2_with fail
  go_loopw [5] (fun v wr=>∃ (n:Nat) (o:List UInt8),n≤8*s.size∧Ca wr w.heap.size s n∧wr.ownsRow (w.heap.size+1) 5 1 v o.length (u8L o)∧o++pF ((aF s.data.toList).drop n)=pF (aF s.data.toList)∧o.length≤n∧Below w.heap.size w wr) (fun _ wr=>8*s.size-aaF w.heap.size wr)
  case atStart=>exact ⟨0,[],Nat.zero_le _,heap_alloc_new w _,World.ownsRow_nil _ _ _ _,rfl,Nat.le_refl _,(Below.refl _ _).alloc (Nat.le_refl _) _⟩
  case round =>
   obtain ⟨n,o,hn,hsrc,hown,heq,hol,hb⟩:=hrel
   have HE:=Lib.hid heq
   have HS:=Lib.hid hsrc
   have hN:=G6 hsrc
   have hbs:=hb.size
   clear heq hsrc
   by_cases hlt:n<8*s.size
   ·have hp:(((8*s.size-n:Nat)):Int)>0:=by omega
    by_cases h6:6≤8*s.size-n
    ·have hI:(6:Int)≤(((8*s.size-n:Nat)):Int):=by omega
     go_wp2_with fail
     with_reducible refine (rZ w.heap.size s n _ (by omega) hn HS.out).mono ?_
     rintro e w1 ⟨rfl,b1⟩
     have HS1:=Lib.hid (HS.out.below b1)
     go_wp2_with fail
     with_reducible refine (rZ w.heap.size s n _ (by omega) hn HS1.out).mono ?_
     rintro e w2 ⟨rfl,b2⟩
     have HS2:=Lib.hid (HS1.out.below b2)
     go_wp2_with fail
     have G:=O8 w.heap.size s n 6 w2 (by omega) (by omega) (by omega) HS2.out
     rw [show (((6:Nat)):Int)=6 from rfl] at G
     with_reducible refine G.mono ?_
     clear G
     rintro e w3 ⟨rfl,hs3,hk3⟩
     have hdl:((aF s.data.toList).drop n).length=8*s.size-n:=by rw [List.length_drop,HTL.out]
     have hst:=uN ((aF s.data.toList).drop n) (by intro e;rw [e] at hdl;simp at hdl;omega)
     rw [hdl,Nat.min_eq_left h6,List.drop_drop] at hst
     have hbin:=qE (l:=((aF s.data.toList).drop n).take 6) (fun b hb=>lT _ b (List.mem_of_mem_drop (List.mem_of_mem_take hb)))
     rw [List.length_take,hdl,Nat.min_eq_left h6] at hbin
     have HST:=Lib.hid hst
     clear hst hdl
     generalize num (((aF s.data.toList).drop n).take 6)=x at HST hbin ⊢
     have hwr:IntKind.u64.wrap (x:Int)=(x:Int):=IntWalk.u64_in _ (by omega)
     have hidx:(⟨#[65,66,67,68,69,70,71,72,73,74,75,76,77,78,79,80,81,82,83,84,85,86,87,88,89,90,97,98,99,100,101,102,103,104,105,106,107,108,109,110,111,112,113,114,115,116,117,118,119,120,121,122,48,49,50,51,52,53,54,55,56,57,45,95]⟩:ByteArray)[x]'(by exact (show x<64 by omega))=letter x:=Xi x (by omega)
     have hb12:=ig b1 b2
     have ho3:=JM (own_below hown hb12) hk3 (by omega)
     have hb3:Below w.heap.size w w3:=(ig hb hb12).trans (hk3.below (by have:=hb12.size;omega) (fun j hj=>by omega))
     have hz3:w.heap.size+1≤w3.heap.size:=by have:=block_lt hs3;omega
     have HS3:=Lib.hid hs3
     clear hs3 hk3 hown
     go_wp2_with (first
      | (at_builtin
         refine app Hu rfl (.tmp 19) (.tmp 27) rfl (w.heap.size+1) _ o.length _ rfl (ho3.alloc _) (some ⟨w3.heap.size,0,none⟩) 1 1 [.int .u8 (letter x).toNat] (w3.heap.size+1) rfl rfl (Row.lit w3 _ _ _ (by omega)) (by simp [Value.oneCell']) (fun e=>by cases e) (by omega) (by omega) (by simp;omega) ?_
         intro v' w4 o4 g4))
     have hrow:=fun j e=>(ho3.lt j e).1
     have hs4:Ca w4 w.heap.size s (n+6):=by
      have h1:=HS3.out
      simp only [Ca,BH] at h1 ⊢
      rw [g4.block w.heap.size (by simp;omega) (fun e=>by have:=hrow _ e.symm;omega),Below.heap_alloc _ _ _ (by omega),h1]
     refine ⟨⟨n+6,o++[letter x],by omega,hs4,?_,?_,by simp;omega,(hb3.alloc hb3.size _).grown g4 (uy hb3 _).size (fun j e=>by have:=hrow j e;omega)⟩,?_⟩
     ·simpa [u8L] using o4
     ·rw [← HE.out,HST.out];simp
     ·rw [G6 hs4,hN];omega
    ·have hI:¬ (6:Int)≤(((8*s.size-n:Nat)):Int):=by omega
     go_wp2_with fail
     with_reducible refine (rZ w.heap.size s n _ (by omega) hn HS.out).mono ?_
     rintro e w1 ⟨rfl,b1⟩
     have HS1:=Lib.hid (HS.out.below b1)
     go_wp2_with fail
     with_reducible refine (rZ w.heap.size s n _ (by omega) hn HS1.out).mono ?_
     rintro e w2 ⟨rfl,b2⟩
     have HS2:=Lib.hid (HS1.out.below b2)
     go_wp2_with fail
     with_reducible refine (O8 w.heap.size s n (8*s.size-n) w2 (by omega) (by omega) (by omega) HS2.out).mono ?_
     rintro e w3 ⟨rfl,hs3,hk3⟩
     have hdl:((aF s.data.toList).drop n).length=8*s.size-n:=by rw [List.length_drop,HTL.out]
     have hst:=uN ((aF s.data.toList).drop n) (by intro e;rw [e] at hdl;simp at hdl;omega)
     rw [hdl,Nat.min_eq_right (by omega),List.drop_drop] at hst
     have hbin:=qE (l:=((aF s.data.toList).drop n).take (8*s.size-n)) (fun b hb=>lT _ b (List.mem_of_mem_drop (List.mem_of_mem_take hb)))
     rw [List.length_take,hdl,Nat.min_self] at hbin
     have hW:n+(8*s.size-n)≤8*s.size∧0<8*s.size-n:=by omega
     have hS3:Ca w3 w.heap.size s (n+(8*s.size-n)):=hs3
     clear hs3
     generalize 8*s.size-n=W at h6 hI hp hdl hst hbin hW hS3 ⊢
     have hx64:num (((aF s.data.toList).drop n).take W)*2^(6-W)<64:=by
      have h1:2^W*2^(6-W)=64:=by rw [← Nat.pow_add,show W+(6-W)=6 from by omega]
      have h2:=Nat.mul_lt_mul_of_pos_right hbin (show 0<2^(6-W) from Nat.pos_of_ne_zero (by simp))
      omega
     have HST:=Lib.hid hst
     clear hst hdl
     generalize num (((aF s.data.toList).drop n).take W)=x at HST hbin hx64 ⊢
     have hsub:IntKind.i64.wrap ((6:Int)-(W:Int))=((6-W:Nat):Int):=by rw [IntWalk.i64_in _ (by omega)];omega
     have hsub':(6:Int)-(W:Int)=((6-W:Nat):Int):=by omega
     have hx:(x:Int)*2^(6-W)=((x*2^(6-W):Nat):Int):=by simp
     generalize x*2^(6-W)=y at hx hx64 HST
     have hwr:IntKind.u64.wrap ((x:Int)*2^(((6-W:Nat):Int)).toNat)=(y:Int):=by rw [Int.toNat_natCast,hx];exact IntWalk.u64_in _ (by omega)
     clear hx
     have hidx:(⟨#[65,66,67,68,69,70,71,72,73,74,75,76,77,78,79,80,81,82,83,84,85,86,87,88,89,90,97,98,99,100,101,102,103,104,105,106,107,108,109,110,111,112,113,114,115,116,117,118,119,120,121,122,48,49,50,51,52,53,54,55,56,57,45,95]⟩:ByteArray)[y]'(by exact (show y<64 by omega))=letter y:=Xi y (by omega)
     have hb12:=ig b1 b2
     have ho3:=JM (own_below hown hb12) hk3 (by omega)
     have hb3:Below w.heap.size w w3:=(ig hb hb12).trans (hk3.below (by have:=hb12.size;omega) (fun j hj=>by omega))
     have hz3:w.heap.size+1≤w3.heap.size:=by have:=block_lt hS3;omega
     have HS3:=Lib.hid hS3
     clear hS3 hk3 hown
     have hV0:(0:Int)≤((6-W:Nat):Int):=by omega
     generalize ((6-W:Nat):Int)=V at hsub hsub' hwr hV0
     go_wp2_with (first
      | (at_builtin
         refine app Hu rfl (.tmp 19) (.tmp 27) rfl (w.heap.size+1) _ o.length _ rfl (ho3.alloc _) (some ⟨w3.heap.size,0,none⟩) 1 1 [.int .u8 (letter y).toNat] (w3.heap.size+1) rfl rfl (Row.lit w3 _ _ _ (by omega)) (by simp [Value.oneCell']) (fun e=>by cases e) (by omega) (by omega) (by simp;omega) ?_
         intro v' w4 o4 g4))
     have hrow:=fun j e=>(ho3.lt j e).1
     have hs4:Ca w4 w.heap.size s (n+W):=by
      have h1:=HS3.out
      simp only [Ca,BH] at h1 ⊢
      rw [g4.block w.heap.size (by simp;omega) (fun e=>by have:=hrow _ e.symm;omega),Below.heap_alloc _ _ _ (by omega),h1]
     refine ⟨⟨n+W,o++[letter y],by omega,hs4,?_,?_,by simp;omega,(hb3.alloc hb3.size _).grown g4 (uy hb3 _).size (fun j e=>by have:=hrow j e;omega)⟩,?_⟩
     ·simpa [u8L] using o4
     ·rw [← HE.out,HST.out];simp
     ·rw [G6 hs4,hN];omega
   ·obtain rfl:n=8*s.size:=by omega
    have hz:IntKind.i64.wrap 0=0:=rfl
    have hp:¬ (((8*s.size-8*s.size:Nat)):Int)>0:=by omega
    go_wp2_with fail
    with_reducible refine (rZ w.heap.size s (8*s.size) _ (by omega) hn HS.out).mono ?_
    rintro e w1 ⟨rfl,b1⟩
    have he:o=pF (aF s.data.toList):=by
     have h1:=HE.out
     rw [List.drop_of_length_le (by rw [HTL.out];omega)] at h1
     simpa [pF] using h1
    have hown1:=own_below hown b1
    have kb:=WI hown1
    rw [he] at kb
    have hb1:=ig hb b1
    clear he hown hown1 hol
    go_wp2_with fail
    go_ret2
    exact ⟨rfl,hb1⟩
end pG
end Go.Proofs.YtlfdjpgghiemfaaGreatDoor
