/- Texts of the proof, joined: SixtyR, SixtyL, BitsN, SixtyV, SixtyX, BitsM, ConA. -/
import Derived.Test.YtlfdjpgghiemfaaGreatDoorG3
import Derived.Test.YtlfdjpgghiemfaaGreatDoorG24
import Derived.Test.YtlfdjpgghiemfaaGreatDoorG14
import Derived.Laws.IdiomStrings
import Derived.Test.YtlfdjpgghiemfaaGreatDoorG2
import Derived.Test.YtlfdjpgghiemfaaGreatDoorG12
import Derived.Test.YtlfdjpgghiemfaaGreatDoorG11
import Derived.Test.YtlfdjpgghiemfaaGreatDoorG25
set_option maxHeartbeats 4000000
set_option maxRecDepth 100000
section
namespace Go.Proofs.YtlfdjpgghiemfaaGreatDoor.SixtyR
open Go.RowKit Mem BitsP BitsS BitsT SixtyP WordW SixtyW SixtyQ
def RPost (r:List UInt8 × Nat) (w:World) (e:Ending) (w':World):Prop:=e = .returned (.tuple #[.string (str r.1),.int .i64 (r.2:Int)])∧Below w.heap.size w w'
theorem lindex_any (c:UInt8) (w:World) :
  Calls Tryz.prog 71 #[.string ⟨#[65,66,67,68,69,70,71,72,73,74,75,76,77,78,79,80,81,82,83,84,85,86,87,88,89,90,97,98,99,100,101,102,103,104,105,106,107,108,109,110,111,112,113,114,115,116,117,118,119,120,121,122,48,49,50,51,52,53,54,55,56,57,45,95]⟩,.int .u8 c.toNat] w (fun e w'=>e = .returned (.int .i64 (if place c<64 then (place c:Int) else -1))∧w=w'):=by
 have h:=Tryz.strings_IndexByte ⟨#[65,66,67,68,69,70,71,72,73,74,75,76,77,78,79,80,81,82,83,84,85,86,87,88,89,90,97,98,99,100,101,102,103,104,105,106,107,108,109,110,111,112,113,114,115,116,117,118,119,120,121,122,48,49,50,51,52,53,54,55,56,57,45,95]⟩ c.toNat w
 have e:((c.toNat:Int)).toNat.toUInt8=c:=by simp
 rw [e] at h
 have hi:=index_place c
 exact h.mono fun _ _ h=>⟨by rw [← hi];exact h.1,h.2.symm⟩
theorem sink_fresh (w:World) (R:Array Value) (f:Nat × Nat):SinkAt (((w.alloc (.cells #[.slice none 0 0,.int .i64 0] 237)).alloc (.cells R 5 f)).drew) w.heap.size (fun k=>k≠w.heap.size∧k<w.heap.size+2) [] :=
 ⟨fun k hk=>⟨by simp;omega,hk.1⟩,.slice none 0 0,(Below.heap_alloc _ _ _ (by simp)).trans (heap_alloc_new w _),(fun k h=>by cases h),World.ownsRow_nil _ _ _ _⟩
theorem take_snocB (s:ByteArray) (k:Nat) (h:k<s.size):s.data.toList.take (k+1)=s.data.toList.take k++[s[k]]:=by
 rw [List.take_succ_eq_append_getElem (by simpa using h)];rfl
theorem known_bad (s:ByteArray) (k:Nat) (h:k<s.size) (hp:¬ place s[k]<64):known s.data.toList=false:=by
 have e:s.data.toList=s.data.toList.take (k+1)++s.data.toList.drop (k+1):=(List.take_append_drop _ _).symm
 rw [e,take_snocB s k h,known_app,known_app];simp [known,hp]
theorem btx_sizeL (l:List Nat):(btx l).size=(l.length+7)/8:=by simp [btx,ByteArray.size,packB_len]
theorem ctrim_any (s:ByteArray) (w:World) (hs:s.size≤9223372036854775807) :
  Calls Tryz.prog 168 #[.string s,.string ⟨#[0]⟩] w (Gives (.string (str (Lib.trimB s.data.toList 0))) w) :=
 (Tryz.strings_Trim_one s 0 (by decide) w hs).mono fun e w' h=>⟨h.1,by
  rcases h.2 with h|h
  ·rw [h];exact Below.refl _ _
  ·rw [h];exact ⟨rfl,rfl,rfl,Nat.le_refl _,fun _ _=>rfl⟩⟩
theorem sread_any (t:ByteArray) (w:World) (hs:t.size≤140737488355328) :
  Calls Tryz.prog 146 #[.string t] w (RPost (readF t.data.toList) w):=by
 have kc:=fun (w:World) (s:ByteArray)=>run_bytes_of_string (P:=Tryz.prog) w 9 98 5 s Tryz.underlying9 Tryz.underlying98 Tryz.underlying5
 have htl:t.data.toList.length=t.size:=by simp
 go_enter Tryz.func146,Tryz.ntmps146
 go_wp2_with fail
 generalize grownCap (w.alloc (.cells #[.slice none 0 0,.int .i64 0] 237)) t.size 0 5=C
 have hR:∀ k (hk:k<t.size),(bytesRow t C)[k]? = some (.int .u8 (t[k].toNat:Int)):=fun k hk=>bytesRow_at t C k hk
 have hK0:Kept (fun k=>k<w.heap.size) w (((w.alloc (.cells #[.slice none 0 0,.int .i64 0] 237)).alloc (.cells (bytesRow t C) 5 ((bytesRow t C).size,(bytesRow t C).size+1))).drew):=(((Kept.refl _ _).alloc _).alloc _).drew
 have hS0:=sink_fresh w (bytesRow t C) ((bytesRow t C).size,(bytesRow t C).size+1)
 have hC0:∀ k (hk:k<t.size),(((w.alloc (.cells #[.slice none 0 0,.int .i64 0] 237)).alloc (.cells (bytesRow t C) 5 ((bytesRow t C).size,(bytesRow t C).size+1))).drew).cell? ⟨w.heap.size+1,k,none⟩=some (.int .u8 (t[k].toNat:Int)):=fun k hk=>by
  have h1:(((w.alloc (.cells #[.slice none 0 0,.int .i64 0] 237)).alloc (.cells (bytesRow t C) 5 ((bytesRow t C).size,(bytesRow t C).size+1))).drew).heap[w.heap.size+1]? = some (.cells (bytesRow t C) 5 ((bytesRow t C).size,(bytesRow t C).size+1)):=by
   have h2:((w.alloc (.cells #[.slice none 0 0,.int .i64 0] 237)).alloc (.cells (bytesRow t C) 5 ((bytesRow t C).size,(bytesRow t C).size+1))).heap[w.heap.size+1]? = some (.cells (bytesRow t C) 5 ((bytesRow t C).size,(bytesRow t C).size+1)):=by
    simpa using heap_alloc_new (w.alloc (.cells #[.slice none 0 0,.int .i64 0] 237)) (.cells (bytesRow t C) 5 ((bytesRow t C).size,(bytesRow t C).size+1))
   exact h2
  simp only [World.cell?,h1]
  exact hR k hk
 have hz0:w.heap.size+2≤(((w.alloc (.cells #[.slice none 0 0,.int .i64 0] 237)).alloc (.cells (bytesRow t C) 5 ((bytesRow t C).size,(bytesRow t C).size+1))).drew).heap.size:=by simp
 clear hR
 generalize (((w.alloc (.cells #[.slice none 0 0,.int .i64 0] 237)).alloc (.cells (bytesRow t C) 5 ((bytesRow t C).size,(bytesRow t C).size+1))).drew)=W0 at hK0 hS0 hC0 hz0 ⊢
 have HC:=Lib.hid hC0
 have HTL:=Lib.hid htl
 clear hC0 htl kc
 go_loopw [14] (fun i wr=>∃ k:Nat,k≤t.size∧i = .int .i64 k∧known (t.data.toList.take k)=true∧SinkAt wr w.heap.size (fun k=>k≠w.heap.size∧k<w.heap.size+2) (dbits (t.data.toList.take k))∧Kept (fun k=>k≠w.heap.size∧k<w.heap.size+2) W0 wr) (fun i _=>t.size-(intOf i).toNat)
 case atStart=>exact ⟨0,Nat.zero_le _,rfl,rfl,hS0,Kept.refl _ _⟩
 case round =>
  clear hS0
  obtain ⟨k,hk,rfl,hkn,hsink,hkept⟩:=hrel
  have HKN:=Lib.hid hkn
  have HS:=Lib.hid hsink
  have hsz:=hkept.size
  have hbl:Below w.heap.size w wr:=(hK0.below (Nat.le_refl _) (fun j hj=>hj)).trans (hkept.below (by omega) (fun j hj=>by omega))
  clear hkn hsink
  by_cases hlt:k<t.size
  ·have hcell:=(hkept.cell (q:=⟨w.heap.size+1,k,none⟩) (by simp;omega) (by simp)).trans (HC.out k hlt)
   have htk:=take_snocB t k hlt
   have hbad:=known_bad t k hlt
   have hbin:=dbits_bin (t.data.toList.take k)
   have hdl:=dbits_len (t.data.toList.take k)
   have htl:(t.data.toList.take k).length≤k:=List.length_take_le _ _
   generalize t[k]=c at hcell htk hbad
   have CI:=Lib.hid (fun w'=>lindex_any c w')
   by_cases hp:place c<64
   ·have CI:=CI.out
    simp only [if_pos hp] at CI
    have CI:=Lib.hid CI
    have hkn1:known (t.data.toList.take (k+1))=true:=by rw [htk,known_app,HKN.out];simp [known,hp]
    have hdb1:dbits (t.data.toList.take (k+1))=dbits (t.data.toList.take k)++bitsOf (place c) 6:=by rw [htk,dbits_app];simp [dbits]
    have HB1:=Lib.hid hdb1
    have HKN1:=Lib.hid hkn1
    clear htk hbad hkn1 hdb1
    generalize place c=x at hp CI HB1
    have hwx:IntKind.u64.wrap (x:Int)=(x:Int):=IntWalk.u64_in _ (by omega)
    go_wp2_with fail
    refine (CI.out _).mono ?_
    rintro e w1 ⟨rfl,rfl⟩
    go_wp2_with fail
    have CP:=put_any w.heap.size (fun k=>k≠w.heap.size∧k<w.heap.size+2) (dbits (t.data.toList.take k)) x 6 (by omega) (by omega) wr hbin (by omega) HS.out
    rw [show (((6:Nat)):Int)=6 from rfl] at CP
    with_reducible refine CP.mono ?_
    clear CP
    rintro e w2 ⟨rfl,hs2,hk2⟩
    go_wp2_with fail
    go_roundw
    case rel=>exact ⟨k+1,by omega,by go_num,HKN1.out,by rw [HB1.out];exact hs2,hkept.trans hk2⟩
    case measure=>simp [intOf];omega
   ·have CI:=CI.out
    simp only [if_neg hp] at CI
    have CI:=Lib.hid CI
    have hr:=read_bad (hbad hp)
    rw [hr]
    clear htk hbad hr
    go_wp2_with fail
    refine (CI.out _).mono ?_
    rintro e w1 ⟨rfl,rfl⟩
    go_wp2_with fail
    go_ret2
    exact ⟨rfl,hbl⟩
  ·obtain rfl:k=t.size:=by omega
   have hall:t.data.toList.take t.size=t.data.toList:=List.take_of_length_le (by rw [HTL.out];omega)
   have hkn:=HKN.out
   have hsk:=HS.out
   rw [hall] at hkn hsk
   have hbin:=dbits_bin t.data.toList
   have hdl:=dbits_len t.data.toList
   rw [HTL.out] at hdl
   have hbs:(btx (dbits t.data.toList)).size=(6*t.size+7)/8:=by rw [btx_sizeL,hdl]
   have htake:(btx (dbits t.data.toList)).extract 0 (t.size*6/8)=str (((packB (dbits t.data.toList)).map UInt8.ofNat).take (t.size*6/8)):=by rw [Lib.extract_upto];simp [btx,str]
   have htr:=trim_tail (dbits t.data.toList) hbin
   rw [hdl,show 6*t.size/8=t.size*6/8 from by omega] at htr
   have CT:=fun w'=>ctrim_any ((btx (dbits t.data.toList)).extract (t.size*6/8) (btx (dbits t.data.toList)).size) w' (by simp;omega)
   have hext:((btx (dbits t.data.toList)).extract (t.size*6/8) (btx (dbits t.data.toList)).size).data.toList=((packB (dbits t.data.toList)).map UInt8.ofNat).drop (t.size*6/8):=by rw [Lib.extract_from];simp [btx]
   rw [hext] at CT
   have CX:=fun w' h=>text_any (T:=237) w.heap.size (fun k=>k≠w.heap.size∧k<w.heap.size+2) (dbits t.data.toList) w' hbin h
   have r1:=read_one hkn
   have r2:=read_many hkn
   have r3:=read_rest hkn
   have r4:=read_ok hkn
   rw [HTL.out] at r1 r2 r3 r4
   clear hext hall hkn
   have hm1:IntKind.i64.wrap ((t.size:Int)*6)=(t.size:Int)*6:=IntWalk.i64_in _ (by omega)
   have hm2:IntKind.i64.wrap ((t.size:Int)*6/8)=((t.size*6/8:Nat):Int):=by rw [IntWalk.i64_in _ (by omega)];omega
   have hm7:(t.size:Int)*6/8=((t.size*6/8:Nat):Int):=by omega
   have hm3:t.size*6/8≤(btx (dbits t.data.toList)).size:=by rw [hbs];omega
   have hm4:(t.size:Int).tmod 4=((t.size % 4:Nat):Int):=by rw [Int.tmod_eq_emod_of_nonneg (by omega)];omega
   clear hbs
   generalize btx (dbits t.data.toList)=b at htake CT CX hm3
   generalize Lib.trimB (((packB (dbits t.data.toList)).map UInt8.ofNat).drop (t.size*6/8)) 0=tr at CT htr
   generalize num ((dbits t.data.toList).drop (8*(t.size*6/8)))=nr at htr r3 r4
   generalize ((packB (dbits t.data.toList)).map UInt8.ofNat).take (t.size*6/8)=tk at htake r4
   generalize t.size*6/8=m at hm2 hm7 hm3 htake CT r2 r3 r4
   have CX:=Lib.hid CX
   have CT:=Lib.hid CT
   have HTK:=Lib.hid htake
   clear htake
   have hm5:(m:Int)≤(b.size:Int):=by omega
   by_cases h1:t.size % 4=1
   ·have HR:=Lib.hid (r1 h1)
    rw [h1] at hm4
    clear r1 r2 r3 r4 htr h1
    go_wp2_with fail
    refine (CX.out _ hsk).mono ?_
    rintro e w1 ⟨rfl,rfl⟩
    go_wp2_with fail
    go_ret2
    exact ⟨by rw [HR.out];rfl,hbl⟩
   ·have hm6:(((t.size % 4:Nat):Int)==1)=false:=by rw [beq_eq_false_iff_ne];omega
    generalize ((t.size % 4:Nat):Int)=q at hm4 hm6
    by_cases h2:400<m
    ·have HR:=Lib.hid (r2 h1 h2)
     have hi2:(m:Int)>400:=by omega
     clear r1 r2 r3 r4 htr h1 h2
     go_wp2_with fail
     refine (CX.out _ hsk).mono ?_
     rintro e w1 ⟨rfl,rfl⟩
     go_wp2_with fail
     go_ret2
     exact ⟨by rw [HR.out];rfl,hbl⟩
    ·have hi2:¬ (m:Int)>400:=by omega
     by_cases h3:nr=0
     ·have HR:=Lib.hid (r4 h1 h2 h3)
      obtain rfl:tr=[]:=htr.2 h3
      have hu:(str []).toList.isEmpty=true:=by rw [ByteArray.toList_eq];rfl
      clear r1 r2 r3 r4 htr h1 h2 h3
      go_wp2_with fail
      refine (CX.out _ hsk).mono ?_
      rintro e w1 ⟨rfl,rfl⟩
      go_wp2_with fail
      refine (CT.out _).mono ?_
      rintro e w2 ⟨rfl,b2⟩
      have hb2:=hbl.trans (b2.mono (by have:=hbl.size;omega))
      go_wp2_with fail
      go_ret2
      exact ⟨by rw [HR.out,HTK.out];rfl,hb2⟩
     ·have HR:=Lib.hid (r3 h1 h2 h3)
      have hu:(str tr).toList.isEmpty=false:=by
       rw [ByteArray.toList_eq,List.isEmpty_eq_false_iff]
       intro e;exact h3 (htr.1 (by simpa [str] using e))
      clear r1 r2 r3 r4 htr h1 h2 h3
      go_wp2_with fail
      refine (CX.out _ hsk).mono ?_
      rintro e w1 ⟨rfl,rfl⟩
      go_wp2_with fail
      refine (CT.out _).mono ?_
      rintro e w2 ⟨rfl,b2⟩
      have hb2:=hbl.trans (b2.mono (by have:=hbl.size;omega))
      go_wp2_with fail
      go_ret2
      exact ⟨by rw [HR.out];rfl,hb2⟩
end Go.Proofs.YtlfdjpgghiemfaaGreatDoor.SixtyR
end
section
namespace Go.Proofs.YtlfdjpgghiemfaaGreatDoor.SixtyL
open Go.RowKit Mem BitsP BitsS BitsT SixtyP WordW SixtyW SixtyQ SixtyR
def Two (a:ByteArray) (n:Int) (w:World) (e:Ending) (w':World):Prop:=e = .returned (.tuple #[.string a,.int .i64 n])∧Below w.heap.size w w'
theorem read_code (t:List UInt8):(∃ a,readF t=(a,0))∨readF t=([],1)∨readF t=([],2):=by
 unfold readF
 repeat' split
 all_goals first|exact .inr (.inl rfl)|exact .inr (.inr rfl)|exact .inl ⟨_,rfl⟩
end Go.Proofs.YtlfdjpgghiemfaaGreatDoor.SixtyL
end
section
namespace Go.Proofs.YtlfdjpgghiemfaaGreatDoor.BitsN
open Go.RowKit Mem BitsP BitsS BitsT OneB
def ints (l:List Nat):List Value:=l.map fun n:Nat=>Value.int .i64 (n:Int)
abbrev IRow (w:World) (B:Nat) (A:Option Addr) (l:List Nat):Prop:=Row w B A (ints l)
def part (l:List Nat) (a:Nat):Nat→Nat
 | 0=>0
 | k+1=>part l a k*2+l.getD (a+k) 0
def bytesOf (l:List Nat) (j:Nat):ByteArray:=⟨((List.range j).map fun i=>UInt8.ofNat (byteAt l i)).toArray⟩
end Go.Proofs.YtlfdjpgghiemfaaGreatDoor.BitsN
end
section
namespace Go.Proofs.YtlfdjpgghiemfaaGreatDoor.SixtyV
open Go.RowKit Mem BitsP BitsS BitsT SixtyP WordW SixtyW SixtyQ SixtyR SixtyL OneB BitsN
def nk (d:List UInt8):Nat→Nat
 | 0=>0
 | k+1=>nk d k*256+(d.getD k 0).toNat
def four (n:Nat):List UInt8:=[letter (n/262144),letter (n/4096 % 64),letter (n/64 % 64),letter (n % 64)]
end Go.Proofs.YtlfdjpgghiemfaaGreatDoor.SixtyV
end
section
namespace Go.Proofs.YtlfdjpgghiemfaaGreatDoor.SixtyX
open Go.RowKit Mem BitsP BitsS BitsT SixtyP WordW SixtyW SixtyQ SixtyR SixtyL OneB BitsN SixtyV
end Go.Proofs.YtlfdjpgghiemfaaGreatDoor.SixtyX
end
section
namespace Go.Proofs.YtlfdjpgghiemfaaGreatDoor.BitsM
open Go.RowKit Mem BitsP BitsS BitsT OneB BitsN
end Go.Proofs.YtlfdjpgghiemfaaGreatDoor.BitsM
end
section
namespace Go.Proofs.YtlfdjpgghiemfaaGreatDoor.ConA
open Go.RowKit Mem Abs BitsP BitsS BitsT SixtyP SixtyW SixtyQ SixtyR SixtyL OneB BitsN SixtyV SixtyX BitsM ConC
theorem fz_two {N:Nat→Prop} {w:World} {a b:V} {x y:Value} (ha:Fz N w a x) (hb:Fz N w b y):Fz N w (.tup [a,b]) (.tuple #[x,y]):=.tup rfl fun i x c hx hc=>by
 have hi:i<2:=(List.getElem?_eq_some_iff.1 hx).1
 have:i=0∨i=1:=by omega
 rcases this with rfl|rfl<;>(cases hx;cases hc)
 ·exact ha
 ·exact hb
theorem enc_small {l:List UInt8}:(str (writeF l).1).size≤SLIM:=by
 rw [str_size]
 unfold writeF
 split
 ·exact Nat.zero_le _
 ·rw [enc6_len _ _ (Nat.le_refl _),tbits_len]
  unfold SLIM;omega
theorem dec_small {l:List UInt8}:(str (readF l).1).size≤SLIM:=by
 rw [str_size]
 by_cases h:(readF l).2=0
 ·have:=(write_read l h).1
  unfold SLIM;omega
 ·rw [read_none l h];exact Nat.zero_le _
theorem code_in {n:Nat} (h:n≤2):InR .i64 (n:Int):=⟨by show (-9223372036854775808:Int)≤_;omega,by show _≤(9223372036854775807:Int);omega⟩
theorem wcode {l:List UInt8}:(writeF l).2≤2:=by unfold writeF;split<;>simp
theorem rcode {l:List UInt8}:(readF l).2≤2:=by
 rcases read_code l with ⟨a,h⟩|h|h<;>rw [h]<;>simp
abbrev sixT (r:List UInt8 × Nat):V:=.tup [strT r.1,.int .i64 (r.2:Int)]
theorem sixW_v {l:List UInt8} (hl:l.length≤281474976710656):ACalls Tryz.prog 204 [strT l] (sixT (writeF l)):=fun g N w vs hG hN hlen hv=>by
 obtain ⟨vs⟩:=vs
 match vs,hlen with
 | [x0],_ =>
  obtain ⟨rfl,_⟩:=fz_str (hv 0 _ x0 rfl rfl)
  refine (swrite_any (str l) w (by rw [str_size];exact hl)).mono fun e w' ⟨h1,h2⟩=>⟨_,h1,h2,?_⟩
  rw [str_toList]
  exact fz_two (.str enc_small) (.int (code_in wcode))
theorem sixR_v {l:List UInt8} (hl:l.length≤140737488355328):ACalls Tryz.prog 146 [strT l] (sixT (readF l)):=fun g N w vs hG hN hlen hv=>by
 obtain ⟨vs⟩:=vs
 match vs,hlen with
 | [x0],_ =>
  obtain ⟨rfl,_⟩:=fz_str (hv 0 _ x0 rfl rfl)
  refine (sread_any (str l) w (by rw [str_size];exact hl)).mono fun e w' ⟨h1,h2⟩=>⟨_,h1,h2,?_⟩
  rw [str_toList]
  exact fz_two (.str dec_small) (.int (code_in rcode))
end Go.Proofs.YtlfdjpgghiemfaaGreatDoor.ConA
end
