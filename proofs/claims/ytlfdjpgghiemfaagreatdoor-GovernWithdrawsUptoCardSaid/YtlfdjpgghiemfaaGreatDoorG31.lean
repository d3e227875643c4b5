/- Texts of the proof, joined: SufR, PathW, PathL, GovC, Bld. -/
import Derived.Test.YtlfdjpgghiemfaaGreatDoorG14
import Derived.Test.YtlfdjpgghiemfaaGreatDoorG29
import Derived.WalkKit
import Derived.WalkLawsBesides
import Derived.WalkSpells
import Derived.Lib.Hide
import Derived.Deep.QuietTactic
import Derived.BigQuiet
import Derived.Outline
import Derived.RowKit3
import Derived.Test.YtlfdjpgghiemfaaGreatDoorG30
import Derived.Test.YtlfdjpgghiemfaaGreatDoorG17
import Derived.Test.YtlfdjpgghiemfaaGreatDoorG11
set_option maxHeartbeats 4000000
set_option maxRecDepth 100000
section
namespace Go.Proofs.YtlfdjpgghiemfaaGreatDoor.SufR
open Go.RowKit Mem Abs HostP HostO HostA HostB HostC HostD HostE HostF HostG TreeW WordP WordS Globs SufP SufW
theorem zip_fst (L:List Suffix):L.zipIdx.map (·.1)=L:=List.zipIdx_map_fst 0 L
theorem has_r {L:List Suffix} {kd:Int} {d:List UInt8}:MCalls Tryz.prog 232 [.mp 0,.int .i64 kd,strT d] [.map (L.zipIdx.map mk)] (.bool (rIn L kd d)) [some (.map (L.zipIdx.map mk))]:=by
 have h:=has_v (M:=L.zipIdx) (a:=⟨kd,d⟩)
 rw [zip_fst] at h
 exact h
theorem zip_on {L:List Suffix} {k:Nat} {r:Suffix} (h:L[k]? = some r):(L.take (k+1)).zipIdx=(L.take k).zipIdx++[(r,k)]:=by
 obtain ⟨hk,rfl⟩:=List.getElem?_eq_some_iff.1 h
 rw [List.take_succ_eq_append_getElem hk,List.zipIdx_append]
 simp [Nat.min_eq_left (Nat.le_of_lt hk)]
def lastD (h:List UInt8) (xs:List (List UInt8)):List UInt8:=(xs.getLast?).getD h
theorem last_on {h d:List UInt8} {xs:List (List UInt8)} {k:Nat} (e:xs[k]? = some d):lastD h (xs.take (k+1))=d:=by
 obtain ⟨hk,rfl⟩:=List.getElem?_eq_some_iff.1 e
 unfold lastD
 rw [List.take_succ_eq_append_getElem hk,List.getLast?_concat]
 rfl
def bstD (L:List Suffix) (xs:List (List UInt8)):List UInt8:=(xs.find? (bIn L)).getD []
theorem bst_on {L:List Suffix} {d:List UInt8} {xs:List (List UInt8)} {k:Nat} (e:xs[k]? = some d) (hne:∀ x∈xs,x≠[]):bstD L (xs.take (k+1))=if bstD L (xs.take k)≠[] then bstD L (xs.take k) else if bIn L d then d else []:=by
 unfold bstD
 rw [find_on e]
 cases hf:(xs.take k).find? (bIn L) with
 | none =>
  simp only [Option.none_or,Option.getD_none,ne_eq,not_true_eq_false,if_false]
  cases bIn L d<;>rfl
 | some x =>
  have:x≠[]:=hne x (List.mem_of_mem_take (List.mem_of_find?_eq_some hf))
  simp [this]
theorem pub_prog {L:List Suffix} {h:List UInt8} (ha:address h=false) (hne:∀ x∈ch h,x≠[]) (hq:∀ (j:Nat) c,(ch h)[j]? = some c→rIn L 3 c=false):pubF L h=if bstD L (ch h)=[] then lastD h (ch h) else bstD L (ch h):=by
 unfold pubF
 rw [ha,find_no.2 hq]
 unfold bstD lastD
 simp only [Bool.false_eq_true,if_false]
 cases hf:(ch h).find? (bIn L) with
 | none=>simp
 | some x =>
  have:x≠[]:=hne x (List.mem_of_find?_eq_some hf)
  simp [this]
theorem pub_exc {L:List Suffix} {h d:List UInt8} {k:Nat} (ha:address h=false) (hd:(ch h)[k]? = some d) (hr:rIn L 3 d=true) (hq:∀ (j:Nat) c,j<k→(ch h)[j]? = some c→rIn L 3 c=false):pubF L h=up d:=by
 unfold pubF
 rw [ha,find_idx.2 ⟨k,hd,hr,hq⟩]
 rfl
theorem ch_len (h:List UInt8):(ch h).length≤h.length+1:=by
 have:=after_len h
 unfold ch;simp;omega
theorem raw_v {L:List Suffix} {h:List UInt8} (hL:Rules L) (hh:Hst h):ACallsG Tryz.prog gStr 178 [sufT L,strT h] (strT (pubF L h)):=ACallsG.lim fun hl=>by
 have hlim:=(fro_lim hl).1
 have hlen:=hh.len
 have c1:=address_v (l:=h) (by omega)
 have hx:((L.map Suffix.v).length:Int)=(L.length:Int):=by simp
 cases ha:address h with
 | true =>
  have e:pubF L h=[]:=by unfold pubF;rw [ha];rfl
  rw [e]
  rw [ha] at c1
  refine funG2 tb_ok Tryz.func178 rfl Tryz.ntmps178 Tryz.results178 rfl fun N=>?_
  repeat' (first|refine zt ?_|(refine isR ?_;first|refine zo ?_|refine zk c1 ?_|refine zA ?_|refine zL ?_|refine zc1 ?_|refine zc5 ?_|refine zc6 ?_|refine zI ?_)|refine zr ?_|exact x_le)
  rfl
 | false =>
  rw [ha] at c1
  have c2:=ups_v (l:=h) (by omega)
  rw [ups_ch hh.ne ha] at c2
  have hne:∀ x∈ch h,x≠[]:=fun x hx=>(hh.mem hx).ne
  have hcl:=ch_len h
  have hp1:=pub_prog (L:=L) ha hne
  have hp2:∀ k d,_→_→_→_:=fun k d=>pub_exc (L:=L) (h:=h) (d:=d) (k:=k) ha
  generalize pubF L h=p at *
  generalize ch h=xs at *
  have hxs:((xs.map strT).length:Int)=(xs.length:Int):=by simp
  refine funG2 tb_ok Tryz.func178 rfl Tryz.ntmps178 Tryz.results178 rfl fun N=>?_
  repeat' (first|refine zt ?_|(refine isR ?_;first|refine zo ?_|refine zk c1 ?_|refine zA ?_|refine zL ?_|refine zc1 ?_|refine zc5 ?_|refine zc6 ?_|refine zI ?_|refine zM ?_)|refine zr ?_|exact x_le)
  refine awp_for (fun k=>⟨[(0,sufT L),(1,strT h),(5,.mp 0),(15,sufT L),(16,.int .i64 (L.map Suffix.v).length),(17,.int .i64 (k:Int))],[(0,some (.map ((L.take k).zipIdx.map mk)))],1,63⟩) (fun k=>k≤L.length) L.length 0 (by exact x_le) (Nat.zero_le _) ?_
  intro k hk
  by_cases hk2:k<L.length
  ·have e1:(L.map Suffix.v)[k]? = some (L[k]).v:=by simp [hk2]
   have e2:L[k]? = some L[k]:=by simp [hk2]
   generalize L[k]=r at e1 e2
   have hnew:findE ekS r.v ((L.take k).zipIdx.map mk) 0=none:=by
    rcases find_suf r (L.take k).zipIdx with ⟨_,h⟩|⟨h,_⟩
    ·exact h
    ·rw [zip_fst] at h
     exact absurd h (hL.once k r e2)
   have ez:=zip_on e2
   repeat' (first|refine zt ?_|(refine isR ?_;first|refine zo ?_|refine x_putNew mk (r,k) tb_ok ?_|refine zA ?_|refine zL ?_|refine zc1 ?_|refine zc5 ?_|refine zc6 ?_|refine zI ?_|refine zM ?_)|refine zr ?_|exact x_le)
   rw [ez]
   exact ⟨by omega,hk2,(by exact x_le)⟩
  ·have ek:L.take k=L:=List.take_of_length_le (by omega)
   rw [ek]
   repeat' (first|refine zt ?_|(refine isR ?_;first|refine zo ?_|refine zk c2 ?_|refine zA ?_|refine zL ?_|refine zc1 ?_|refine zc5 ?_|refine zc6 ?_|refine zI ?_)|refine zr ?_|exact x_le)
   refine awp_for (fun k=>⟨[(0,sufT L),(1,strT h),(5,.mp 0),(8,strT (bstD L (xs.take k))),(9,strT (lastD h (xs.take k))),(28,strsT xs),(29,.int .i64 (xs.map strT).length),(30,.int .i64 (k:Int))],[(0,some (.map (L.zipIdx.map mk)))],1,63⟩) (fun k=>k≤xs.length∧Upto (fun d => !rIn L 3 d) xs k) xs.length 0 (by exact x_le) ⟨Nat.zero_le _,upto0⟩ ?_
   intro k ⟨hk,hq⟩
   by_cases hk2:k<xs.length
   ·have e1:(xs.map strT)[k]? = some (strT xs[k]):=by simp [hk2]
    have e2:xs[k]? = some xs[k]:=by simp [hk2]
    generalize xs[k]=d at e1 e2
    have c3:=has_r (L:=L) (kd:=3) (d:=d)
    have c4:=has_r (L:=L) (kd:=1) (d:=d)
    have c5:=has_r (L:=L) (kd:=2) (d:=up d)
    have c6:=above_v (l:=d)
    cases h3:rIn L 3 d with
    | true =>
     rw [h3] at c3
     repeat' (first|refine zt ?_|(refine isR ?_;first|refine zo ?_|refine x_m [0] [] (c3 _) ?_|refine x_m [0] [] (c3) ?_|refine zk c6 ?_|refine zA ?_|refine zL ?_|refine zc1 ?_|refine zc5 ?_|refine zc6 ?_|refine zI ?_)|refine zr ?_|exact x_le)
     rw [hp2 k d e2 h3 fun j c hj hc=>by have:=hq j c hj hc;simpa using this]
     rfl
    | false =>
     rw [h3] at c3
     have hb:=bst_on (L:=L) e2 hne
     have hla:=last_on (h:=h) e2
     have hB:bIn L d=(rIn L 1 d||rIn L 2 (up d)):=rfl
     have hq2:=hq.on e2 (by rw [h3];rfl)
     generalize bstD L (xs.take k)=b at *
     generalize lastD h (xs.take k)=la at *
     by_cases hb0:b=[]
     ·subst hb0
      simp only [ne_eq,not_true_eq_false,if_false] at hb
      cases h1:rIn L 1 d with
      | true =>
       rw [h1] at c4 hB
       rw [hB,Bool.true_or,if_pos rfl] at hb
       repeat' (first|refine zt ?_|(refine isR ?_;first|refine zo ?_|refine x_m [0] [] (c3 _) ?_|refine x_m [0] [] (c3) ?_|refine x_m [0] [] (c4 _) ?_|refine x_m [0] [] (c4) ?_|refine zk c6 ?_|refine zA ?_|refine zL ?_|refine zc1 ?_|refine zc5 ?_|refine zc6 ?_|refine zI ?_)|refine zr ?_|exact x_le)
       rw [hb,hla]
       exact ⟨⟨by omega,hq2⟩,hk2,(by exact x_le)⟩
      | false =>
       rw [h1] at c4 hB
       rw [Bool.false_or] at hB
       by_cases hu:up d=[]
       ·have h2:rIn L 2 (up d)=false:=by
         unfold rIn
         rw [decide_eq_false_iff_not,hu]
         intro hmem
         exact ((bad_ok (hL.ok _ hmem)).2.2.1.ne) rfl
        rw [hB,h2] at hb
        rw [hu] at c6
        repeat' (first|refine zt ?_|(refine isR ?_;first|refine zo ?_|refine x_m [0] [] (c3 _) ?_|refine x_m [0] [] (c3) ?_|refine x_m [0] [] (c4 _) ?_|refine x_m [0] [] (c4) ?_|refine zk c6 ?_|refine zA ?_|refine zL ?_|refine zc1 ?_|refine zc5 ?_|refine zc6 ?_|refine zI ?_)|refine zr ?_|exact x_le)
        rw [hb,hla]
        exact ⟨⟨by omega,hq2⟩,hk2,(by exact x_le)⟩
       ·cases h2:rIn L 2 (up d) with
        | true =>
         rw [h2] at c5
         rw [hB,h2,if_pos rfl] at hb
         repeat' (first|refine zt ?_|(refine isR ?_;first|refine zo ?_|refine x_m [0] [] (c3 _) ?_|refine x_m [0] [] (c3) ?_|refine x_m [0] [] (c4 _) ?_|refine x_m [0] [] (c4) ?_|refine x_m [0] [] (c5 _) ?_|refine x_m [0] [] (c5) ?_|refine zk c6 ?_|refine zA ?_|refine zL ?_|refine zc1 ?_|refine zc5 ?_|refine zc6 ?_|refine zI ?_)|refine zr ?_|exact x_le)
         rw [hb,hla]
         exact ⟨⟨by omega,hq2⟩,hk2,(by exact x_le)⟩
        | false =>
         rw [h2] at c5
         rw [hB,h2] at hb
         repeat' (first|refine zt ?_|(refine isR ?_;first|refine zo ?_|refine x_m [0] [] (c3 _) ?_|refine x_m [0] [] (c3) ?_|refine x_m [0] [] (c4 _) ?_|refine x_m [0] [] (c4) ?_|refine x_m [0] [] (c5 _) ?_|refine x_m [0] [] (c5) ?_|refine zk c6 ?_|refine zA ?_|refine zL ?_|refine zc1 ?_|refine zc5 ?_|refine zc6 ?_|refine zI ?_)|refine zr ?_|exact x_le)
         rw [hb,hla]
         exact ⟨⟨by omega,hq2⟩,hk2,(by exact x_le)⟩
     ·rw [if_pos hb0] at hb
      repeat' (first|refine zt ?_|(refine isR ?_;first|refine zo ?_|refine x_m [0] [] (c3 _) ?_|refine x_m [0] [] (c3) ?_|refine zA ?_|refine zL ?_|refine zc1 ?_|refine zc5 ?_|refine zc6 ?_|refine zI ?_)|refine zr ?_|exact x_le)
      rw [hb,hla]
      exact ⟨⟨by omega,hq2⟩,hk2,(by exact x_le)⟩
   ·have ek:xs.take k=xs:=List.take_of_length_le (by omega)
    rw [ek]
    have hp1:=hp1 fun j c hc=>by
     have:=hq j c (by have:=(List.getElem?_eq_some_iff.1 hc).1;omega) hc
     simpa using this
    generalize bstD L xs=b at *
    generalize lastD h xs=la at *
    by_cases hb0:b=[]
    ·rw [if_pos hb0] at hp1
     repeat' (first|refine zt ?_|(refine isR ?_;first|refine zo ?_|refine zA ?_|refine zL ?_|refine zc1 ?_|refine zc5 ?_|refine zc6 ?_|refine zI ?_)|refine zr ?_|exact x_le)
     rw [hp1];rfl
    ·rw [if_neg hb0] at hp1
     repeat' (first|refine zt ?_|(refine isR ?_;first|refine zo ?_|refine zA ?_|refine zL ?_|refine zc1 ?_|refine zc5 ?_|refine zc6 ?_|refine zI ?_)|refine zr ?_|exact x_le)
     rw [hp1];rfl
end Go.Proofs.YtlfdjpgghiemfaaGreatDoor.SufR
end
section
namespace Go.Proofs.YtlfdjpgghiemfaaGreatDoor.PathW
open Go.RowKit
theorem ret_str {a b:List UInt8} (h:a=b):Ending.returned (.string ⟨a.toArray⟩) = .returned (.string ⟨b.toArray⟩):=by rw [h]
theorem ret_strb {a:ByteArray} {b:List UInt8} (h:a.data.toList=b):Ending.returned (.string a) = .returned (.string ⟨b.toArray⟩):=by subst h;rfl
theorem last_any (s:ByteArray) (w:World) (hs:s.size≤9223372036854775807) :
  Calls Tryz.prog 174 #[.string s,.int .u8 47] w fun e w'=>e = .returned (.int .i64 (Lib.Pa.lastIndexByte s.data.toList 47))∧w'=w:=by
 go_enter Tryz.func174,Tryz.ntmps174
 go_wp2_with fail
 refine (Tryz.bytealg_LastIndexByteString s 47 _ hs).mono ?_
 rintro e w' ⟨rfl,rfl⟩
 go_wp2
 go_ret
 exact ⟨rfl,rfl⟩
def dflt (l:List UInt8):List UInt8:=if Lib.Pa.lastIndexByte l 47≤0∨l.head? ≠ some 47 then [47] else l.take (Lib.Pa.lastIndexByte l 47).toNat
theorem head_eq (s:ByteArray) (h:0<s.size):s.data.toList.head? = some (s[0]'h):=by
 rw [List.head?_eq_getElem?];exact Lib.Pa.at_eq s 0 h
theorem default_any (s:ByteArray) (w:World) (hs:s.size≤9223372036854775807) :
  Calls Tryz.prog 133 #[.string s] w fun e w'=>e = .returned (.string ⟨(dflt s.data.toList).toArray⟩)∧w'=w:=by
 have hb:=Lib.Pa.lastIndexByte_bounds s.data.toList 47
 rw [← Lib.size_eq] at hb
 by_cases h:Lib.Pa.lastIndexByte s.data.toList 47≤0
 ·have hd:dflt s.data.toList=[47]:=if_pos (.inl h)
  have H:=Lib.hid hd;clear hd
  go_enter Tryz.func133,Tryz.ntmps133
  go_wp2_with (go_at_call 174;refine (last_any _ _ hs).mono ?_;rintro e w' ⟨rfl,rfl⟩)
  go_ret
  exact ⟨ret_str H.out.symm,rfl⟩
 ·have h0:0<s.size:=by omega
  by_cases h1:s[0]=47
  ·have hd:dflt s.data.toList=s.data.toList.take (Lib.Pa.lastIndexByte s.data.toList 47).toNat:=if_neg (by rw [head_eq s h0,h1];simp;omega)
   have H:=Lib.hid hd;clear hd
   have H1:=Lib.hid h1;clear h1
   have hb1:((s[0].toNat:Int) != 47)=false:=by rw [H1.out];rfl
   go_enter Tryz.func133,Tryz.ntmps133
   go_wp2_with (go_at_call 174;refine (last_any _ _ hs).mono ?_;rintro e w' ⟨rfl,rfl⟩)
   go_ret
   exact ⟨ret_strb (by rw [H.out,Lib.extract_data];simp),rfl⟩
  ·have hd:dflt s.data.toList=[47]:=if_pos (.inr (by rw [head_eq s h0];simpa using h1))
   have H:=Lib.hid hd;clear hd
   have hb1:((s[0].toNat:Int) != 47)=true:=by rw [Lib.Pa.bne47];simpa using h1
   go_enter Tryz.func133,Tryz.ntmps133
   go_wp2_with (go_at_call 174;refine (last_any _ _ hs).mono ?_;rintro e w' ⟨rfl,rfl⟩)
   go_ret
   exact ⟨ret_str H.out.symm,rfl⟩
def mtch (p o:List UInt8):Bool:=Lib.hasPrefix p o&&(p.length==o.length||(Lib.hasSuffix o [47]||p[o.length]? == some 47))
def cnt (l:List UInt8):Nat:=(l.filter (· == 47)).length
def lst (l:List UInt8):Nat:=(Lib.Pa.lastIndexByte l 47).toNat
end Go.Proofs.YtlfdjpgghiemfaaGreatDoor.PathW
end
section
namespace Go.Proofs.YtlfdjpgghiemfaaGreatDoor.PathL
open Go.RowKit PathW
def s_is47 (p:ByteArray) (h:0<p.size):Bool := !((p[0].toNat:Int) != 47)
end Go.Proofs.YtlfdjpgghiemfaaGreatDoor.PathL
end
section
namespace Go.Proofs.YtlfdjpgghiemfaaGreatDoor.GovC
open Go.RowKit Mem Abs Globs HostP HostC PathT Rdy Scan TreeW WordP WordS JarP JarQ JarA JarB JarC JarE JarL JarM JarS JarH PolP PolA PolB PurA RjP GovP GovA GovB LineP LineB
open ConC (conI intsV)
abbrev tX:List UInt8:=([105,100,61,55,59,32,100,111,109,97,105,110,61,115,104,111,112,46,99,111,109,59,32,115,101,99,117,114,101]:List UInt8)
abbrev a1:Attr:=⟨([100,111,109,97,105,110]:List UInt8),([115,104,111,112,46,99,111,109]:List UInt8)⟩
abbrev a2:Attr:=⟨([115,101,99,117,114,101]:List UInt8),[]⟩
abbrev r0:Raw:=⟨([105,100]:List UInt8),([55]:List UInt8),[a1,a2]⟩
abbrev fX:From:=⟨([119,119,119,46,115,104,111,112,46,99,111,109]:List UInt8),([47,99,97,114,116,47,97,100,100]:List UInt8),true,false,false⟩
abbrev S0:List Suffix:=[⟨1,([99,111,109]:List UInt8)⟩,⟨1,([99,111,46,117,107]:List UInt8)⟩,⟨2,([99,107]:List UInt8)⟩,⟨3,([119,119,119,46,99,107]:List UInt8)⟩]
def capsR:Nat→Int
 | 0=>100
 | 4=>50
 | _=>60
def pR:Policy:=⟨[⟨2,([97,100,95]:List UInt8),4,9⟩,⟨4,([97,100,115,46,99,111,109]:List UInt8),2,3⟩,⟨1,([105,100]:List UInt8),0,0⟩],1,capsR⟩
def PA (i:Nat):Bool:=i==0||i==3
abbrev UA:List Int:=[2,3,4,9]
theorem cut_at {l a b:List UInt8} {q:Bool} (h:cutF 61 l=(a,b,q)):ACalls Tryz.prog 42 [strT l,byteT 61] (.tup [strT a,strT b,.bool q]):=by
 have:=cut_v (c:=61) (l:=l)
 rw [h] at this
 exact this
theorem trim_at {l a:List UInt8} (h:trim l=a):ACalls Tryz.prog 127 [strT l] (strT a):=h ▸ trim_v
theorem fold_at {l a:List UInt8} (h:fold l=a):ACalls Tryz.prog 120 [strT l] (strT a):=h ▸ fold_v
theorem let_at {l:List UInt8} (h:letF l=true):ACalls Tryz.prog 126 [strT l] (.bool true):=h ▸ let_v
theorem has_at {l:List UInt8} {c:UInt8} (h:l.contains c=false):ACalls Tryz.prog 173 [strT l,strT [c]] (.bool false):=h ▸ contains_v
abbrev pX:List (List UInt8):=[([105,100,61,55]:List UInt8),([32,100,111,109,97,105,110,61,115,104,111,112,46,99,111,109]:List UInt8),([32,115,101,99,117,114,101]:List UInt8)]
theorem read_c:ACalls Tryz.prog 106 [strT tX] (.tup [r0.v,.int .i64 0]):=by
 have c1:=let_at (l:=tX) (by decide +kernel)
 have c2:=parts_v (u:=59) (l:=tX) (by decide)
 rw [show split 59 tX=pX by decide +kernel] at c2
 have d1:=cut_at (l:=([105,100,61,55]:List UInt8)) (a:=([105,100]:List UInt8)) (b:=([55]:List UInt8)) (q:=true) (by decide +kernel)
 have d2:=cut_at (l:=([32,100,111,109,97,105,110,61,115,104,111,112,46,99,111,109]:List UInt8)) (a:=([32,100,111,109,97,105,110]:List UInt8)) (b:=([115,104,111,112,46,99,111,109]:List UInt8)) (q:=true) (by decide +kernel)
 have d3:=cut_at (l:=([32,115,101,99,117,114,101]:List UInt8)) (a:=([32,115,101,99,117,114,101]:List UInt8)) (b:=[]) (q:=false) (by decide +kernel)
 have e1:=trim_at (l:=([105,100]:List UInt8)) (a:=([105,100]:List UInt8)) (by decide +kernel)
 have e2:=trim_at (l:=([55]:List UInt8)) (a:=([55]:List UInt8)) (by decide +kernel)
 have e3:=trim_at (l:=([32,100,111,109,97,105,110]:List UInt8)) (a:=([100,111,109,97,105,110]:List UInt8)) (by decide +kernel)
 have e4:=trim_at (l:=([115,104,111,112,46,99,111,109]:List UInt8)) (a:=([115,104,111,112,46,99,111,109]:List UInt8)) (by decide +kernel)
 have e5:=trim_at (l:=([32,115,101,99,117,114,101]:List UInt8)) (a:=([115,101,99,117,114,101]:List UInt8)) (by decide +kernel)
 have e6:=trim_at (l:=[]) (a:=[]) (by decide +kernel)
 have g1:=fold_at (l:=([100,111,109,97,105,110]:List UInt8)) (a:=([100,111,109,97,105,110]:List UInt8)) (by decide +kernel)
 have g2:=fold_at (l:=([115,101,99,117,114,101]:List UInt8)) (a:=([115,101,99,117,114,101]:List UInt8)) (by decide +kernel)
 have hl:tX.length=29:=rfl
 have hl2:pX.length=3:=rfl
 have hl3:((List.drop ((1:Int)).toNat pX).map strT).length=2:=rfl
 have h1:([strT ([105,100,61,55]:List UInt8),strT ([32,100,111,109,97,105,110,61,115,104,111,112,46,99,111,109]:List UInt8),strT ([32,115,101,99,117,114,101]:List UInt8)]:List Abs.V)[(0:Int).toNat]? = some (strT ([105,100,61,55]:List UInt8)):=rfl
 have n0:¬ (([105,100]:List UInt8):List UInt8)=[]:=by decide
 have n1:(([100,111,109,97,105,110]:List UInt8):List UInt8)≠[]:=by decide
 have n2:(([115,101,99,117,114,101]:List UInt8):List UInt8)≠[]:=by decide
 have hl4:([a1,a2]:List Attr).length=2:=rfl
 have hl6:([]:List Attr).length=0:=rfl
 have hl7:([a1]:List Attr).length=1:=rfl
 have hl5:(([a1]:List Attr)++[a2]).length=2:=rfl
 refine fun1 tb_ok Tryz.func106 rfl Tryz.ntmps106 Tryz.results106 rfl fun N=>?_
 repeat' (first|refine zt ?_|(refine isR ?_;first|refine zo ?_|refine zk c1 ?_|refine zk c2 ?_|refine zk d1 ?_|refine zk e1 ?_|refine zk e2 ?_|refine x_slFf (L:=pX) (f:=strT) tb_ok ?_|refine x_bs tb_ok ?_|refine zA ?_|refine zL ?_|refine zc1 ?_|refine zc3 ?_|refine zc5 ?_|refine zc6 ?_|refine zI ?_)|refine zr ?_|exact x_le)
 all_goals first|(exfalso;omega)|skip
 refine awp_nameR 0 2 60 2 rfl rfl (by decide) rfl ?_
 repeat' (first|with_reducible refine rounds_on ?_|with_reducible refine awp_rounds 3 ?_|refine zt ?_|(refine isR ?_;first|refine zo ?_|refine zk d2 ?_|refine zk d3 ?_|refine zk e3 ?_|refine zk e4 ?_|refine zk e5 ?_|refine zk e6 ?_|refine zk g1 ?_|refine zk g2 ?_|refine x_app Attr.v (L:=[]) (a1:=a1) tb_ok ?_ (hby:=by show _*(_:Nat)≤_;simp)|refine x_app Attr.v (L:=[a1]) (a1:=a2) tb_ok ?_ (hby:=by show _*(_:Nat)≤_;simp)|refine x_bs tb_ok ?_|refine zA ?_|refine zL ?_|refine zc1 ?_|refine zc3 ?_|refine zc5 ?_|refine zc6 ?_|refine zI ?_)|refine zr ?_|exact x_le)
 all_goals first|rfl|(exfalso;omega)
theorem plain_at {s:List UInt8} (h1:trim s=s) (h2:letF s=true) (h3:s.contains 59=false):ACalls Tryz.prog 171 [strT s] (.bool true):=by
 have c1:=trim_at h1
 have c2:=let_at h2
 have c3:=has_at h3
 refine fun1 tb_ok Tryz.func171 rfl Tryz.ntmps171 Tryz.results171 rfl fun N=>?_
 repeat' (first|refine zt ?_|(refine isR ?_;first|refine zo ?_|refine zk c1 ?_|refine zk c2 ?_|refine zk c3 ?_|refine zc5 ?_)|refine zr ?_|exact x_le)
 all_goals first|rfl|(exfalso;simp_all;done)
theorem named_at {s:List UInt8} (h0:s≠[]) (hp:ACalls Tryz.prog 171 [strT s] (.bool true)) (h3:s.contains 61=false):ACalls Tryz.prog 170 [strT s] (.bool true):=by
 have c3:=has_at h3
 refine fun1 tb_ok Tryz.func170 rfl Tryz.ntmps170 Tryz.results170 rfl fun N=>?_
 repeat' (first|refine zt ?_|(refine isR ?_;first|refine zo ?_|refine zk hp ?_|refine zk c3 ?_|refine zc6 ?_)|refine zr ?_|exact x_le)
 all_goals first|rfl|(exfalso;simp_all;done)
theorem bad_at {a:Attr} (h1:ACalls Tryz.prog 170 [strT a.name] (.bool true)) (h2:fold a.name=a.name) (h3:ACalls Tryz.prog 171 [strT a.value] (.bool true)):ACalls Tryz.prog 169 [a.v] (.bool false):=by
 have c1:=fold_at h2
 refine fun1 tb_ok Tryz.func169 rfl Tryz.ntmps169 Tryz.results169 rfl fun N=>?_
 repeat' (first|refine zt ?_|(refine isR ?_;first|refine zo ?_|refine zk h1 ?_|refine zk c1 ?_|refine zk h3 ?_|refine zc6 ?_)|refine zr ?_|exact x_le)
 all_goals first|rfl|(exfalso;simp_all;done)
theorem pl1:ACalls Tryz.prog 171 [strT ([105,100]:List UInt8)] (.bool true):=plain_at (by decide +kernel) (by decide +kernel) (by decide +kernel)
theorem pl2:ACalls Tryz.prog 171 [strT ([55]:List UInt8)] (.bool true):=plain_at (by decide +kernel) (by decide +kernel) (by decide +kernel)
theorem pl3:ACalls Tryz.prog 171 [strT ([100,111,109,97,105,110]:List UInt8)] (.bool true):=plain_at (by decide +kernel) (by decide +kernel) (by decide +kernel)
theorem pl4:ACalls Tryz.prog 171 [strT ([115,104,111,112,46,99,111,109]:List UInt8)] (.bool true):=plain_at (by decide +kernel) (by decide +kernel) (by decide +kernel)
theorem pl5:ACalls Tryz.prog 171 [strT ([115,101,99,117,114,101]:List UInt8)] (.bool true):=plain_at (by decide +kernel) (by decide +kernel) (by decide +kernel)
theorem pl6:ACalls Tryz.prog 171 [strT []] (.bool true):=plain_at (by decide +kernel) (by decide +kernel) (by decide +kernel)
abbrev fnH:Abs.V:=.fn (.func 169) [] []
theorem idxH:ACalls Tryz.prog 222 [.fro [a1.v,a2.v],fnH] (.int .i64 (-1)):=by
 have b1:=bad_at (a:=a1) (named_at (by decide) pl3 (by decide +kernel)) (by decide +kernel) pl4
 have b2:=bad_at (a:=a2) (named_at (by decide) pl5 (by decide +kernel)) (by decide +kernel) pl6
 have hl:([a1.v,a2.v]:List Abs.V).length=2:=rfl
 refine fun2 tb_ok Tryz.func222 rfl Tryz.ntmps222 Tryz.results222 rfl fun N=>?_
 repeat' (first|with_reducible refine rounds_on ?_|with_reducible refine awp_rounds 3 ?_|refine zt ?_|(refine isR ?_;first|refine zo ?_|refine x_callv (b1 _) ?_|refine x_callv (b1) ?_|refine x_callv (b2 _) ?_|refine x_callv (b2) ?_|refine zA ?_|refine zL ?_|refine zc1 ?_|refine zI ?_)|refine zr ?_|exact x_le)
 all_goals first|rfl|(exfalso;omega)
theorem anyH:ACalls Tryz.prog 172 [.fro [a1.v,a2.v],fnH] (.bool false):=by
 have c1:=idxH
 refine fun2 tb_ok Tryz.func172 rfl Tryz.ntmps172 Tryz.results172 rfl fun N=>?_
 repeat' (first|refine zt ?_|(refine isR ?_;first|refine zo ?_|refine zk c1 ?_|refine zc4 ?_)|refine zr ?_|exact x_le)
 all_goals first|rfl|(exfalso;omega)
theorem hcheck:ACalls Tryz.prog 130 [r0.v] (.int .i64 0):=by
 have c1:=named_at (s:=([105,100]:List UInt8)) (by decide) pl1 (by decide +kernel)
 have c2:=pl2
 have c3:=anyH
 have hl:(r0.attrs.map Attr.v).length=2:=rfl
 refine fun1 tb_ok Tryz.func130 rfl Tryz.ntmps130 Tryz.results130 rfl fun N=>?_
 repeat' (first|refine zt ?_|(refine isR ?_;first|refine zo ?_|refine zk c1 ?_|refine zk c2 ?_|refine zk c3 ?_|refine zL ?_|refine zc3 ?_)|refine zr ?_|exact x_le)
 all_goals first|rfl|(exfalso;omega)
abbrev TM:Nat:=181
abbrev mkC (d:List UInt8) (sec told:Bool):List Abs.V:=[strT ([105,100]:List UInt8),strT ([55]:List UInt8),strT d,strT ([47,99,97,114,116]:List UInt8),.bool false,.bool sec,.bool false,.bool false,.int .i64 0,.int .i64 253402300799,.int .i64 1000,.int .i64 1000,.int .i64 0,strT ([119,119,119,46,115,104,111,112,46,99,111,109]:List UInt8),strT ([47,99,97,114,116,47,97,100,100]:List UInt8),.bool true,.bool false,.bool false,.int .i64 1000,.bool false,.bool told,.bool false]
abbrev rM (d:List UInt8) (sec told:Bool):Blk:=.els TM 22 [.agg (mkC d sec told)]
abbrev k0:Cookie:=⟨([105,100]:List UInt8),([55]:List UInt8),([115,104,111,112,46,99,111,109]:List UInt8),([47,99,97,114,116]:List UInt8),false,true,false,false,0,253402300799,1000,1000,0⟩
abbrev k1:Cookie:=⟨([105,100]:List UInt8),([55]:List UInt8),([115,104,111,112,46,99,111,109]:List UInt8),([47,99,97,114,116]:List UInt8),false,true,false,false,0,1100,1000,1000,0⟩
theorem trimL_c:ACalls Tryz.prog 230 [strT ([115,104,111,112,46,99,111,109]:List UInt8),strT ([46]:List UInt8)] (strT ([115,104,111,112,46,99,111,109]:List UInt8)):=by
 have c1:=hasPrefixL_v (l:=([115,104,111,112,46,99,111,109]:List UInt8)) (m:=([46]:List UInt8))
 rw [show pre ([115,104,111,112,46,99,111,109]:List UInt8) ([46]:List UInt8)=false by decide +kernel] at c1
 refine fun2 tb_ok Tryz.func230 rfl Tryz.ntmps230 Tryz.results230 rfl fun N=>?_
 repeat' (first|refine zt ?_|(refine isR ?_;first|refine zo ?_|refine zk c1 ?_)|refine zr ?_|exact x_le)
 all_goals rfl
theorem trim_c:ACalls Tryz.prog 177 [strT ([115,104,111,112,46,99,111,109]:List UInt8),strT ([46]:List UInt8)] (strT ([115,104,111,112,46,99,111,109]:List UInt8)):=by
 have c1:=trimL_c
 refine fun2 tb_ok Tryz.func177 rfl Tryz.ntmps177 Tryz.results177 rfl fun N=>?_
 repeat' (first|refine zt ?_|(refine isR ?_;first|refine zo ?_|refine zk c1 ?_)|refine zr ?_|exact x_le)
 all_goals rfl
theorem attr1_m:MCalls Tryz.prog 134 [.loc 0 0 0,a1.v] [rM [] false false] (.tup []) [some (rM ([115,104,111,112,46,99,111,109]:List UInt8) false true)]:=by
 have c1:=trim_c
 have c2:=fold_at (l:=([115,104,111,112,46,99,111,109]:List UInt8)) (a:=([115,104,111,112,46,99,111,109]:List UInt8)) (by decide +kernel)
 refine mfun tb_ok Tryz.func134 rfl Tryz.ntmps134 Tryz.results134 rfl rfl rfl rfl fun N pl=>?_
 repeat' (first|refine zt ?_|(refine isR ?_;first|refine zo ?_|refine zk c1 ?_|refine zk c2 ?_|refine zc5 ?_|(refine zs5 ?_ ?_<;>intro hc)|(refine zs6 ?_ ?_<;>intro hc))|refine x_mret [0] ?_ ?_|exact x_le)
 all_goals first|rfl|exact .on (.ren rfl) .nil|(exfalso;simp_all;done)
theorem attr2_m:MCalls Tryz.prog 134 [.loc 0 0 0,a2.v] [rM ([115,104,111,112,46,99,111,109]:List UInt8) false true] (.tup []) [some (rM ([115,104,111,112,46,99,111,109]:List UInt8) true true)]:=by
 refine mfun tb_ok Tryz.func134 rfl Tryz.ntmps134 Tryz.results134 rfl rfl rfl rfl fun N pl=>?_
 repeat' (first|refine zt ?_|(refine isR ?_;first|refine zo ?_|refine zc5 ?_|(refine zs5 ?_ ?_<;>intro hc))|refine x_mret [0] ?_ ?_|exact x_le)
 all_goals first|rfl|exact .on (.ren rfl) .nil|(exfalso;simp_all;done)
theorem hS:SufP.checkF S0=0:=by kernel_rfl
theorem own_m:MCallsG Tryz.prog gStr 135 [.loc 0 0 0,.fro (S0.map Suffix.v)] [rM ([115,104,111,112,46,99,111,109]:List UInt8) true true] (.int .i64 0) [some (rM ([115,104,111,112,46,99,111,109]:List UInt8) true true)]:=by
 have c1:=Rdy.host_v (l:=([115,104,111,112,46,99,111,109]:List UInt8))
 rw [show Rdy.hostOk ([115,104,111,112,46,99,111,109]:List UInt8)=true by kernel_rfl] at c1
 have c2:=SufR.raw_v (SufP.check_rules hS).1 ((SufP.host_iff ([115,104,111,112,46,99,111,109]:List UInt8)).1 (by kernel_rfl))
 rw [show SufP.pubF S0 ([115,104,111,112,46,99,111,109]:List UInt8)=([99,111,109]:List UInt8) by kernel_rfl] at c2
 have c3:=match_v (l:=([119,119,119,46,115,104,111,112,46,99,111,109]:List UInt8)) (m:=([115,104,111,112,46,99,111,109]:List UInt8)) (by decide) (by decide)
 rw [show matchF ([119,119,119,46,115,104,111,112,46,99,111,109]:List UInt8) ([115,104,111,112,46,99,111,109]:List UInt8)=true by kernel_rfl] at c3
 have n0:¬ (([99,111,109]:List UInt8):List UInt8)=([115,104,111,112,46,99,111,109]:List UInt8):=by decide
 refine mfunG tb_ok Tryz.func135 rfl Tryz.ntmps135 Tryz.results135 rfl rfl rfl rfl fun N pl=>?_
 repeat' (first|refine zt ?_|(refine isR ?_;first|refine zo ?_|refine zk c1 ?_|refine zk c2 ?_|refine zk c3 ?_|refine zc5 ?_)|refine x_mret [0] ?_ ?_|exact x_le)
 all_goals first|rfl|exact .on (.ren rfl) .nil
theorem barred_m:MCalls Tryz.prog 136 [.loc 0 0 0] [rM ([115,104,111,112,46,99,111,109]:List UInt8) true true] (.bool false) [some (rM ([115,104,111,112,46,99,111,109]:List UInt8) true true)]:=by
 have c1:=fold_at (l:=([105,100]:List UInt8)) (a:=([105,100]:List UInt8)) (by decide +kernel)
 have c2:=hasPrefix_v (l:=([105,100]:List UInt8)) (m:=([95,95,115,101,99,117,114,101,45]:List UInt8))
 rw [show pre ([105,100]:List UInt8) ([95,95,115,101,99,117,114,101,45]:List UInt8)=false by decide +kernel] at c2
 have c3:=hasPrefix_v (l:=([105,100]:List UInt8)) (m:=([95,95,104,111,115,116,45]:List UInt8))
 rw [show pre ([105,100]:List UInt8) ([95,95,104,111,115,116,45]:List UInt8)=false by decide +kernel] at c3
 refine mfun tb_ok Tryz.func136 rfl Tryz.ntmps136 Tryz.results136 rfl rfl rfl rfl fun N pl=>?_
 repeat' (first|refine zt ?_|(refine isR ?_;first|refine zo ?_|refine zk c1 ?_|refine zk c2 ?_|refine zk c3 ?_)|refine x_mret [0] ?_ ?_|exact x_le)
 all_goals first|rfl|exact .on (.ren rfl) .nil|(exfalso;simp_all;done)
theorem default_c:ACalls Tryz.prog 133 [strT ([47,99,97,114,116,47,97,100,100]:List UInt8)] (strT ([47,99,97,114,116]:List UInt8)):=fun g N w vs hG hN hlen hv=>by
 obtain ⟨vs⟩:=vs
 match vs,hlen with
 | [x0],_ =>
  obtain ⟨rfl,h0⟩:=fz_str (hv 0 _ x0 rfl rfl)
  refine (PathW.default_any (str ([47,99,97,114,116,47,97,100,100]:List UInt8)) w (by rw [str_size];decide)).mono fun e w' ⟨he,hbel⟩=>⟨_,he,hbel ▸ Below.refl _ _,?_⟩
  rw [str_toList,show PathW.dflt ([47,99,97,114,116,47,97,100,100]:List UInt8)=([47,99,97,114,116]:List UInt8) by kernel_rfl]
  exact .str (by rw [str_size];decide)
theorem mk1_v:ACallsG Tryz.prog gStr 128 [.fp [.fro (S0.map Suffix.v)] 0] (.int .i64 0):=by
 have c1:=SufW.check_v (L:=S0)
 rw [hS] at c1
 refine funG1 tb_ok Tryz.func128 rfl Tryz.ntmps128 Tryz.results128 rfl fun N=>?_
 repeat' (first|refine zt ?_|(refine isR ?_;first|refine zo ?_|refine zk c1 ?_)|refine zr ?_|exact x_le)
 all_goals rfl
theorem mk2_v:ACalls Tryz.prog 129 [.fp r0.v.cells 0] (.int .i64 0):=by
 have c1:=hcheck
 refine fun1 tb_ok Tryz.func129 rfl Tryz.ntmps129 Tryz.results129 rfl fun N=>?_
 repeat' (first|refine zt ?_|(refine isR ?_;first|refine zo ?_|refine zk c1 ?_)|refine zr ?_|exact x_le)
 all_goals rfl
theorem mk3_v:ACalls Tryz.prog 131 [.fp fX.v.cells 0,.fp [.int .i64 1000] 0] (.int .i64 0):=by
 have c1:=ready_v (f:=fX) (now:=1000)
 rw [show readyF fX 1000=0 by kernel_rfl] at c1
 refine fun2 tb_ok Tryz.func131 rfl Tryz.ntmps131 Tryz.results131 rfl fun N=>?_
 repeat' (first|refine zt ?_|(refine isR ?_;first|refine zo ?_|refine zk c1 ?_)|refine zr ?_|exact x_le)
 all_goals rfl
theorem make_c:ACallsG Tryz.prog gStr 107 [.fro (S0.map Suffix.v),r0.v,fX.v,.int .i64 1000] (.tup [k0.v,.int .i64 0]):=by
 have b1:=mk1_v
 have b2:=mk2_v
 have b3:=mk3_v
 have c0:=default_c
 have c1:=attr1_m
 have c2:=attr2_m
 have c3:=own_m
 have c4:=barred_m
 have hl:(r0.attrs.map Attr.v).length=2:=rfl
 refine funG4 tb_ok Tryz.func107 rfl Tryz.ntmps107 Tryz.results107 rfl fun N=>?_
 repeat' (first|with_reducible refine rounds_on ?_|with_reducible refine awp_rounds 4 ?_|refine zt ?_|(refine isR ?_;first|refine x_far [44] tb_ok rfl ?_|refine zn ?_|refine x_callv (b1 _) ?_|refine x_callv (b1) ?_|refine x_callv (b2 _) ?_|refine x_callv (b2) ?_|refine x_callv (b3 _) ?_|refine x_callv (b3) ?_|refine zk c0 ?_|refine x_m [1] [] (c1 _) ?_|refine x_m [1] [] (c1) ?_|refine x_m [1] [] (c2 _) ?_|refine x_m [1] [] (c2) ?_|refine x_m [1] [] (c3 _) ?_|refine x_m [1] [] (c3) ?_|refine x_m [1] [] (c4 _) ?_|refine x_m [1] [] (c4) ?_|refine zA ?_|refine zL ?_|refine zc1 ?_|refine zc6 ?_|refine zI ?_)|refine zr ?_|exact x_le)
 all_goals first|rfl|(exfalso;omega)
theorem hP:checkP pR=0:=by kernel_rfl
theorem hR:codeRight pR 1000 UA=0:=by kernel_rfl
theorem gate_c:ACallsG Tryz.prog gStr 108 [polV pR,conI 1000 PA UA,k0.v] (.tup [k1.v,.int .i64 0]):=by
 have h:=gateOk_v (p:=pR) (g:=1000) (P:=PA) (U:=UA) (c:=k0) (check_ok hP) hR rfl (by decide) (by kernel_rfl)
 rw [show clampF pR k0=k1 by kernel_rfl] at h
 exact h
theorem put_c:ACalls Tryz.prog 109 [jarV [] 0,k1.v,.int .i64 1000] (.tup [jarV [k1] 1,.int .i64 0]):=by
 have h:=pPut_v (L:=[]) (nx:=0) (c:=k1) (now:=1000) (by decide +kernel)
 rw [show putF [] 0 k1 1000=([k1],1) by rfl] at h
 exact h
theorem hD:∀ c∈[k1],c.domain.length≤4398046511104:=fun c hc=>by
 obtain rfl:=List.mem_singleton.1 hc
 decide
theorem hM:∀ c∈[k1],isJ c.created=true:=fun c hc=>by
 obtain rfl:=List.mem_singleton.1 hc
 rfl
theorem set_m:MCallsG Tryz.prog gStr 82 [.loc 0 0 0,evV 1 1000 tX fX] [rG S0 [] 0 pR 1000 PA UA 1000 []] (.int .i64 0) [some (rG S0 [k1] 1 pR 1000 PA UA 1000 [])]:=by
 have c1:=read_c
 have c2:=make_c
 have c3:=gate_c
 have c4:=put_c
 have c5:=purged_v (S:=S0) (L:=[k1]) (nx:=1) (p:=pR) (g:=1000) (P:=PA) (U:=UA) (t:=1000) (check_ok hP) (by decide) hD hM
 rw [show keptF pR PA UA 1000 [k1]=[k1] by kernel_rfl] at c5
 refine mfunG tb_ok Tryz.func82 rfl Tryz.ntmps82 Tryz.results82 rfl rfl rfl rfl fun N pl=>?_
 repeat' (first|refine zt ?_|(refine isR ?_;first|refine zo ?_|refine zk c1 ?_|refine zk c2 ?_|refine zk c3 ?_|refine zk c4 ?_|refine zk c5 ?_|refine zc5 ?_|refine zc6 ?_)|refine x_mret [0] ?_ ?_|exact x_le)
 all_goals first|rfl|exact .on (.ren rfl) .nil|(exfalso;omega)
theorem do1_m:MCallsG Tryz.prog gStr 45 [.loc 0 0 0,evV 1 1000 tX fX] [rG S0 [] 0 pR 1000 PA UA 1000 []] (.int .i64 0) [some (rG S0 [k1] 1 pR 1000 PA UA 1000 [])]:=by
 have c1:=set_m
 have c5:=purged_v (S:=S0) (L:=[]) (nx:=0) (p:=pR) (g:=1000) (P:=PA) (U:=UA) (t:=1000) (check_ok hP) (by decide) (fun c hc=>by cases hc) (fun c hc=>by cases hc)
 rw [show keptF pR PA UA 1000 []=[] by kernel_rfl] at c5
 refine mfunG tb_ok Tryz.func45 rfl Tryz.ntmps45 Tryz.results45 rfl rfl rfl rfl fun N pl=>?_
 repeat' (first|refine zt ?_|(refine isR ?_;first|refine zo ?_|refine zk c5 ?_|refine x_mv [0] [] (c1 _) ?_|refine x_mv [0] [] (c1) ?_|refine zI ?_)|refine x_mret [0] ?_ ?_|exact x_le)
 all_goals first|rfl|exact .on (.ren rfl) .nil
end Go.Proofs.YtlfdjpgghiemfaaGreatDoor.GovC
end
section
namespace Go.Proofs.YtlfdjpgghiemfaaGreatDoor.Bld
open Go.RowKit Mem Abs
theorem noEscape (y:Value) (w:World):(callFunc 113 #[y]).run Tryz.prog w = .ok (.value y) w:=by
 rw [run_callFunc_extern Tryz.func113 (by kernel_rfl) (by kernel_rfl) (by kernel_rfl) (e:=Extern.AbiNoEscape.same) (by kernel_rfl)]
 rfl
abbrev fresh:Blk:=.els 100 2 [.agg [.nilp,.nils]]
abbrev used (n m:Nat) (p:List UInt8):Blk:=.els 100 2 [.agg [.loc n 0 0,.own m 0 p.length]]
abbrev bytesB (p:List UInt8):Blk:=.els 5 1 (p.map byteT)
theorem check0:MCalls Tryz.prog 86 [.loc 0 0 0] [fresh] (.tup []) [some (.els 100 2 [.agg [.loc 0 0 0,.nils]])]:=by
 refine mfun tb_ok Tryz.func86 rfl Tryz.ntmps86 Tryz.results86 rfl rfl rfl rfl fun N pl=>?_
 repeat' (first|refine zt ?_|(refine isR ?_;first|refine zo ?_|refine x_eqlPN ?_|refine x_same noEscape ?_|refine x_toU tb_ok ?_|refine x_fromU tb_ok ?_)|refine x_mret [0] ?_ ?_|exact x_le)
 ·rfl
 ·exact .on (.ren rfl) .nil
theorem check1 {p:List UInt8}:MCalls Tryz.prog 86 [.loc 0 0 0] [used 0 1 p,bytesB p] (.tup []) [some (used 0 1 p),some (bytesB p)]:=by
 refine mfun tb_ok Tryz.func86 rfl Tryz.ntmps86 Tryz.results86 rfl rfl rfl rfl fun N pl=>?_
 repeat' (first|refine zt ?_|(refine isR ?_;first|refine zo ?_|refine x_eqlPL ?_|refine x_neqPS ?_)|refine x_mret [0,1] ?_ ?_|exact x_le)
 ·rfl
 ·exact .on (.ren rfl) (.on (.same (nl_map fun _=>rfl)) .nil)
theorem write0 {q:List UInt8} (hq:q.length≤140737488355328):MCalls Tryz.prog 49 [.loc 0 0 0,strT q] [fresh] (.tup [.int .i64 q.length,.nili]) [some (used 0 1 q),some (bytesB q)]:=by
 refine mfun tb_ok Tryz.func49 rfl Tryz.ntmps49 Tryz.results49 rfl rfl rfl rfl fun N pl=>?_
 repeat' (first|refine zt ?_|(refine isR ?_;first|refine zo ?_|refine x_m [0] [] (check0 _) ?_|refine x_m [0] [] (check0) ?_|refine x_appS0 tb_ok ?_|refine zL ?_)|refine x_mret [0,1] ?_ ?_|exact x_le)
 ·rfl
 ·exact .on (.ren rfl) (.on (.same (nl_map fun _=>rfl)) .nil)
theorem write1 {p q:List UInt8} (hq:p.length+q.length≤140737488355328):MCalls Tryz.prog 49 [.loc 0 0 0,strT q] [used 0 1 p,bytesB p] (.tup [.int .i64 q.length,.nili]) [some (used 0 2 (p++q)),none,some (bytesB (p++q))]:=by
 refine mfun tb_ok Tryz.func49 rfl Tryz.ntmps49 Tryz.results49 rfl rfl rfl rfl fun N pl=>?_
 repeat' (first|refine zt ?_|(refine isR ?_;first|refine zo ?_|refine x_m [0,1] [] (check1 _) ?_|refine x_m [0,1] [] (check1) ?_|refine x_appS tb_ok ?_|refine zL ?_)|refine x_mret [0,1,2] ?_ ?_|exact x_le)
 ·rfl
 ·exact .on (.ren rfl) (.no (.on (.same (nl_map fun _=>rfl)) .nil))
theorem string0:MCalls Tryz.prog 51 [.loc 0 0 0] [fresh] (strT []) [some fresh]:=by
 refine mfun tb_ok Tryz.func51 rfl Tryz.ntmps51 Tryz.results51 rfl rfl rfl rfl fun N pl=>?_
 repeat' (first|refine zt ?_|(refine isR ?_;first|refine zo ?_|refine x_sdata0 ?_|refine x_ustr0 ?_|refine zL ?_)|refine x_mret [0] ?_ ?_|exact x_le)
 ·rfl
 ·exact .on (.ren rfl) .nil
theorem string1 {p:List UInt8} (hp:p≠[]):MCalls Tryz.prog 51 [.loc 0 0 0] [used 0 1 p,bytesB p] (strT p) [some (used 0 1 p),none]:=by
 refine mfun tb_ok Tryz.func51 rfl Tryz.ntmps51 Tryz.results51 rfl rfl rfl rfl fun N pl=>?_
 repeat' (first|refine zt ?_|(refine isR ?_;first|refine zo ?_|refine x_sdata ?_|refine x_ustr ?_|refine zL ?_)|refine x_mret [0,1] ?_ ?_|exact x_le)
 ·rfl
 ·exact .on (.ren rfl) (.no .nil)
end Go.Proofs.YtlfdjpgghiemfaaGreatDoor.Bld
end
