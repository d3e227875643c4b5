/- Texts of the proof, joined: AbsO. -/
import Derived.Test.YtlfdjpgghiemfaaGreatDoorH1
import Derived.Test.YtlfdjpgghiemfaaGreatDoorH4
import Derived.Deep.MidRow
import Derived.Handy
namespace Go.Proofs.YtlfdjpgghiemfaaGreatDoor
section
namespace Abs
open Go.RowKit Mem
inductive V where
 | int (k:IntKind) (n:Int)
 | bool (b:Bool)
 | str (s:ByteArray)
 | agg (vs:List V)
 | tup (vs:List V)
 | fro (xs:List V)
 | nils
 | fp (cs:List V) (off:Nat)
 | nilp
 | fn (f:Fn) (first caps:List V)
 | nilf
 | ifc (t:TypeId) (v:V)
 | nili
 | own (n i len:Nat)
 | loc (n i off:Nat)
 | mp (n:Nat)
 | nilm
 | und
 deriving Inhabited
def V.cells:V→List V
 | .agg vs=>vs
 | v=>[v]
def V.one:V→Bool
 | .agg _|.tup _|.und=>false
 | _=>true
mutual
def V.names:V→List Nat
 | .own n _ _=>[n]
 | .loc n _ _=>[n]
 | .mp n=>[n]
 | .agg vs=>bf vs
 | .tup vs=>bf vs
 | .fn _ a b=>bf a++bf b
 | .ifc _ v=>v.names
 | _=>[]
def V.bf:List V→List Nat
 | []=>[]
 | v::r=>v.names++bf r
end
mutual
def V.ren (ρ:Nat→Nat):V→V
 | .own n i l=>.own (ρ n) i l
 | .loc n i o=>.loc (ρ n) i o
 | .mp n=>.mp (ρ n)
 | .agg vs=>.agg (wh ρ vs)
 | .tup vs=>.tup (wh ρ vs)
 | .fn f a b=>.fn f (wh ρ a) (wh ρ b)
 | .ifc t v=>.ifc t (v.ren ρ)
 | v=>v
def V.wh (ρ:Nat→Nat):List V→List V
 | []=>[]
 | v::r=>v.ren ρ::wh ρ r
end
theorem dK (ρ:Nat→Nat):∀ l:List V,V.wh ρ l=l.map (V.ren ρ)
 | []=>rfl
 | v::r=>by rw [V.wh,dK ρ r];rfl
theorem aB {n:Nat}:∀ {l:List V},n∈V.bf l↔∃ v∈l,n∈v.names
 | []=>by simp [V.bf]
 | v::r=>by simp [V.bf,aB (l:=r)]
abbrev LIM:Nat:=140737488355328
abbrev dY:Nat:=4611686018427387904
def rng:IntKind→Int × Int
 | .i8=>(-128,127)
 | .i16=>(-32768,32767)
 | .i32=>(-2147483648,2147483647)
 | .i64=>(-9223372036854775808,9223372036854775807)
 | .u8=>(0,255)
 | .u16=>(0,65535)
 | .u32=>(0,4294967295)
 | .u64=>(0,18446744073709551615)
def InR (k:IntKind) (n:Int):Prop:=(rng k).1≤n∧n≤(rng k).2
theorem wV (k:IntKind) (n:Int):InR k (k.wrap n):=by
 cases k<;>simp only [InR,rng,IntKind.wrap,IntKind.bits,IntKind.signed]<;>simp<;>(try split)<;>omega
theorem NH {k:IntKind} {n m:Int} (h:k.wrap n=m):InR k m:=h ▸ wV k n
theorem oo (k:IntKind):InR k 0:=by cases k<;>exact ⟨by decide,by decide⟩
inductive Fz (X:Nat→Prop) (w:World):V→Value→Prop
 | int {k n}:InR k n→Fz X w (.int k n) (.int k n)
 | bool {b}:Fz X w (.bool b) (.bool b)
 | str {s}:s.size≤dY→Fz X w (.str s) (.string s)
 | agg {vs cs}:vs.length=cs.size→(∀ v∈vs,v.one=true)→(∀ (i:Nat) x c,vs[i]? = some x→cs[i]? = some c→Fz X w x c)→Fz X w (.agg vs) (.agg cs)
 | tup {vs cs}:vs.length=cs.size→(∀ (i:Nat) x c,vs[i]? = some x→cs[i]? = some c→Fz X w x c)→Fz X w (.tup vs) (.tuple cs)
 | fro0 {A cap}:(A=none→cap=0)→Fz X w (.fro []) (.slice A 0 cap)
 | fro {xs:List V} {b o sz cap:Nat} (c:Nat→Nat→Value):¬ X b→b<w.heap.size→0<sz→xs.length≤cap→xs.length≤LIM→(∀ x∈xs,x.cells.length=sz∧∀ u∈x.cells,u.one=true) →
  (∀ (i j:Nat) x u,xs[i]? = some x→x.cells[j]? = some u→w.cell? ⟨b,o+i*sz+j,none⟩=some (c i j))→(∀ (i j:Nat) x u,xs[i]? = some x→x.cells[j]? = some u→Fz X w u (c i j))→Fz X w (.fro xs) (.slice (some ⟨b,o,none⟩) xs.length cap)
 | nils:Fz X w .nils (.slice none 0 0)
 | fp {cs:List V} {b o off:Nat} (c:Nat→Value):¬ X b→b<w.heap.size→(∀ u∈cs,u.one=true) →
  (∀ (j:Nat) u,cs[j]? = some u→w.cell? ⟨b,o+j,none⟩=some (c j))→(∀ (j:Nat) u,cs[j]? = some u→Fz X w u (c j))→Fz X w (.fp cs off) (.pointer (some ⟨b,o+off,none⟩))
 | nilp:Fz X w .nilp (.pointer none)
 | fn {f gs bs cs ds}:gs.length=cs.size→bs.length=ds.size→(∀ (i:Nat) x c,gs[i]? = some x→cs[i]? = some c→Fz X w x c)→(∀ (i:Nat) x c,bs[i]? = some x→ds[i]? = some c→Fz X w x c)→Fz X w (.fn f gs bs) (.func f cs ds)
 | nilf:Fz X w .nilf .nilFunc
 | ifc {t v x}:Fz X w v x→Fz X w (.ifc t v) (.iface t x)
 | nili:Fz X w .nili .nilIface
 | nilm:Fz X w .nilm (.map none)
 | und:Fz X w .und undef
structure Pl where
 blk:Option Nat
 sz:Nat
 cap:Nat
inductive Rep (X:Nat→Prop) (A:Nat→Prop) (φ:Nat→Pl) (w:World):V→Value→Prop
 | fz {v x}:Fz X w v x→Rep X A φ w v x
 | agg {vs cs}:vs.length=cs.size→(∀ v∈vs,v.one=true)→(∀ (i:Nat) x c,vs[i]? = some x→cs[i]? = some c→Rep X A φ w x c)→Rep X A φ w (.agg vs) (.agg cs)
 | tup {vs cs}:vs.length=cs.size→(∀ (i:Nat) x c,vs[i]? = some x→cs[i]? = some c→Rep X A φ w x c)→Rep X A φ w (.tup vs) (.tuple cs)
 | fn {f gs bs cs ds}:gs.length=cs.size→bs.length=ds.size→(∀ (i:Nat) x c,gs[i]? = some x→cs[i]? = some c→Rep X A φ w x c)→(∀ (i:Nat) x c,bs[i]? = some x→ds[i]? = some c→Rep X A φ w x c)→Rep X A φ w (.fn f gs bs) (.func f cs ds)
 | ifc {t v x}:Rep X A φ w v x→Rep X A φ w (.ifc t v) (.iface t x)
 | own0 {n}:A n→(φ n).blk=none→Rep X A φ w (.own n 0 0) (.slice none 0 0)
 | own {n i len b}:A n→(φ n).blk=some b→i+len≤(φ n).cap→(φ n).cap≤maxLen→Rep X A φ w (.own n i len) (.slice (some ⟨b,i*(φ n).sz,none⟩) len ((φ n).cap-i))
 | loc {n i off b}:A n→(φ n).blk=some b→Rep X A φ w (.loc n i off) (.pointer (some ⟨b,i*(φ n).sz+off,none⟩))
 | mp {n b}:A n→(φ n).blk=some b→Rep X A φ w (.mp n) (.map (some b))
structure bF (M:Nat→Prop) (w w':World):Prop where
 os:w'.os=w.os
 tape:w'.tape=w.tape
 output:w'.output=w.output
 size:w.heap.size≤w'.heap.size
 block:∀ b,b<w.heap.size→¬ M b→w'.heap[b]? = w.heap[b]?
theorem bF.refl (M:Nat→Prop) (w:World):bF M w w:=⟨rfl,rfl,rfl,Nat.le_refl _,fun _ _ _=>rfl⟩
theorem bF.drew (M:Nat→Prop) (w:World):bF M w w.drew:=⟨rfl,rfl,rfl,Nat.le_refl _,fun _ _ _=>rfl⟩
theorem bF.of_below {M:Nat→Prop} {w w':World} (h:Below w.heap.size w w'):bF M w w':=⟨h.os,h.tape,h.output,h.size,fun b hb _=>h.block b hb⟩
theorem bF.below {w w':World} (h:bF (fun _=>False) w w'):Below w.heap.size w w':=⟨h.os,h.tape,h.output,h.size,fun b hb=>h.block b hb id⟩
theorem bF.trans {M M':Nat→Prop} {a b c:World} (h:bF M a b) (k:bF M' b c) (hM:∀ x,x<a.heap.size→M' x→M x):bF M a c :=
 ⟨k.os.trans h.os,k.tape.trans h.tape,k.output.trans h.output,Nat.le_trans h.size k.size,fun x hx hm=>(k.block x (Nat.lt_of_lt_of_le hx h.size) fun h'=>hm (hM x hx h')).trans (h.block x hx hm)⟩
theorem bF.cell {M:Nat→Prop} {w w':World} (h:bF M w w') {a:Addr} (hb:a.block<w.heap.size) (hm:¬ M a.block):w'.cell? a=w.cell? a:=World.cell?_of_block (w:=w) (h.block a.block hb hm)
section
variable {X X' A A':Nat→Prop} {φ φ':Nat→Pl} {w w':World}
theorem Fz.mono (hX:∀ b,b<w.heap.size→X' b→X b) (hs:bF X w w') {v:V} {x:Value} (h:Fz X w v x):Fz X' w' v x:=by
 induction h with
 | int h=>exact .int h
 | bool=>exact .bool
 | str h=>exact .str h
 | agg h1 h2 _ ih=>exact .agg h1 h2 ih
 | tup h1 _ ih=>exact .tup h1 ih
 | fro0 h1=>exact .fro0 h1
 | fro c h1 h2 h3 h4 h5 h6 h7 _ ih=>exact .fro c (fun h=>h1 (hX _ h2 h)) (Nat.lt_of_lt_of_le h2 hs.size) h3 h4 h5 h6 (fun i j x u hx hu=>(hs.cell h2 h1).trans (h7 i j x u hx hu)) ih
 | nils=>exact .nils
 | fp c h1 h2 h3 h4 _ ih=>exact .fp c (fun h=>h1 (hX _ h2 h)) (Nat.lt_of_lt_of_le h2 hs.size) h3 (fun j u hu=>(hs.cell h2 h1).trans (h4 j u hu)) ih
 | nilp=>exact .nilp
 | fn h1 h2 _ _ ih1 ih2=>exact .fn h1 h2 ih1 ih2
 | nilf=>exact .nilf
 | ifc _ ih=>exact .ifc ih
 | nili=>exact .nili
 | nilm=>exact .nilm
 | und=>exact .und
theorem Rep.mono (hX:∀ b,b<w.heap.size→X' b→X b) (hs:bF X w w') (hA:∀ n,A n→A' n) (hφ:∀ n,A n→φ' n=φ n) {v:V} {x:Value} (h:Rep X A φ w v x):Rep X' A' φ' w' v x:=by
 induction h with
 | fz h=>exact .fz (h.mono hX hs)
 | agg h1 h2 _ ih=>exact .agg h1 h2 ih
 | tup h1 _ ih=>exact .tup h1 ih
 | fn h1 h2 _ _ ih1 ih2=>exact .fn h1 h2 ih1 ih2
 | ifc _ ih=>exact .ifc ih
 | own0 h1 h2=>exact .own0 (hA _ h1) (by rw [hφ _ h1];exact h2)
 | own h1 h2 h3 h4=>rw [← hφ _ h1] at h2 h3 h4 ⊢;exact .own (hA _ h1) h2 h3 h4
 | loc h1 h2=>rw [← hφ _ h1] at h2 ⊢;exact .loc (hA _ h1) h2
 | mp h1 h2=>rw [← hφ _ h1] at h2;exact .mp (hA _ h1) h2
theorem Rep.ren {ρ:Nat→Nat}:∀ {v:V} {x:Value},(∀ n∈v.names,A' n∧φ' n=φ (ρ n))→Rep X A φ w (v.ren ρ) x→Rep X A' φ' w v x:=by
 suffices H:∀ {u:V} {x:Value},Rep X A φ w u x→∀ v,u=V.ren ρ v→(∀ n∈v.names,A' n∧φ' n=φ (ρ n))→Rep X A' φ' w v x from fun {v x} hn h=>H h v rfl hn
 intro u x h
 induction h with
 | @fz u x h =>
  induction h with
  | agg h1 h2 h3 ih =>
   intro v hv hn
   cases v<;>simp only [V.ren] at hv<;>try (cases hv)
   rename_i vs
   rw [dK] at h1 h2 ih
   refine .agg (by simpa using h1) (fun v hv=>?_) (fun i y c hy hc=>ih i (V.ren ρ y) c (by simp [hy]) hc y rfl fun n hn'=>hn n (by rw [V.names,aB];exact ⟨y,List.mem_of_getElem? hy,hn'⟩))
   have:=h2 (V.ren ρ v) (List.mem_map.2 ⟨v,hv,rfl⟩)
   cases v<;>first|rfl|(simp [V.ren,V.one] at this)
  | tup h1 h3 ih =>
   intro v hv hn
   cases v<;>simp only [V.ren] at hv<;>try (cases hv)
   rename_i vs
   rw [dK] at h1 ih
   exact .tup (by simpa using h1) (fun i y c hy hc=>ih i (V.ren ρ y) c (by simp [hy]) hc y rfl fun n hn'=>hn n (by rw [V.names,aB];exact ⟨y,List.mem_of_getElem? hy,hn'⟩))
  | fn h1 h2 h3 h4 ih1 ih2 =>
   intro v hv hn
   cases v<;>simp only [V.ren] at hv<;>try (cases hv)
   rename_i f gs bs
   rw [dK] at h1 h2 ih1 ih2
   exact .fn (by simpa using h1) (by simpa using h2) (fun i y c hy hc=>ih1 i (V.ren ρ y) c (by simp [hy]) hc y rfl fun n hn'=>hn n (by rw [V.names,List.mem_append,aB,aB];exact .inl ⟨y,List.mem_of_getElem? hy,hn'⟩))
    (fun i y c hy hc=>ih2 i (V.ren ρ y) c (by simp [hy]) hc y rfl fun n hn'=>hn n (by rw [V.names,List.mem_append,aB,aB];exact .inr ⟨y,List.mem_of_getElem? hy,hn'⟩))
  | ifc h1 ih =>
   intro v hv hn
   cases v<;>simp only [V.ren] at hv<;>try (cases hv)
   exact .ifc (ih _ rfl fun n hn'=>hn n (by rw [V.names];exact hn'))
  | int h=>intro v hv _;cases v<;>simp only [V.ren] at hv<;>cases hv;exact .fz (.int h)
  | bool=>intro v hv _;cases v<;>simp only [V.ren] at hv<;>cases hv;exact .fz .bool
  | str h=>intro v hv _;cases v<;>simp only [V.ren] at hv<;>cases hv;exact .fz (.str h)
  | fro0 h1=>intro v hv _;cases v<;>simp only [V.ren] at hv<;>cases hv;exact .fz (.fro0 h1)
  | fro c h1 h2 h3 h4 h5 h6 h7 h8=>intro v hv _;cases v<;>simp only [V.ren] at hv<;>cases hv;exact .fz (.fro c h1 h2 h3 h4 h5 h6 h7 h8)
  | nils=>intro v hv _;cases v<;>simp only [V.ren] at hv<;>cases hv;exact .fz .nils
  | fp c h1 h2 h3 h4 h5=>intro v hv _;cases v<;>simp only [V.ren] at hv<;>cases hv;exact .fz (.fp c h1 h2 h3 h4 h5)
  | nilp=>intro v hv _;cases v<;>simp only [V.ren] at hv<;>cases hv;exact .fz .nilp
  | nilf=>intro v hv _;cases v<;>simp only [V.ren] at hv<;>cases hv;exact .fz .nilf
  | nili=>intro v hv _;cases v<;>simp only [V.ren] at hv<;>cases hv;exact .fz .nili
  | nilm=>intro v hv _;cases v<;>simp only [V.ren] at hv<;>cases hv;exact .fz .nilm
  | und=>intro v hv _;cases v<;>simp only [V.ren] at hv<;>cases hv;exact .fz .und
 | agg h1 h2 h3 ih =>
  intro v hv hn
  cases v<;>simp only [V.ren] at hv<;>try (cases hv)
  rename_i vs
  rw [dK] at h1 h2 ih
  refine .agg (by simpa using h1) (fun v hv=>?_) (fun i y c hy hc=>ih i (V.ren ρ y) c (by simp [hy]) hc y rfl fun n hn'=>hn n (by rw [V.names,aB];exact ⟨y,List.mem_of_getElem? hy,hn'⟩))
  have:=h2 (V.ren ρ v) (List.mem_map.2 ⟨v,hv,rfl⟩)
  cases v<;>first|rfl|(simp [V.ren,V.one] at this)
 | tup h1 h3 ih =>
  intro v hv hn
  cases v<;>simp only [V.ren] at hv<;>try (cases hv)
  rename_i vs
  rw [dK] at h1 ih
  exact .tup (by simpa using h1) (fun i y c hy hc=>ih i (V.ren ρ y) c (by simp [hy]) hc y rfl fun n hn'=>hn n (by rw [V.names,aB];exact ⟨y,List.mem_of_getElem? hy,hn'⟩))
 | fn h1 h2 h3 h4 ih1 ih2 =>
  intro v hv hn
  cases v<;>simp only [V.ren] at hv<;>try (cases hv)
  rename_i f gs bs
  rw [dK] at h1 h2 ih1 ih2
  exact .fn (by simpa using h1) (by simpa using h2) (fun i y c hy hc=>ih1 i (V.ren ρ y) c (by simp [hy]) hc y rfl fun n hn'=>hn n (by rw [V.names,List.mem_append,aB,aB];exact .inl ⟨y,List.mem_of_getElem? hy,hn'⟩))
   (fun i y c hy hc=>ih2 i (V.ren ρ y) c (by simp [hy]) hc y rfl fun n hn'=>hn n (by rw [V.names,List.mem_append,aB,aB];exact .inr ⟨y,List.mem_of_getElem? hy,hn'⟩))
 | ifc h1 ih =>
  intro v hv hn
  cases v<;>simp only [V.ren] at hv<;>try (cases hv)
  exact .ifc (ih _ rfl fun n hn'=>hn n (by rw [V.names];exact hn'))
 | own0 h1 h2 =>
  intro v hv hn
  cases v<;>simp only [V.ren] at hv<;>try (cases hv)
  rename_i n
  obtain ⟨h3,h4⟩:=hn n (by simp [V.names])
  exact .own0 h3 (by rw [h4];exact h2)
 | own h1 h2 h4 h7 =>
  intro v hv hn
  cases v with
  | own n i len =>
   simp only [V.ren] at hv
   cases hv
   obtain ⟨h5,h6⟩:=hn n (by simp [V.names])
   rw [← h6] at h2 h4 h7 ⊢
   exact .own h5 h2 h4 h7
  | _=>simp [V.ren] at hv
 | loc h1 h2 =>
  intro v hv hn
  cases v with
  | loc n i off =>
   simp only [V.ren] at hv
   cases hv
   obtain ⟨h5,h6⟩:=hn n (by simp [V.names])
   rw [← h6] at h2 ⊢
   exact .loc h5 h2
  | _=>simp [V.ren] at hv
 | mp h1 h2 =>
  intro v hv hn
  cases v<;>simp only [V.ren] at hv<;>try (cases hv)
  rename_i n
  obtain ⟨h5,h6⟩:=hn n (by simp [V.names])
  rw [← h6] at h2
  exact .mp h5 h2
theorem Rep.one {v:V} {x:Value} (h:Rep X A φ w v x) (h1:v.one=true):x.oneCell'=true:=by
 cases h with
 | fz h=>cases h<;>first|rfl|(simp [V.one] at h1)
 | _=>first|rfl|(simp [V.one] at h1)
end
end Abs
namespace Abs
open Go.RowKit Mem
inductive Blk where
 | els (T:TypeId) (sz:Nat) (xs:List V)
 | map (es:List (V × V))
 | sit (s:ByteArray) (pos:Nat)
def lk {β:Type}:List (Nat × β)→Nat→Option β
 | [],_=>none
 | (k,v)::r,n=>bif Nat.beq k n then some v else lk r n
structure S where
 tm:List (Nat × V)
 st:List (Nat × Option Blk)
 nx:Nat
 nt:Nat
def S.blk (s:S) (n:Nat):Option Blk:=match lk s.st n with
 | some x=>x
 | none=>none
def NM:Value→Option V
 | .int k n=>bif decide ((rng k).1≤n)&&decide (n≤(rng k).2) then some (.int k n) else none
 | .bool b=>some (.bool b)
 | .string s=>bif Nat.ble s.size 65536 then some (.str s) else none
 | .pointer none=>some .nilp
 | .slice none 0 0=>some .nils
 | .nilFunc=>some .nilf
 | .nilIface=>some .nili
 | .map none=>some .nilm
 | _=>none
def S.ev (s:S):Operand→Option V
 | .tmp t=>lk s.tm t
 | .const v=>NM v
 | .func f=>some (.fn (.func f) [] [])
 | .global _=>none
structure Ap (ents:Array MapEntry) (clock n:Nat):Prop where
 sz:ents.size=n
 ck:clock=n
 bn:∀ (i:Nat) en,ents[i]? = some en→en.born=i
def iT (X M A:Nat→Prop) (φ:Nat→Pl) (w:World) (pl:Pl):Blk→Prop
 | .els T sz xs=>pl.sz=sz∧0<sz∧xs.length≤LIM∧(∀ x∈xs,x.cells.length=sz∧∀ u∈x.cells,u.one=true) ∧
  ((pl.blk=none∧xs=[]∧pl.cap=0)∨∃ b cur,pl.blk=some b∧M b∧w.heap[b]? = some (.cells cur T (0,0))∧cur.size=pl.cap*sz∧xs.length≤pl.cap∧pl.cap≤maxLen ∧
   ∀ (i j:Nat) x u,xs[i]? = some x→x.cells[j]? = some u→∃ c,cur[i*sz+j]? = some c∧Rep X A φ w u c)
 | .map es=>∃ b ents clock,pl.blk=some b∧M b∧w.heap[b]? = some (.map ents clock)∧Ap ents clock es.length ∧
  ∀ (i:Nat) k v e,es[i]? = some (k,v)→ents[i]? = some e→Fz X w k e.key∧Rep X A φ w v e.val
 | .sit s pos=>s.size≤dY∧∃ b,pl.blk=some b∧M b∧w.heap[b]? = some (.stringIter s pos)
structure iI where
 n:Nat
 P:(Nat→Option Obj)→Prop
def kC (g:iI) (X:Nat→Prop) (w:World):Prop:=g.n≤w.heap.size∧(∀ b,X b→g.n≤b)∧g.P (fun i=>if i<g.n then w.heap[i]? else none)
theorem kC.sub {g:iI} {X X':Nat→Prop} {w:World} (h:kC g X w) (hX:∀ b,X' b→X b):kC g X' w:=⟨h.1,fun b hb=>h.2.1 b (hX b hb),h.2.2⟩
theorem kC.stays {g:iI} {X X':Nat→Prop} {w w':World} (h:kC g X w) (hs:bF X w w') (hX:∀ b,b<w.heap.size→X' b→X b):kC g X' w':=by
 refine ⟨Nat.le_trans h.1 hs.size,fun b hb=>?_,?_⟩
 ·by_cases hl:b<w.heap.size
  ·exact h.2.1 b (hX b hl hb)
  ·have:=h.1;omega
 ·have e:(fun i=>if i<g.n then w'.heap[i]? else none)=fun i=>if i<g.n then w.heap[i]? else none:=by
   funext i
   by_cases hi:i<g.n
   ·rw [if_pos hi,if_pos hi]
    exact hs.block i (Nat.lt_of_lt_of_le hi h.1) fun hx=>by have:=h.2.1 i hx;omega
   ·rw [if_neg hi,if_neg hi]
  rw [e];exact h.2.2
structure Bg where
 bl:Nat→Prop
 g:iI
structure Env where
 b:Bg
 K:Nat
 pl:Nat→Pl
 df:List Deferred
abbrev Env.bl (N:Env):Nat→Prop:=N.b.bl
abbrev Env.g (N:Env):iI:=N.b.g
instance:CoeFun Env (fun _=>Nat→Prop):=⟨Env.bl⟩
instance:Coe Env (Nat→Prop):=⟨Env.bl⟩
structure Rel (N:Env) (M A:Nat→Prop) (φ:Nat→Pl) (s:S) (a:Act) (w:World):Prop where
 tm:∀ t v,lk s.tm t=some v→t<s.nt∧Rep (fun b=>M b∨N b) A φ w v (a.tmps.getD t undef)
 nt:a.tmps.size=s.nt
 st:∀ n k,s.blk n=some k→A n∧iT (fun b=>M b∨N b) M A φ w (φ n) k
 inj:∀ n n' k k' b,s.blk n=some k→s.blk n'=some k'→(φ n).blk=some b→(φ n').blk=some b→n=n'
 lim:∀ b,M b∨N b→b<w.heap.size
 dis:∀ b,M b→¬ N b
 df:a.defers=N.df
 pin:∀ n,n<N.K→A n∧φ n=N.pl n
 gl:kC N.g (fun b=>M b∨N b) w
section
variable {N:Env} {M M' A A':Nat→Prop} {φ φ':Nat→Pl} {s s':S} {a a':Act} {w w':World}
variable {n:Int}
theorem Rel.gy (h:Rel N M A φ s a w) {n:Nat} {k:Blk} (hk:s.blk n=some k) {b:Nat} (hb:(φ n).blk=some b):M b:=by
 have:=(h.st n k hk).2
 cases k with
 | els T sz xs =>
  obtain ⟨_,_,_,_,h1|⟨b',cur,h1,h2,_⟩⟩:=this
  ·rw [hb] at h1;cases h1.1
  ·rw [hb] at h1;cases h1;exact h2
 | map es=>obtain ⟨b',_,_,h1,h2,_⟩:=this;rw [hb] at h1;cases h1;exact h2
 | sit s pos=>obtain ⟨_,b',h1,h2,_⟩:=this;rw [hb] at h1;cases h1;exact h2
theorem iT.mono {X X':Nat→Prop} {pl:Pl} {k:Blk} (hX:∀ b,b<w.heap.size→X' b→X b) (hs:bF X w w') (hA:∀ n,A n→A' n) (hφ:∀ n,A n→φ' n=φ n) (hM:∀ b,M b→M' b) (hb:∀ b,pl.blk=some b→w'.heap[b]? = w.heap[b]?)
  (h:iT X M A φ w pl k):iT X' M' A' φ' w' pl k:=by
 cases k with
 | els T sz xs =>
  obtain ⟨h1,h2,h3,h4,h5⟩:=h
  refine ⟨h1,h2,h3,h4,h5.imp id ?_⟩
  rintro ⟨b,cur,g1,g2,g3,g4,g5,g6,g7⟩
  refine ⟨b,cur,g1,hM b g2,(hb b g1).trans g3,g4,g5,g6,fun i j x u hx hu=>?_⟩
  obtain ⟨c,hc,hr⟩:=g7 i j x u hx hu
  exact ⟨c,hc,hr.mono hX hs hA hφ⟩
 | map es =>
  obtain ⟨b,ents,clock,g1,g2,g3,g4,g5⟩:=h
  exact ⟨b,ents,clock,g1,hM b g2,(hb b g1).trans g3,g4,fun i k v e hk he=>⟨(g5 i k v e hk he).1.mono hX hs,(g5 i k v e hk he).2.mono hX hs hA hφ⟩⟩
 | sit s pos=>obtain ⟨h0,b,g1,g2,g3⟩:=h;exact ⟨h0,b,g1,hM b g2,(hb b g1).trans g3⟩
theorem Rel.grow (h:Rel N M A φ s a w) (hb:Below w.heap.size w w'):Rel N M A φ s a w' where
 tm t v ht:=⟨(h.tm t v ht).1,(h.tm t v ht).2.mono (fun _ _ h=>h) (.of_below hb) (fun _ h=>h) (fun _ _=>rfl)⟩
 nt:=h.nt
 st n k hk:=⟨(h.st n k hk).1,(h.st n k hk).2.mono (fun _ _ h=>h) (.of_below hb) (fun _ h=>h) (fun _ _=>rfl) (fun _ h=>h) fun b e=>hb.block b (h.lim b (.inl (h.gy hk e)))⟩
 inj:=h.inj
 lim b hb':=Nat.lt_of_lt_of_le (h.lim b hb') hb.size
 dis:=h.dis
 df:=h.df
 pin:=h.pin
 gl:=h.gl.stays (.of_below hb) fun _ _ h=>h
theorem bW {β:Type} (l:List (Nat × β)) (d:Nat) (v:β) (t:Nat):lk ((d,v)::l) t=if d=t then some v else lk l t:=by
 rw [lk]
 by_cases e:d=t
 ·subst e;simp
 ·have:Nat.beq d t=false:=by
   cases hb:Nat.beq d t with
   | false=>rfl
   | true=>exact absurd (Nat.eq_of_beq_eq_true hb) e
  simp [this,e]
theorem fJ {X A:Nat→Prop} {φ:Nat→Pl} {k:IntKind} {x:Value} (h:Rep X A φ w (.int k n) x):x = .int k n:=by cases h with|fz h=>cases h;rfl
theorem iV {X A:Nat→Prop} {φ:Nat→Pl} {b:Bool} {x:Value} (h:Rep X A φ w (.bool b) x):x = .bool b:=by cases h with|fz h=>cases h;rfl
theorem jq {X A:Nat→Prop} {φ:Nat→Pl} {s:ByteArray} {x:Value} (h:Rep X A φ w (.str s) x):x = .string s∧s.size≤dY:=by cases h with|fz h=>cases h;exact ⟨rfl,by assumption⟩
theorem Yk {X A:Nat→Prop} {φ:Nat→Pl} {x:Value} (h:Rep X A φ w .und x):x=undef:=by cases h with|fz h=>cases h;rfl
theorem RH {X A:Nat→Prop} {φ:Nat→Pl} {c:Value} {v:V} (h:NM c=some v):Rep X A φ w v c:=by
 unfold NM at h
 split at h<;>first|cases h|skip
 ·rename_i k n
  cases hb:decide ((rng k).1≤n)&&decide (n≤(rng k).2) with
  | false=>rw [hb] at h;cases h
  | true =>
   rw [hb] at h;cases h
   rw [Bool.and_eq_true,decide_eq_true_eq,decide_eq_true_eq] at hb
   exact .fz (.int hb)
 ·exact .fz .bool
 ·rename_i s
  cases hb:Nat.ble s.size 65536 with
  | false=>rw [hb] at h;cases h
  | true =>
   rw [hb] at h;cases h
   have:s.size≤65536:=Nat.le_of_ble_eq_true hb
   exact .fz (.str (Nat.le_trans this (by decide)))
 ·exact .fz .nilp
 ·exact .fz .nils
 ·exact .fz .nilf
 ·exact .fz .nili
 ·exact .fz .nilm
theorem Rel.ev (h:Rel N M A φ s a w) {x:Operand} {v:V} (hx:s.ev x=some v):Rep (fun b=>M b∨N b) A φ w v (a.eval x):=by
 cases x with
 | tmp t=>exact (h.tm t v hx).2
 | const c=>exact RH hx
 | func f=>cases hx;exact .fz (.fn rfl rfl (fun i x c h=>by simp at h) (fun i x c h=>by simp at h))
 | global g=>cases hx
theorem Rel.int (h:Rel N M A φ s a w) {x:Operand} {k:IntKind} (hx:s.ev x=some (.int k n)):a.eval x = .int k n:=fJ (h.ev hx)
theorem Rel.bool (h:Rel N M A φ s a w) {x:Operand} {b:Bool} (hx:s.ev x=some (.bool b)):a.eval x = .bool b:=iV (h.ev hx)
theorem Rel.str (h:Rel N M A φ s a w) {x:Operand} {b:ByteArray} (hx:s.ev x=some (.str b)):a.eval x = .string b∧b.size≤dY:=jq (h.ev hx)
end
def Post (N:Env) (Q:Exit→S→Prop) (M:Nat→Prop) (w:World) (e:Exit) (a':Act) (w':World):Prop :=
 ∃ M' φ' s',bF M w w'∧(∀ b,b<w.heap.size→M' b→M b)∧Rel N M' (· < s'.nx) φ' s' a' w'∧Q e s'
def AWp (P:Program) (N:Env) (c:Code) (Q:Exit→S→Prop) (s:S):Prop :=
 ∀ M φ a w,Rel N M (· < s.nx) φ s a w→c.wp P (Post N Q M w) a w
def lg (K:S→Prop) (Q:Exit→S→Prop):Exit→S→Prop
 | .normal,s=>K s
 | e,s=>Q e s
def vP (id:Nat) (Q:Exit→S→Prop):Exit→S→Prop
 | .exit id',s=>if id'=id then Q .normal s else Q (.exit id') s
 | e,s=>Q e s
theorem zU {P:Program} {c:Code} {Q Q':Exit→Act→World→Prop} (hq:∀ e a w,Q e a w→Q' e a w):∀ n a w,Code.rounds P c Q n a w→Code.rounds P c Q' n a w
 | 0,_,_,h=>h.elim
 | n+1,a,w,h=>by
  rw [rounds_succ] at h ⊢
  refine Code.wp_mono (fun e a w q=>?_) h
  cases e with
  | normal=>exact zU hq n a w q
  | _=>exact hq _ _ _ q
section
variable {P:Program} {N:Env} {Q Q':Exit→S→Prop} {s:S} {c x y:Code}
variable {id:Nat}
theorem AWp.mono (h:AWp P N c Q s) (hq:∀ e s,Q e s→Q' e s):AWp P N c Q' s:=fun M φ a w hr =>
 wp_mono (h M φ a w hr) fun _ _ _ ⟨M',φ',s',h1,h2,h3,h4⟩=>⟨M',φ',s',h1,h2,h3,hq _ _ h4⟩
theorem iH (h:Q .normal s):AWp P N .skip Q s:=fun M φ _ w hr=>wp_skip ⟨M,φ,s,.refl _ w,fun _ _ h=>h,hr,h⟩
theorem iM (h:Q (.exit id) s):AWp P N (.exit id) Q s:=fun M φ _ w hr=>wp_exit ⟨M,φ,s,.refl _ w,fun _ _ h=>h,hr,h⟩
theorem jr (h:Q .ret s):AWp P N .ret Q s:=fun M φ _ w hr=>wp_ret ⟨M,φ,s,.refl _ w,fun _ _ h=>h,hr,h⟩
theorem gY {l:Nat} (h:Q .normal s):AWp P N (.label l) Q s:=fun M φ _ w hr=>wp_label ⟨M,φ,s,.refl _ w,fun _ _ h=>h,hr,h⟩
theorem Post.after {M M':Nat→Prop} {w w':World} {e:Exit} {a2:Act} {w2:World} (hs:bF M w w') (hM:∀ b,b<w.heap.size→M' b→M b) (h:Post N Q M' w' e a2 w2):Post N Q M w e a2 w2:=by
 obtain ⟨M2,φ2,s2,h1,h2,h3,h4⟩:=h
 exact ⟨M2,φ2,s2,hs.trans h1 hM,fun b hb h=>hM b hb (h2 b (Nat.lt_of_lt_of_le hb hs.size) h),h3,h4⟩
theorem iW (h:AWp P N x (lg (AWp P N y Q) Q) s):AWp P N (.seq x y) Q s:=fun M φ a w hr=>by
 refine wp_seq (wp_mono (h M φ a w hr) fun e a' w' ⟨M',φ',s',h1,h2,h3,h4⟩=>?_)
 cases e with
 | normal=>exact wp_mono (h4 M' φ' a' w' h3) fun e a2 w2=>Post.after h1 h2
 | _=>exact ⟨M',φ',s',h1,h2,h3,h4⟩
theorem Ct {o:Operand} {b:Bool} (hc:s.ev o=some (.bool b)) (h:AWp P N (bif b then x else y) Q s):AWp P N (.cond o x y) Q s:=fun M φ a w hr=>by
 refine wp_cond (t:=b) (hr.bool hc) ?_
 cases b<;>exact h M φ a w hr
theorem iD {o:Operand} (hc:s.ev o=some (.bool true)) (h:AWp P N x Q s):AWp P N (.cond o x y) Q s:=Ct hc h
theorem fZ {o:Operand} (hc:s.ev o=some (.bool false)) (h:AWp P N y Q s):AWp P N (.cond o x y) Q s:=Ct hc h
theorem gB (h:AWp P N c (vP id Q) s):AWp P N (.block id c) Q s:=fun M φ a w hr=>by
 refine wp_block (wp_mono (h M φ a w hr) fun e a' w' ⟨M',φ',s',h1,h2,h3,h4⟩=>?_)
 cases e with
 | exit id' =>
  unfold Exit.inBlock
  by_cases e:id'=id
  ·simp only [e,if_true];simp only [vP,e,if_true] at h4;exact ⟨M',φ',s',h1,h2,h3,h4⟩
  ·simp only [e,if_false];simp only [vP,e,if_false] at h4;exact ⟨M',φ',s',h1,h2,h3,h4⟩
 | _=>exact ⟨M',φ',s',h1,h2,h3,h4⟩
def J2 (ρ:Nat→Nat) (s:S) (nx nt:Nat):List (Nat × V)→Prop
 | []=>True
 | p::r=>(lk s.tm p.1=some (p.2.ren ρ)∧(p.2.names.all fun n=>Nat.blt n nx)=true)∧J2 ρ s nx nt r
def Nu (ρ:Nat→Nat) (s:S) (nx:Nat):List (Nat × Option Blk)→Prop
 | []=>True
 | (n,none)::r=>Nu ρ s nx r∧n=n
 | (n,some (.els T sz xs))::r=>(((s.blk (ρ n)=some (.els T sz xs)∧∀ x∈xs,x.names=[])∨(s.blk (ρ n)=some (.els T sz (V.wh ρ xs))∧((V.bf xs).all fun n=>Nat.blt n nx)=true))∧Nat.blt n nx=true)∧Nu ρ s nx r
 | (n,some k)::r=>(s.blk (ρ n)=some k∧Nat.blt n nx=true∧(match k with|.map es=>∀ p∈es,p.2.names=[]|_=>True))∧Nu ρ s nx r
def rz (ρ:Nat→Nat):List (Nat × Option Blk)→Bool
 | []=>true
 | p::r=>(r.all fun q => !Nat.beq p.1 q.1 && !Nat.beq (ρ p.1) (ρ q.1))&&rz ρ r
structure Le (ρ:Nat→Nat) (s1 s:S):Prop where
 nt:s1.nt=s.nt
 tm:J2 ρ s s1.nx s1.nt s1.tm
 st:Nu ρ s s1.nx s1.st
 ks:rz ρ s1.st=true
mutual
theorem Nt {ρ:Nat→Nat}:∀ v:V,v.names=[]→v.ren ρ=v
 | .agg vs,h=>by rw [V.names] at h;rw [V.ren,tQ vs h]
 | .tup vs,h=>by rw [V.names] at h;rw [V.ren,tQ vs h]
 | .fn f a b,h=>by rw [V.names,List.append_eq_nil_iff] at h;rw [V.ren,tQ a h.1,tQ b h.2]
 | .ifc t v,h=>by rw [V.names] at h;rw [V.ren,Nt v h]
 | .own _ _ _,h=>by simp [V.names] at h
 | .loc _ _ _,h=>by simp [V.names] at h
 | .mp _,h=>by simp [V.names] at h
 | .int _ _,_|.bool _,_|.str _,_|.fro _,_|.nils,_|.fp _ _,_|.nilp,_|.nilf,_|.nili,_|.nilm,_|.und,_=>rfl
theorem tQ {ρ:Nat→Nat}:∀ l:List V,V.bf l=[]→V.wh ρ l=l
 | [],_=>rfl
 | v::r,h=>by rw [V.bf,List.append_eq_nil_iff] at h;rw [V.wh,Nt v h.1,tQ r h.2]
end
variable {s1:S} {ρ:Nat→Nat}
theorem yZ {β:Type}:∀ {l:List (Nat × β)} {n:Nat} {v:β},lk l n=some v→(n,v)∈l
 | p::r,n,v,h=>by
  obtain ⟨k,u⟩:=p
  rw [bW] at h
  split at h
  ·rename_i e;subst e;cases h;simp
  ·exact List.mem_cons_of_mem _ (yZ h)
theorem PE {ρ:Nat→Nat} {s:S} {nx nt:Nat}:∀ {l:List (Nat × V)},J2 ρ s nx nt l→∀ p∈l,lk s.tm p.1=some (p.2.ren ρ)∧∀ n∈p.2.names,n<nx
 | q::r,h,p,hp=>by
  rcases List.mem_cons.1 hp with rfl|hp
  ·exact ⟨h.1.1,fun n hn=>by simpa using List.all_eq_true.1 h.1.2 n hn⟩
  ·exact PE h.2 p hp
theorem p8 {ρ:Nat→Nat} {s:S} {nx:Nat}:∀ {l:List (Nat × Option Blk)},Nu ρ s nx l→∀ n k,(n,some k)∈l→n<nx∧match k with
  | .els T sz xs=>s.blk (ρ n)=some (.els T sz (V.wh ρ xs))∧∀ m∈V.bf xs,m<nx
  | .map es=>s.blk (ρ n)=some (.map es)∧∀ p∈es,p.2.names=[]
  | .sit t pos=>s.blk (ρ n)=some (.sit t pos)
 | (m,none)::r,h,n,k,hm=>by
  rcases List.mem_cons.1 hm with e|hm
  ·cases e
  ·exact p8 h.1 n k hm
 | (m,some (.els T sz xs))::r,h,n,k,hm=>by
  rcases List.mem_cons.1 hm with e|hm
  ·cases e
   refine ⟨by simpa using h.1.2,?_⟩
   rcases h.1.1 with ⟨h1,h2⟩|⟨h1,h2⟩
   ·have hn:V.bf xs=[]:=List.eq_nil_iff_forall_not_mem.2 fun m hm=>by
     obtain ⟨v,hv,hm⟩:=aB.1 hm
     rw [h2 v hv] at hm;cases hm
    exact ⟨by rw [tQ _ hn];exact h1,fun m hm=>by rw [hn] at hm;cases hm⟩
   ·exact ⟨h1,fun m hm=>by simpa using List.all_eq_true.1 h2 m hm⟩
  ·exact p8 h.2 n k hm
 | (m,some (.map es))::r,h,n,k,hm=>by
  rcases List.mem_cons.1 hm with e|hm
  ·cases e;exact ⟨by simpa using h.1.2.1,h.1.1,h.1.2.2⟩
  ·exact p8 h.2 n k hm
 | (m,some (.sit t pos))::r,h,n,k,hm=>by
  rcases List.mem_cons.1 hm with e|hm
  ·cases e;exact ⟨by simpa using h.1.2.1,h.1.1⟩
  ·exact p8 h.2 n k hm
theorem Li {ρ:Nat→Nat}:∀ {l:List (Nat × Option Blk)},rz ρ l=true→∀ p∈l,∀ q∈l,ρ p.1=ρ q.1→p.1=q.1
 | x::r,h,p,hp,q,hq,e=>by
  rw [rz,Bool.and_eq_true] at h
  have h1:∀ q∈r,¬ ρ x.1=ρ q.1:=fun q hq=>by
   intro e
   have:=List.all_eq_true.1 h.1 q hq
   rw [e] at this
   simp at this
  rcases List.mem_cons.1 hp with e1|hp
  ·rcases List.mem_cons.1 hq with e2|hq
   ·rw [e1,e2]
   ·exact absurd (e1 ▸ e) (h1 q hq)
  ·rcases List.mem_cons.1 hq with e2|hq
   ·exact absurd (e2 ▸ e.symm) (h1 p hp)
   ·exact Li h.2 p hp q hq e
theorem IJ {s:S} {n:Nat} {k:Blk} (h:s.blk n=some k):(n,some k)∈s.st:=by
 unfold S.blk at h
 cases hl:lk s.st n with
 | none=>rw [hl] at h;cases h
 | some x=>rw [hl] at h;simp only at h;subst h;exact yZ hl
theorem sD {X A A':Nat→Prop} {φ φ':Nat→Pl} {w:World} {v:V} (hv:v.names=[]) {x:Value} (h:Rep X A φ w v x):Rep X A' φ' w v x:=by
 suffices H:∀ {v:V} {x:Value},Rep X A φ w v x→v.names=[]→Rep X A' φ' w v x from H h hv
 intro v x h
 induction h with
 | fz h=>exact fun _=>.fz h
 | agg h1 h2 _ ih =>
  intro hn
  refine .agg h1 h2 fun i y c hy hc=>ih i y c hy hc (List.eq_nil_iff_forall_not_mem.2 fun m hm=>?_)
  rw [V.names] at hn
  have:=aB.2 ⟨y,List.mem_of_getElem? hy,hm⟩
  rw [hn] at this;cases this
 | tup h1 _ ih =>
  intro hn
  refine .tup h1 fun i y c hy hc=>ih i y c hy hc (List.eq_nil_iff_forall_not_mem.2 fun m hm=>?_)
  rw [V.names] at hn
  have:=aB.2 ⟨y,List.mem_of_getElem? hy,hm⟩
  rw [hn] at this;cases this
 | fn h1 h2 _ _ ih1 ih2 =>
  intro hn
  rw [V.names,List.append_eq_nil_iff] at hn
  refine .fn h1 h2 (fun i y c hy hc=>ih1 i y c hy hc (List.eq_nil_iff_forall_not_mem.2 fun m hm=>?_)) (fun i y c hy hc=>ih2 i y c hy hc (List.eq_nil_iff_forall_not_mem.2 fun m hm=>?_))
  ·have:=aB.2 ⟨y,List.mem_of_getElem? hy,hm⟩
   rw [hn.1] at this;cases this
  ·have:=aB.2 ⟨y,List.mem_of_getElem? hy,hm⟩
   rw [hn.2] at this;cases this
 | ifc _ ih=>exact fun hn=>.ifc (ih (by rw [V.names] at hn;exact hn))
 | own0=>intro hn;simp [V.names] at hn
 | own=>intro hn;simp [V.names] at hn
 | loc=>intro hn;simp [V.names] at hn
 | mp=>intro hn;simp [V.names] at hn
theorem kr (ρ:Nat→Nat) (v:V):(v.ren ρ).cells=v.cells.map (V.ren ρ):=by
 cases v<;>simp [V.ren,V.cells,dK]
theorem AU (ρ:Nat→Nat) (v:V):(v.ren ρ).one=v.one:=by cases v<;>simp [V.ren,V.one]
def D9 (ρ:Nat→Nat) (K nx:Nat):Bool:=(List.range K).all fun n=>Nat.beq (ρ n) n&&Nat.blt n nx
theorem Le.rel (h:Le ρ s1 s) (hp:D9 ρ N.K s1.nx=true) {M A:Nat→Prop} {φ:Nat→Pl} {a:Act} {w:World} (hr:Rel N M A φ s a w):Rel N M (· < s1.nx) (fun n=>φ (ρ n)) s1 a w where
 tm t v ht:=by
  obtain ⟨h1,h2⟩:=PE h.tm _ (yZ ht)
  exact ⟨by rw [h.nt];exact (hr.tm t _ h1).1,Rep.ren (ρ:=ρ) (fun n hn=>⟨h2 n hn,rfl⟩) (hr.tm t _ h1).2⟩
 nt:=by rw [h.nt];exact hr.nt
 st n k hk:=by
  have hm:=IJ hk
  obtain ⟨h1,h2⟩:=p8 h.st n k hm
  refine ⟨h1,?_⟩
  cases k with
  | els T sz xs =>
   obtain ⟨h3,h4⟩:=h2
   obtain ⟨g1,g2,g3,g4,g5⟩:=(hr.st _ _ h3).2
   rw [dK] at g3 g4 g5
   rw [List.length_map] at g3
   refine ⟨g1,g2,g3,fun x hx=>?_,?_⟩
   ·obtain ⟨k1,k2⟩:=g4 (x.ren ρ) (List.mem_map.2 ⟨x,hx,rfl⟩)
    rw [kr] at k1 k2
    rw [List.length_map] at k1
    exact ⟨k1,fun u hu=>by rw [← AU ρ];exact k2 _ (List.mem_map.2 ⟨u,hu,rfl⟩)⟩
   ·rcases g5 with ⟨k1,k2,k3⟩|⟨b,cur,k1,k2,k3,k4,k5,k6,k7⟩
    ·exact .inl ⟨k1,by simpa using k2,k3⟩
    ·rw [List.length_map] at k5
     refine .inr ⟨b,cur,k1,k2,k3,k4,k5,k6,fun i j x u hx hu=>?_⟩
     obtain ⟨c,hc,hrep⟩:=k7 i j (x.ren ρ) (u.ren ρ) (by simp [hx]) (by rw [kr];simp [hu])
     refine ⟨c,hc,Rep.ren (ρ:=ρ) (fun n hn=>⟨h4 n (aB.2 ⟨x,List.mem_of_getElem? hx,?_⟩),rfl⟩) hrep⟩
     cases x<;>first
      | (simp only [V.cells] at hu;rw [V.names,aB];exact ⟨u,List.mem_of_getElem? hu,hn⟩)
      | (simp only [V.cells,List.getElem?_singleton] at hu;split at hu<;>cases hu;exact hn)
  | map es =>
   obtain ⟨h3,h4⟩:=h2
   obtain ⟨b,ents,clock,g1,g2,g3,g4,g5⟩:=(hr.st _ _ h3).2
   exact ⟨b,ents,clock,g1,g2,g3,g4,fun i k v e hk he=>⟨(g5 i k v e hk he).1,sD (h4 _ (List.mem_of_getElem? hk)) (g5 i k v e hk he).2⟩⟩
  | sit t pos=>exact (hr.st _ _ h2).2
 inj n n' k k' b h1 h2 h3 h4:=by
  have e1:=IJ h1
  have e2:=IJ h2
  have f1:∃ q,s.blk (ρ n)=some q:=by
   have:=(p8 h.st n k e1).2
   cases k with
   | els=>exact ⟨_,this.1⟩
   | map=>exact ⟨_,this.1⟩
   | sit=>exact ⟨_,this⟩
  have f2:∃ q,s.blk (ρ n')=some q:=by
   have:=(p8 h.st n' k' e2).2
   cases k' with
   | els=>exact ⟨_,this.1⟩
   | map=>exact ⟨_,this.1⟩
   | sit=>exact ⟨_,this⟩
  obtain ⟨q,f1⟩:=f1
  obtain ⟨q',f2⟩:=f2
  exact Li h.ks _ e1 _ e2 (hr.inj _ _ _ _ b f1 f2 h3 h4)
 lim:=hr.lim
 dis:=hr.dis
 df:=hr.df
 pin n hn:=by
  have:=List.all_eq_true.1 hp n (List.mem_range.2 hn)
  simp only [Bool.and_eq_true] at this
  rw [Nat.eq_of_beq_eq_true this.1]
  exact ⟨by simpa using this.2,(hr.pin n hn).2⟩
 gl:=hr.gl
theorem acB (h:Le ρ s1 s) (hp:D9 ρ N.K s1.nx=true) (k:AWp P N c Q s1):AWp P N c Q s:=fun _ _ a w hr=>k _ _ a w (h.rel hp hr)
theorem tq {α:Type} (st:α→S) (I:α→Prop) (μ:α→Nat) (x0:α) (ρ0:Nat→Nat) (h0:Le ρ0 (st x0) s) (hp0:D9 ρ0 N.K (st x0).nx=true) (hI:I x0)
  (round:∀ x,I x→AWp P N c (lg (fun s'=>∃ y ρ,I y∧μ y<μ x∧Le ρ (st y) s'∧D9 ρ N.K (st y).nx=true) Q) (st x)):AWp P N (.loop c) Q s:=fun M φ a w hr=>by
 let J:Act→World→Nat→Prop:=fun a' w' n=>∃ x M' φ',I x∧μ x=n∧bF M w w'∧(∀ b,b<w.heap.size→M' b→M b)∧Rel N M' (· < (st x).nx) φ' (st x) a' w'
 have least:∀ a' w' n,J a' w' n→∃ m,J a' w' m∧∀ k,J a' w' k→m≤k:=by
  intro a' w' n
  induction n using Nat.strongRecOn with
  | _ n ih =>
   intro hn
   by_cases h:∃ k,k<n∧J a' w' k
   ·obtain ⟨k,hk,hj⟩:=h
    exact ih k hk hj
   ·exact ⟨n,hn,fun k hk=>Nat.le_of_not_lt fun hlt=>h ⟨k,hlt,hk⟩⟩
 let ν:Act→World→Nat:=fun a' w'=>Classical.epsilon fun m=>J a' w' m∧∀ k,J a' w' k→m≤k
 have hν:∀ a' w' n,J a' w' n→J a' w' (ν a' w')∧∀ k,J a' w' k→ν a' w'≤k:=fun a' w' n h=>Classical.epsilon_spec (least a' w' n h)
 refine wp_loop (fun a' w'=>∃ n,J a' w' n) ν ⟨_,x0,M,_,hI,rfl,.refl _ _,fun _ _ h=>h,h0.rel hp0 hr⟩ fun a1 w1 ⟨n1,hj⟩=>?_
 obtain ⟨⟨x,M1,φ1,hx,hμ,hs,hM,hr1⟩,_⟩:=hν a1 w1 n1 hj
 refine wp_mono (round x hx M1 φ1 a1 w1 hr1) fun e a2 w2 ⟨M2,φ2,s2,k1,k2,k3,k4⟩=>?_
 cases e with
 | normal =>
  obtain ⟨y,ρ,hy,hlt,hle,hpy⟩:=k4
  have hj2:J a2 w2 (μ y):=⟨y,M2,_,hy,rfl,hs.trans k1 hM,fun b hb h=>hM b hb (k2 b (Nat.lt_of_lt_of_le hb hs.size) h),hle.rel hpy k3⟩
  exact ⟨⟨_,hj2⟩,Nat.lt_of_le_of_lt ((hν a2 w2 _ hj2).2 _ hj2) (by rw [← hμ];exact hlt)⟩
 | _=>exact ⟨M2,φ2,s2,hs.trans k1 hM,fun b hb h=>hM b hb (k2 b (Nat.lt_of_lt_of_le hb hs.size) h),k3,k4⟩
def yu (P:Program) (N:Env) (c:Code) (Q:Exit→S→Prop):Nat→S→Prop
 | 0,_=>False
 | n+1,s=>AWp P N c (lg (yu P N c Q n) Q) s
theorem aO (n:Nat) (h:yu P N c Q n s):AWp P N (.loop c) Q s:=by
 have key:∀ n s,yu P N c Q n s→∀ M φ a w,Rel N M (· < s.nx) φ s a w→Code.rounds P c (Post N Q M w) n a w:=by
  intro n
  induction n with
  | zero=>exact fun s h=>h.elim
  | succ n ih =>
   intro s h M φ a w hr
   rw [rounds_succ]
   refine wp_mono (h M φ a w hr) fun e a' w' ⟨M',φ',s',h1,h2,h3,h4⟩=>?_
   cases e with
   | normal=>exact zU (fun e a2 w2=>Post.after h1 h2) n a' w' (ih s' h4 M' φ' a' w' h3)
   | _=>exact ⟨M',φ',s',h1,h2,h3,h4⟩
 exact fun M φ a w hr=>wp_loop_rounds n (key n s h M φ a w hr)
end
end Abs
namespace Abs
open Go.RowKit Mem Facts
structure Fp where
 ts:List (Operand × V)
 ns:List (Nat × Blk)
def Holds (fp:Fp) (s:S):Prop:=(∀ p∈fp.ts,s.ev p.1=some p.2)∧∀ p∈fp.ns,s.blk p.1=some p.2
def S.eff (s:S) (dst:Option Nat) (v:V) (up:List (Nat × Option Blk)) (nx:Nat):S :=
 {tm:=match dst with
   | some d=>(d,v)::s.tm
   | none=>s.tm
  st:=up++s.st,nx:=nx,nt:=s.nt }
def aC (P:Program) (N:Env) (o:Oper) (fp:Fp) (v:V) (up:List (Nat × Option Blk)) (new:List Nat):Prop :=
 ∀ s M A φ a w,Holds fp s→Rel N M A φ s a w→(∀ n∈new,¬ A n)→(∀ d,o.dst=some d→d<s.nt) →
  o.wp P a w (fun a' w'=>∃ M' φ',bF M w w'∧(∀ b,b<w.heap.size→M' b→M b)∧Rel N M' (fun n=>A n∨n∈new) φ' (s.eff o.dst v up s.nx) a' w') (fun _ _ _=>False)
theorem Hf {P:Program} {o:Oper} {a:Act} {w:World} {K:Act→World→Prop} {Q:Exit→Act→World→Prop} (h:o.wp P a w K (fun _ _ _=>False)):o.wp P a w K Q:=by
 unfold Oper.wp at *
 generalize (execOp a.eval o).run P w=r at *
 cases r with
 | ok n w' =>
  cases n<;>simp only [Oper.upon] at h ⊢ <;>
   first
    | exact h
    | exact Calls.mono h (fun e w'' he=>by
     cases e with
     | returned v=>exact he
     | panicked c=>exact he.elim
     | outgrown=>obtain ⟨_,_,he⟩:=he;exact he.elim)
 | halt x w'=>cases x<;>simp only [Oper.upon] at h ⊢
def nth {α:Type}:List α→Nat→Option α
 | [],_=>none
 | x::_,0=>some x
 | _::r,n+1=>nth r n
theorem dw {α:Type}:∀ (l:List α) (n:Nat),nth l n=l[n]?
 | [],_=>by simp [nth]
 | _::_,0=>rfl
 | x::r,n+1=>by rw [nth,dw r n];simp
def Mc (l:List Oper) (o:Oper):Option Nat:=match o.guard with
 | none=>none
 | some (j,_)=>match nth l j with
  | some p=>p.dst
  | none=>none
def ax (l:List Oper) (o:Oper) (s:S):Option Bool:=match o.guard with
 | none=>some true
 | some (j,want)=>match nth l j with
  | none=>some false
  | some p=>match p.dst with
   | none=>some false
   | some d=>match lk s.tm d with
    | some (.bool b)=>some (b==want)
    | some .und=>some false
    | _=>none
theorem dX {N:Env} {M A:Nat→Prop} {φ:Nat→Pl} {l:List Oper} {o:Oper} {s:S} {a:Act} {w:World} {b:Bool} (h:ax l o s=some b) (hr:Rel N M A φ s a w):Region.wanted o (yielded l.toArray a.tmps)=b:=by
 unfold ax at h
 unfold Region.wanted
 cases hg:o.guard with
 | none=>rw [hg] at h;cases h;rfl
 | some p =>
  obtain ⟨j,want⟩:=p
  rw [hg] at h
  simp only at h ⊢
  rw [dw] at h
  unfold yielded
  simp only [List.getElem?_toArray]
  cases hl:l[j]? with
  | none=>rw [hl] at h;cases h;simp
  | some p =>
   rw [hl] at h
   simp only [Option.bind_some] at h ⊢
   cases hd:p.dst with
   | none=>rw [hd] at h;cases h;simp
   | some d =>
    rw [hd] at h
    simp only [Option.bind_some] at h ⊢
    cases hv:lk s.tm d with
    | none=>rw [hv] at h;cases h
    | some v =>
     rw [hv] at h
     obtain ⟨hlt,hrep⟩:=hr.tm d v hv
     have hsz:d<a.tmps.size:=by rw [hr.nt];exact hlt
     have e:a.tmps[d]? = some (a.tmps.getD d undef):=by simp [hsz]
     rw [e]
     cases v with
     | bool b'=>cases h;rw [iV hrep];cases b'<;>cases want<;>rfl
     | und=>cases h;rw [Yk hrep];rfl
     | _=>cases h
structure Tr where
 tt:List Nat
 wt:Option Nat
 nn:List Nat
 wn:List Nat
def aao:Operand→Option Nat
 | .tmp t=>some t
 | _=>none
def aH (l:List Oper) (o:Oper) (fp:Fp) (up:List (Nat × Option Blk)):Tr:=⟨(Mc l o).toList++fp.ts.filterMap (aao ·.1),o.dst,fp.ns.map (·.1),up.map (·.1)⟩
def clash (k i:Tr):Bool:=(match k.wt with
 | some d=>i.tt.contains d||i.wt==some d
 | none=>false)||k.wn.any fun n=>i.nn.contains n||i.wn.contains n
def WE (D:List (List Nat)) (tr:List Tr):Bool:=(List.range tr.length).all fun i=>(List.range tr.length).all fun k=>k==i || !(match tr[k]?,tr[i]? with
 | some x,some y=>clash x y
 | _,_=>false)||(if k<i then (D.getD i []).contains k else (D.getD k []).contains i)
def check (l:List Oper) (tr:List Tr):Bool:=WU l.toArray (deps l.toArray)&&WE (deps l.toArray) tr
inductive ay (P:Program) (N:Env) (l:List Oper) (K:S→List Tr→Prop):List Oper→S→List Tr→Prop
 | nil {s tr}:K s tr→ay P N l K [] s tr
 | on {o r s tr} (fp:Fp) (v:V) (up:List (Nat × Option Blk)) (new:List Nat) (nx:Nat):ax l o s=some true→aC P N o fp v up new→Holds fp s→(s.nx≤nx∧∀ n∈new,s.nx≤n∧n<nx)→(∀ d,o.dst=some d→d<s.nt) →
  ay P N l K r (s.eff o.dst v up nx) (tr++[aH l o fp up])→ay P N l K (o::r) s tr
 | off {o r s tr}:ax l o s=some false→(∀ d,o.dst=some d→d<s.nt)→ay P N l K r (s.eff o.dst .und [] s.nx) (tr++[aH l o ⟨[],[]⟩ []])→ay P N l K (o::r) s tr
section
variable {P:Program} {N:Env} {M M' A A':Nat→Prop} {φ:Nat→Pl} {s s':S} {a:Act} {w w':World} {l:List Oper} {Q:Exit→S→Prop}
variable {tr:List Tr} {β:Type} {id n:Nat}
theorem Rel.wider (h:Rel N M A φ s a w) (hA:∀ n,A n→A' n):Rel N M A' φ s a w where
 tm t v ht:=⟨(h.tm t v ht).1,(h.tm t v ht).2.mono (fun _ _ h=>h) (.refl _ w) hA (fun _ _=>rfl)⟩
 nt:=h.nt
 st n k hk:=⟨hA n (h.st n k hk).1,(h.st n k hk).2.mono (fun _ _ h=>h) (.refl _ w) hA (fun _ _=>rfl) (fun _ h=>h) fun _ _=>rfl⟩
 inj:=h.inj
 lim:=h.lim
 dis:=h.dis
 df:=h.df
 pin n hn:=⟨hA n (h.pin n hn).1,(h.pin n hn).2⟩
 gl:=h.gl
theorem Rel.as (h:Rel N M A φ s a w) (ht:∀ t,lk s'.tm t=lk s.tm t) (hb:∀ n,s'.blk n=s.blk n) (hn:s'.nt=s.nt):Rel N M A φ s' a w where
 tm t v e:=by rw [hn];exact h.tm t v (by rw [← ht];exact e)
 nt:=by rw [hn];exact h.nt
 st n k e:=h.st n k (by rw [← hb];exact e)
 inj n n' k k' b h1 h2:=h.inj n n' k k' b (by rw [← hb];exact h1) (by rw [← hb];exact h2)
 lim:=h.lim
 dis:=h.dis
 df:=h.df
 pin:=h.pin
 gl:=h.gl
theorem BL (a:Act) (d t:Nat) (v:Value) (hd:d<a.tmps.size):(a.put (some d) v).tmps.getD t undef=if d=t then v else a.tmps.getD t undef:=by
 simp only [Act.put,Array.getD_eq_getD_getElem?,Array.getElem?_setIfInBounds]
 by_cases e:d=t
 ·subst e;simp [hd]
 ·simp [e]
theorem eX {dst:Option Nat} {v:V} {x:Value} {nx:Nat} (h:Rel N M A φ s a w) (hv:Rep (fun b=>M b∨N b) A φ w v x) (hd:∀ d,dst=some d→d<s.nt):Rel N M A φ (s.eff dst v [] nx) (a.put dst x) w:=by
 cases dst with
 | none=>exact h.as (fun _=>rfl) (fun _=>rfl) rfl
 | some d =>
  have hlt:d<a.tmps.size:=by rw [h.nt];exact hd d rfl
  refine ⟨fun t u ht=>?_,by simp [Act.put,h.nt,S.eff],h.st,h.inj,h.lim,h.dis,h.df,h.pin,h.gl⟩
  rw [BL a d t x hlt]
  change lk ((d,v)::s.tm) t=some u at ht
  rw [bW] at ht
  split at ht
  ·rename_i e;subst e;cases ht;rw [if_pos rfl];exact ⟨hd d rfl,hv⟩
  ·rename_i e;rw [if_neg e];exact h.tm t u ht
theorem Fj {o:Oper} {a:Act} {w1:World} {K:Act→World→Prop} {w w':World} {M M':Nat→Prop} (hs:bF M w w') (hM:∀ b,b<w.heap.size→M' b→M b) (h:o.wp P a w1 K (Post N Q M' w')):o.wp P a w1 K (Post N Q M w):=by
 unfold Oper.wp at *
 revert h
 generalize (execOp a.eval o).run P w1=q
 intro h
 cases q with
 | ok n w' =>
  cases n<;>simp only [Oper.upon] at h ⊢ <;>
   first
    | exact h
    | exact Calls.mono h (fun e w'' he=>by
     cases e with
     | returned v=>exact he
     | panicked c=>exact Post.after hs hM he
     | outgrown=>obtain ⟨a3,w3,he⟩:=he;exact ⟨a3,w3,Post.after hs hM he⟩)
 | halt x w'=>cases x<;>simp only [Oper.upon] at h ⊢ <;> first|exact h|exact Post.after hs hM h
theorem tY {w w':World} {M M':Nat→Prop} (hs:bF M w w') (hM:∀ b,b<w.heap.size→M' b→M b):∀ {r:List Oper} {a:Act} {w2:World},wpList P l.toArray (Post N Q M' w') r a w2→wpList P l.toArray (Post N Q M w) r a w2
 | [],_,_,h=>Post.after hs hM h
 | p::r,a,w2,h=>by
  unfold wpList at h ⊢
  split
  ·rename_i hw
   rw [if_pos hw] at h
   rcases h with h|⟨h,a3,w3,h3⟩
   ·exact .inl (Fj hs hM (Oper.wp_mono (fun _ _ h=>tY hs hM h) h))
   ·exact .inr ⟨h,a3,w3,Post.after hs hM h3⟩
  ·rename_i hw
   rw [if_neg hw] at h
   exact tY hs hM h
theorem RN {r:List Oper} (h:ay P N l (fun s _=>Q .normal s) r s tr):∀ M φ a w,Rel N M (· < s.nx) φ s a w→wpList P l.toArray (Post N Q M w) r a w:=by
 induction h with
 | nil h=>exact fun M φ a w hr=>⟨M,φ,_,.refl _ w,fun _ _ h=>h,hr,h⟩
 | @on o r s tr fp v up new nx hg hl hh hn hd _ ih =>
  intro M φ a w hr
  refine wpList_step fun K hK=>?_
  rw [if_pos (dX hg hr)]
  refine Hf (Oper.wp_mono (fun a' w' ⟨M',φ',h1,h2,h3⟩=>hK a' w' ?_) (hl s M _ φ a w hh hr (fun n h9 h8=>Nat.lt_irrefl _ (Nat.lt_of_lt_of_le h8 (hn.2 n h9).1)) hd))
  have h4:Rel N M' (· < nx) φ' (s.eff o.dst v up nx) a' w':=(h3.wider (A':=(· < nx)) fun n h=>h.elim (fun h=>Nat.lt_of_lt_of_le h hn.1) fun h=>(hn.2 n h).2).as (fun _=>rfl) (fun _=>rfl) rfl
  have:=ih M' φ' a' w' h4
  exact tY h1 h2 this
 | @off o r s tr hg hd _ ih =>
  intro M φ a w hr
  refine wpList_step fun K hK=>?_
  rw [if_neg (by rw [dX hg hr];decide)]
  exact hK _ _ (ih M φ _ w (eX hr (.fz .und) hd))
theorem eP (h:ay P N l (fun s _=>Q .normal s) l s []):AWp P N (.region id l.toArray false) Q s:=fun M φ a w hr=>wp_region_lit (RN h M φ a w hr)
structure It where
 on:Bool
 fp:Fp
 v:V
 up:List (Nat × Option Blk)
 new:List Nat
 nx:Nat
instance:Inhabited It:=⟨⟨false,⟨[],[]⟩,.und,[],[],0⟩⟩
def It.eff (o:Oper) (it:It) (s:S):S:=s.eff o.dst it.v it.up it.nx
def aX (L:Nat→Bool):List Oper→List It→Nat→S→S
 | o::r,it::q,k,s=>aX L r q (k+1) (bif L k then it.eff o s else s)
 | _,_,_,s=>s
theorem bK (L:Nat→Bool) (o:Oper) (r:List Oper) (it:It) (q:List It) (k:Nat) (s:S):aX L (o::r) (it::q) k s=aX L r q (k+1) (bif L k then it.eff o s else s):=by rw [aX]
def uT (l:List Oper):List Oper→List It→List Tr
 | o::r,it::q=>aH l o it.fp it.up::uT l r q
 | _,_=>[]
theorem Cu (o:Oper) (it:It) (s:S) (t:Nat):lk (it.eff o s).tm t=if o.dst=some t then some it.v else lk s.tm t:=by
 unfold It.eff S.eff
 cases h:o.dst with
 | none=>simp
 | some d=>simp only [bW,Option.some.injEq]
theorem Mg (a b:List (Nat × β)) (n:Nat):lk (a++b) n=(lk a n).or (lk b n):=by
 induction a with
 | nil=>rfl
 | cons p r ih =>
  obtain ⟨k,v⟩:=p
  rw [List.cons_append,bW,bW]
  split
  ·rfl
  ·exact ih
theorem OI {l:List (Nat × β)} (h:(l.map (·.1)).contains n=false):lk l n=none:=by
 cases hl:lk l n with
 | none=>rfl
 | some v =>
  have:n∈l.map (·.1):=List.mem_map.2 ⟨_,yZ hl,rfl⟩
  rw [List.contains_iff_mem.2 this] at h
  cases h
theorem ZH {l:List (Nat × β)} (h:(l.map (·.1)).contains n=true):∃ v,lk l n=some v:=by
 induction l with
 | nil=>cases h
 | cons p r ih =>
  obtain ⟨k,v⟩:=p
  rw [bW]
  split
  ·exact ⟨_,rfl⟩
  ·rename_i e
   refine ih ?_
   simp only [List.map_cons,List.contains_cons,Bool.or_eq_true,beq_iff_eq] at h
   exact h.resolve_left (Ne.symm e)
def upd (o:Option (Option Blk)) (b:Option Blk):Option Blk:=match o with
 | some x=>x
 | none=>b
theorem nL (o:Oper) (it:It) (s:S) (n:Nat):(it.eff o s).blk n=upd (lk it.up n) (s.blk n):=by
 unfold It.eff S.eff S.blk upd
 simp only [Mg]
 cases lk it.up n<;>simp
theorem w9 {L L':Nat→Bool} {t:Nat}:∀ (ops:List Oper) (its:List It) (k:Nat) (s s':S),(∀ (i:Nat) o,ops[i]? = some o→o.dst=some t→L (k+i)=L' (k+i))→lk s.tm t=lk s'.tm t→lk (aX L ops its k s).tm t=lk (aX L' ops its k s').tm t
 | [],_,_,_,_,_,h=>by simpa [aX] using h
 | _::_,[],_,_,_,_,h=>by simpa [aX] using h
 | o::r,it::q,k,s,s',hL,h=>by
  simp only [bK]
  refine w9 r q (k+1) _ _ (fun i p hp hd=>?_) ?_
  ·have:=hL (i+1) p (by simpa using hp) hd
   rw [show k+1+i=k+(i+1) from by omega];exact this
  ·by_cases hd:o.dst=some t
   ·have h0:=hL 0 o rfl hd
    rw [Nat.add_zero] at h0
    rw [← h0]
    cases L k with
    | true=>rw [cond_true,cond_true,Cu,Cu,if_pos hd,if_pos hd]
    | false=>exact h
   ·cases L k<;>cases L' k<;>simp only [cond_true,cond_false,Cu,if_neg hd]<;>exact h
theorem qV {L L':Nat→Bool} {n:Nat}:∀ (ops:List Oper) (its:List It) (k:Nat) (s s':S),(∀ (i:Nat) it,its[i]? = some it→(it.up.map (·.1)).contains n=true→L (k+i)=L' (k+i))→s.blk n=s'.blk n→(aX L ops its k s).blk n=(aX L' ops its k s').blk n
 | [],_,_,_,_,_,h=>by simpa [aX] using h
 | _::_,[],_,_,_,_,h=>by simpa [aX] using h
 | o::r,it::q,k,s,s',hL,h=>by
  simp only [bK]
  refine qV r q (k+1) _ _ (fun i p hp hd=>?_) ?_
  ·have:=hL (i+1) p (by simpa using hp) hd
   rw [show k+1+i=k+(i+1) from by omega];exact this
  ·cases hd:(it.up.map (·.1)).contains n with
   | true =>
    have h0:=hL 0 it rfl hd
    rw [Nat.add_zero] at h0
    rw [← h0]
    cases L k with
    | true=>rw [cond_true,cond_true,nL,nL,h]
    | false=>exact h
   | false =>
    have e:=OI hd
    cases L k<;>cases L' k<;>simp only [cond_true,cond_false,nL,e,upd]<;>exact h
theorem Bl {L:Nat→Bool}:∀ (ops:List Oper) (its:List It) (k:Nat) (s:S),(aX L ops its k s).nt=s.nt
 | [],_,_,_=>by simp [aX]
 | _::_,[],_,_=>by simp [aX]
 | o::r,it::q,k,s=>by
  simp only [bK]
  rw [Bl r q]
  cases L k<;>rfl
theorem P5 {L:Nat→Bool} {t:Nat}:∀ (ops:List Oper) (its:List It) (k i:Nat) (s:S) (o:Oper) (it:It),ops[i]? = some o→its[i]? = some it→o.dst=some t→L (k+i)=true→(∀ (j:Nat) p,i<j→ops[j]? = some p→p.dst=some t→L (k+j)=false)→lk (aX L ops its k s).tm t=some it.v
 | [],_,_,_,_,_,_,h,_,_,_,_=>by simp at h
 | _::_,[],_,_,_,_,_,_,h,_,_,_=>by simp at h
 | p::r,jt::q,k,0,s,o,it,ho,hi,hd,hl,hj=>by
  simp at ho hi
  subst ho hi
  simp only [bK]
  rw [Nat.add_zero] at hl
  rw [hl,cond_true]
  have:=w9 (L:=L) (L':=fun _=>false) (t:=t) r q (k+1) (jt.eff p s) (jt.eff p s) (fun i o ho hd=>by
   rw [show k+1+i=k+(i+1) from by omega];exact hj (i+1) o (by omega) (by simpa using ho) hd) rfl
  rw [this]
  clear this
  have hf:∀ (ops:List Oper) (its:List It) (k:Nat) (s:S),aX (fun _=>false) ops its k s=s:=fun ops=>by
   induction ops with
   | nil=>intro its k s;simp [aX]
   | cons o r ih=>intro its k s;cases its with
    | nil=>simp [aX]
    | cons=>simp only [bK];rw [cond_false];exact ih _ _ _
  rw [hf,Cu,if_pos hd]
 | p::r,jt::q,k,i+1,s,o,it,ho,hi,hd,hl,hj=>by
  simp only [bK]
  refine P5 r q (k+1) i _ o it (by simpa using ho) (by simpa using hi) hd (by rw [show k+1+i=k+(i+1) from by omega];exact hl) (fun j p hlt hp hpd=>?_)
  rw [show k+1+j=k+(j+1) from by omega]
  exact hj (j+1) p (by omega) (by simpa using hp) hpd
theorem oJ:∀ (ops:List Oper) (its:List It) (k:Nat) (s:S),aX (fun _=>false) ops its k s=s
 | [],_,_,_=>by simp [aX]
 | _::_,[],_,_=>by simp [aX]
 | o::r,it::q,k,s=>by simp only [bK];rw [cond_false];exact oJ r q _ _
theorem Ka {L:Nat→Bool} {n:Nat}:∀ (ops:List Oper) (its:List It) (k i:Nat) (s:S) (o:Oper) (it:It),ops[i]? = some o→its[i]? = some it→L (k+i)=true→(∀ (j:Nat) p,i<j→its[j]? = some p→(p.up.map (·.1)).contains n=true→L (k+j)=false) →
  (aX L ops its k s).blk n=(it.eff o (aX (fun j=>L j&&Nat.blt j (k+i)) ops its k s)).blk n
 | [],_,_,_,_,_,_,h,_,_,_=>by simp at h
 | _::_,[],_,_,_,_,_,_,h,_,_=>by simp at h
 | p::r,jt::q,k,0,s,o,it,ho,hi,hl,hj=>by
  simp at ho hi
  subst ho hi
  simp only [bK]
  rw [Nat.add_zero] at hl ⊢
  rw [hl,cond_true]
  have:=qV (L:=L) (L':=fun _=>false) (n:=n) r q (k+1) (jt.eff p s) (jt.eff p s) (fun i o ho hd=>by
   rw [show k+1+i=k+(i+1) from by omega];exact hj (i+1) o (by omega) (by simpa using ho) hd) rfl
  rw [this,oJ]
  have e:(true&&Nat.blt k (k+0))=false:=by
   cases h:(true&&Nat.blt k (k+0)) with
   | false=>rfl
   | true=>simp at h
  rw [e,cond_false]
  rw [Nat.add_zero]
  have:=qV (L:=fun j=>L j&&Nat.blt j k) (L':=fun _=>false) (n:=n) r q (k+1) s s (fun i o _ _=>by
   cases h:(L (k+1+i)&&Nat.blt (k+1+i) k) with
   | false=>rfl
   | true=>simp at h;omega) rfl
  rw [nL,nL,this,oJ]
 | p::r,jt::q,k,i+1,s,o,it,ho,hi,hl,hj=>by
  simp only [bK]
  have:=Ka (L:=L) (n:=n) r q (k+1) i (bif L k then jt.eff p s else s) o it (by simpa using ho) (by simpa using hi) (by rw [show k+1+i=k+(i+1) from by omega];exact hl) (fun j p hlt hp hpd=>by
   rw [show k+1+j=k+(j+1) from by omega]
   exact hj (j+1) p (by omega) (by simpa using hp) hpd)
  rw [this,show k+1+i=k+(i+1) from by omega]
  have e:(L k&&Nat.blt k (k+(i+1)))=L k:=by simp
  rw [e]
theorem qg {w w':World} {M M':Nat→Prop} (hs:bF M w w') (hM:∀ b,b<w.heap.size→M' b→M b):∀ (n:Nat) (listed:Array Bool) (a:Act) (w2:World),wpAny P .any l.toArray (Post N Q M' w') n listed a w2→wpAny P .any l.toArray (Post N Q M w) n listed a w2
 | 0,_,_,_,h=>⟨h.1,Post.after hs hM h.2⟩
 | n+1,listed,a,w2,h=>by
  refine ⟨fun h0=>Post.after hs hM (h.1 h0),fun i hi=>?_⟩
  have:=h.2 i hi
  unfold wpOp at this ⊢
  split at this
  ·exact qg hs hM _ _ _ _ this
  ·rename_i o ho
   split at this
   ·rename_i hw
    rw [if_pos hw]
    rcases this with h2|⟨h2,a3,w3,h3⟩
    ·exact .inl (Fj hs hM (Oper.wp_mono (fun _ _ h=>qg hs hM _ _ _ _ h) h2))
    ·exact .inr ⟨h2,a3,w3,Post.after hs hM h3⟩
   ·rename_i hw
    rw [if_neg hw]
    exact qg hs hM _ _ _ _ this
theorem qD {L:Nat→Bool}:∀ (ops:List Oper) (its:List It) (k:Nat) (s:S),aX L ops its (k+1) s=aX (fun j=>L (j+1)) ops its k s
 | [],_,_,_=>by simp [aX]
 | _::_,[],_,_=>by simp [aX]
 | o::r,it::q,k,s=>by simp only [bK];exact qD r q _ _
theorem zm:∀ (ops:List Oper) (its:List It) (k i:Nat) (s:S) (o:Oper) (it:It),ops[i]? = some o→its[i]? = some it→aX (fun j=>Nat.blt j (k+(i+1))) ops its k s=it.eff o (aX (fun j=>Nat.blt j (k+i)) ops its k s)
 | [],_,_,_,_,_,_,h,_=>by simp at h
 | _::_,[],_,_,_,_,_,_,h=>by simp at h
 | p::r,jt::q,k,0,s,o,it,ho,hi=>by
  simp at ho hi
  subst ho hi
  simp only [bK]
  have e1:Nat.blt k (k+(0+1))=true:=by simp
  have e2:Nat.blt k (k+0)=false:=by
   cases h:Nat.blt k (k+0) with
   | false=>rfl
   | true=>simp at h
  have off:∀ (ops:List Oper) (its:List It) (m:Nat) (s:S) (b:Nat),b≤m→aX (fun j=>Nat.blt j b) ops its m s=s:=fun ops=>by
   induction ops with
   | nil=>intros;simp [aX]
   | cons o r ih =>
    intro its m s b hb
    cases its with
    | nil=>simp [aX]
    | cons =>
     simp only [bK]
     have:Nat.blt m b=false:=by
      cases h:Nat.blt m b with
      | false=>rfl
      | true=>simp at h;omega
     rw [this,cond_false]
     exact ih _ _ _ _ (by omega)
  rw [e1,e2,cond_true,cond_false,off _ _ _ _ _ (by omega),off _ _ _ _ _ (by omega)]
 | p::r,jt::q,k,i+1,s,o,it,ho,hi=>by
  simp only [bK]
  have e1:Nat.blt k (k+(i+1+1))=true:=by simp
  have e2:Nat.blt k (k+(i+1))=true:=by simp
  simp only [e1,e2,cond_true]
  have:=zm r q (k+1) i (jt.eff p s) o it (by simpa using ho) (by simpa using hi)
  rw [show k+1+(i+1)=k+(i+1+1) from by omega,show k+1+i=k+(i+1) from by omega] at this
  exact this
def Good (P:Program) (N:Env) (l:List Oper) (o:Oper) (it:It) (s:S):Prop :=
 ((it.on=true∧ax l o s=some true∧aC P N o it.fp it.v it.up it.new∧Holds it.fp s)∨(it.on=false∧ax l o s=some false∧it.fp=⟨[],[]⟩∧it.v = .und∧it.up=[]∧it.new=[])) ∧
  s.nx≤it.nx∧(∀ n∈it.new,s.nx≤n∧n<it.nx)∧∀ d,o.dst=some d→d<s.nt
theorem Oj {K:S→List Tr→Prop} {r:List Oper} {s:S} (h:ay P N l K r s tr):∃ its:List It,its.length=r.length∧(∀ (i:Nat) o it,r[i]? = some o→its[i]? = some it→Good P N l o it (aX (fun j=>Nat.blt j i) r its 0 s))∧K (aX (fun _=>true) r its 0 s) (tr++uT l r its):=by
 have zero:∀ (r:List Oper) (its:List It) (s:S),aX (fun j=>Nat.blt j 0) r its 0 s=s:=fun r its s=>by
  have:(fun j=>Nat.blt j 0)=fun _=>false:=funext fun j=>by
   cases h:Nat.blt j 0 with
   | false=>rfl
   | true=>simp at h
  rw [this,oJ]
 have cons:∀ (o:Oper) (it:It) (r:List Oper) (its:List It) (s:S) (i:Nat),aX (fun j=>Nat.blt j (i+1)) (o::r) (it::its) 0 s=aX (fun j=>Nat.blt j i) r its 0 (it.eff o s):=fun o it r its s i=>by
  simp only [bK]
  have e1:Nat.blt 0 (i+1)=true:=by simp
  simp only [e1,cond_true,qD]
  congr 1
 induction h with
 | nil h=>exact ⟨[],rfl,fun i o it h=>by simp at h,by simpa [aX,uT] using h⟩
 | @on o r s tr fp v up new nx hg hl hh hn hd _ ih =>
  obtain ⟨its,h1,h2,h3⟩:=ih
  refine ⟨⟨true,fp,v,up,new,nx⟩::its,by simp [h1],fun i p it hp hi=>?_,?_⟩
  ·cases i with
   | zero =>
    simp at hp hi
    subst hp hi
    rw [zero]
    exact ⟨.inl ⟨rfl,hg,hl,hh⟩,hn.1,hn.2,hd⟩
   | succ i =>
    rw [cons]
    exact h2 i p it (by simpa using hp) (by simpa using hi)
  ·simp only [bK]
   simp only [cond_true,qD]
   simpa [uT,It.eff] using h3
 | @off o r s tr hg hd _ ih =>
  obtain ⟨its,h1,h2,h3⟩:=ih
  refine ⟨⟨false,⟨[],[]⟩,.und,[],[],s.nx⟩::its,by simp [h1],fun i p it hp hi=>?_,?_⟩
  ·cases i with
   | zero =>
    simp at hp hi
    subst hp hi
    rw [zero]
    exact ⟨.inr ⟨rfl,hg,rfl,rfl,rfl,rfl⟩,Nat.le_refl _,fun n hn=>by simp at hn,hd⟩
   | succ i =>
    rw [cons]
    exact h2 i p it (by simpa using hp) (by simpa using hi)
  ·simp only [bK]
   simp only [cond_true,qD]
   simpa [uT,It.eff] using h3
theorem MH:∀ (r:List Oper) (its:List It) (i:Nat) (o:Oper) (it:It),r[i]? = some o→its[i]? = some it→(uT l r its)[i]? = some (aH l o it.fp it.up)
 | [],_,_,_,_,h,_=>by simp at h
 | _::_,[],_,_,_,_,h=>by simp at h
 | p::r,jt::q,0,o,it,ho,hi=>by simp at ho hi;subst ho hi;rfl
 | p::r,jt::q,i+1,o,it,ho,hi=>by
  have:=MH r q i o it (by simpa using ho) (by simpa using hi)
  simpa [uT] using this
theorem G7:∀ (r:List Oper) (its:List It),its.length=r.length→(uT l r its).length=r.length
 | [],[],_=>rfl
 | p::r,jt::q,h=>by simpa [uT] using G7 r q (by simpa using h)
 | [],_::_,h=>by simp at h
 | _::_,[],h=>by simp at h
theorem guard_congr {o:Oper} {s s':S} (h:∀ d,Mc l o=some d→lk s'.tm d=lk s.tm d):ax l o s'=ax l o s:=by
 unfold Mc at h
 unfold ax
 cases hg:o.guard with
 | none=>rfl
 | some p =>
  obtain ⟨j,want⟩:=p
  rw [hg] at h
  simp only at h ⊢
  cases hn:nth l j with
  | none=>rfl
  | some p =>
   rw [hn] at h
   simp only at h ⊢
   cases hd:p.dst with
   | none=>rfl
   | some d=>simp only;rw [h d hd]
theorem KQ {fp:Fp} {s s':S} (h1:∀ t∈fp.ts.filterMap (aao ·.1),lk s'.tm t=lk s.tm t) (h2:∀ n∈fp.ns.map (·.1),s'.blk n=s.blk n) (h:Holds fp s):Holds fp s':=by
 refine ⟨fun p hp=>?_,fun p hp=>?_⟩
 ·have:=h.1 p hp
  obtain ⟨x,v⟩:=p
  cases x with
  | tmp t=>exact (h1 t (List.mem_filterMap.2 ⟨_,hp,rfl⟩)).trans this
  | _=>exact this
 ·exact (h2 p.1 (List.mem_map.2 ⟨p,hp,rfl⟩)).trans (h.2 p hp)
structure Stt (P:Program) (N:Env) (l:List Oper) (its:List It) (s:S) (M0:Nat→Prop) (w0:World) (listed:Array Bool) (a:Act) (w:World):Prop where
 size:listed.size=l.length
 down:∀ (k:Nat) o,l.toArray[k]? = some o→listed.getD k true=true→∀ e∈o.after,Region.binds .any e=true→listed.getD e.on false=true
 rel:∃ M φ,bF M0 w0 w∧(∀ b,b<w0.heap.size→M b→M0 b)∧Rel N M (fun n=>n<s.nx∨∃ (i:Nat) (it:It),listed.getD i false=true∧its[i]? = some it∧n∈it.new) φ (aX (fun k=>listed.getD k false) l its 0 s) a w
theorem Qs {its:List It} {M0:Nat→Prop} {w0:World} (hlen:its.length=l.length) (hgood:∀ (i:Nat) o it,l[i]? = some o→its[i]? = some it→Good P N l o it (aX (fun j=>Nat.blt j i) l its 0 s))
  (hc:check l (uT l l its)=true) (hQ:Q .normal (aX (fun _=>true) l its 0 s)) :
  ∀ (n:Nat) (listed:Array Bool) (a:Act) (w:World),(∀ k,(List.range l.length).countP (fun j => !listed.getD j true)=k→k≤n)→Stt P N l its s M0 w0 listed a w→wpAny P .any l.toArray (Post N Q M0 w0) n listed a w:=by
 unfold check at hc
 rw [Bool.and_eq_true] at hc
 obtain ⟨hD,hchk⟩:=hc
 have nxs:∀ i j,i≤j→j≤l.length→(aX (fun k=>Nat.blt k i) l its 0 s).nx≤(aX (fun k=>Nat.blt k j) l its 0 s).nx:=fun i j hij=>by
  induction j with
  | zero => intro _; obtain rfl : i = 0 := by omega
            exact Nat.le_refl _
  | succ j ih =>
   intro hj
   by_cases e:i=j+1
   ·rw [e];exact Nat.le_refl _
   ·have h1:=ih (by omega) (by omega)
    have hol:l[j]? = some l[j]:=by simp [show j<l.length by omega]
    have hil:its[j]? = some its[j]:=by simp [show j<its.length by omega]
    have h2:=zm l its 0 j s _ _ hol hil
    rw [Nat.zero_add,Nat.zero_add] at h2
    rw [h2]
    exact Nat.le_trans h1 (hgood j _ _ hol hil).2.1
 have nx0:(aX (fun k=>Nat.blt k 0) l its 0 s)=s:=by
  have:(fun j=>Nat.blt j 0)=fun _=>false:=funext fun j=>by
   cases h:Nat.blt j 0 with
   | false=>rfl
   | true=>simp at h
  rw [this,oJ]
 have hnew:∀ (i:Nat) it,its[i]? = some it→∀ n∈it.new,(aX (fun k=>Nat.blt k i) l its 0 s).nx≤n∧n<(aX (fun k=>Nat.blt k (i+1)) l its 0 s).nx:=fun i it hi n hn=>by
  have hil:i<l.length:=by rw [← hlen];exact (List.getElem?_eq_some_iff.1 hi).1
  have hol:l[i]? = some l[i]:=by simp [hil]
  have h2:=zm l its 0 i s _ _ hol hi
  rw [Nat.zero_add,Nat.zero_add] at h2
  have h3:=(hgood i _ _ hol hi).2.2.1 n hn
  rw [h2];exact h3
 have fin:∀ (listed:Array Bool) (a:Act) (w:World),Stt P N l its s M0 w0 listed a w→Region.ready .any l.toArray listed=[]→Post N Q M0 w0 .normal a w:=fun listed a w T hr=>by
  have all:∀ i,i<l.length→listed.getD i true=true:=by
   intro i
   induction i using Nat.strongRecOn with
   | _ i ih =>
    intro hi
    cases hl:listed.getD i true with
    | true=>rfl
    | false =>
     have hia:i<l.toArray.size:=by simpa using hi
     have:i∈Region.ready .any l.toArray listed:=mem_ready.2 ⟨hl,l[i],by simp [hi],fun e he hb=>by
      have h1:=List.all_eq_true.1 (Bool.and_eq_true _ _ ▸ hD:_∧_).2 i (List.mem_range.2 hia)
      rw [Bool.and_eq_true] at h1
      have hlt:e.on<i:=by
       have:e.on∈after l.toArray i:=by
        unfold after
        rw [Array.getElem?_eq_getElem hia]
        exact List.mem_map.2 ⟨e,List.mem_filter.2 ⟨by simpa using he,hb⟩,rfl⟩
       simpa using List.all_eq_true.1 h1.1 _ this
      have:=ih e.on hlt (by omega)
      have hsz:=T.size
      have hes:e.on<listed.size:=by omega
      simp [hes] at this ⊢
      exact this⟩
     rw [hr] at this
     cases this
  obtain ⟨M,φ,h1,h2,h3⟩:=T.rel
  have e:aX (fun k=>listed.getD k false) l its 0 s=aX (fun _=>true) l its 0 s:=by
   have H:∀ (ops:List Oper) (its:List It) (k:Nat) (s:S),(∀ j,k≤j→j<k+ops.length→listed.getD j false=true)→aX (fun k=>listed.getD k false) ops its k s=aX (fun _=>true) ops its k s:=fun ops=>by
    induction ops with
    | nil=>intros;simp [aX]
    | cons o r ih =>
     intro its k s h
     cases its with
     | nil=>simp [aX]
     | cons it q =>
      simp only [bK]
      rw [h k (Nat.le_refl _) (by simp)]
      simp only [cond_true]
      exact ih _ _ _ (fun j h1 h2=>h j (by omega) (by simp;omega))
   refine H l its 0 s fun j _ hj=>?_
   have:=all j (by omega)
   have hsz:=T.size
   have hes:j<listed.size:=by omega
   simp [hes] at this ⊢
   exact this
  rw [e] at h3
  refine ⟨M,φ,_,h1,h2,h3.wider fun n hn=>?_,hQ⟩
  have hend:(aX (fun _=>true) l its 0 s).nx=(aX (fun k=>Nat.blt k l.length) l its 0 s).nx:=by
   have H:∀ (ops:List Oper) (its:List It) (k:Nat) (s:S) (L L':Nat→Bool),(∀ j,k≤j→j<k+ops.length→L j=L' j)→aX L ops its k s=aX L' ops its k s:=fun ops=>by
    induction ops with
    | nil=>intros;simp [aX]
    | cons o r ih =>
     intro its k s L L' h
     cases its with
     | nil=>simp [aX]
     | cons it q =>
      simp only [bK]
      rw [h k (Nat.le_refl _) (by simp)]
      exact ih _ _ _ _ _ (fun j h1 h2=>h j (by omega) (by simp;omega))
   rw [H l its 0 s _ _ fun j _ hj=>?_]
   simp at hj
   simp [hj]
  rw [hend]
  rcases hn with hn|⟨i,it,_,hi,hn⟩
  ·have:=nxs 0 l.length (Nat.zero_le _) (Nat.le_refl _)
   rw [nx0] at this
   exact Nat.lt_of_lt_of_le hn this
  ·have hil:i<l.length:=by rw [← hlen];exact (List.getElem?_eq_some_iff.1 hi).1
   exact Nat.lt_of_lt_of_le (hnew i it hi n hn).2 (nxs (i+1) l.length hil (Nat.le_refl _))
 intro n
 induction n with
 | zero =>
  intro listed a w hc T
  have h0:=hc _ rfl
  have hr:Region.ready .any l.toArray listed=[]:=by
   rw [List.eq_nil_iff_forall_not_mem]
   intro i hi
   obtain ⟨hl,o,ho,_⟩:=mem_ready.1 hi
   have hlt:i<l.length:=by simpa using (Array.getElem?_eq_some_iff.1 ho).1
   have:0<(List.range l.length).countP (fun j => !listed.getD j true):=List.countP_pos_iff.2 ⟨i,List.mem_range.2 hlt,by simp [hl]⟩
   omega
  exact ⟨hr,fin listed a w T hr⟩
 | succ n ih =>
  intro listed a w hc T
  refine ⟨fin listed a w T,fun i hi=>?_⟩
  obtain ⟨hl,o,ho,hall⟩:=mem_ready.1 hi
  have hlt:i<l.length:=by simpa using (Array.getElem?_eq_some_iff.1 ho).1
  have hlta:i<l.toArray.size:=by simpa using hlt
  have hls:i<listed.size:=by have:=T.size;omega
  have hLi:listed.getD i false=false:=by simp [hls] at hl ⊢;exact hl
  have hol:l[i]? = some o:=by simpa using ho
  have hil:its[i]? = some its[i]:=by simp [show i<its.length by omega]
  obtain ⟨M,φ,h1,h2,h3⟩:=T.rel
  have gd:∀ j,j<l.length→listed.getD j true=true→listed.getD j false=true:=fun j hj h=>by
   have hes:j<listed.size:=by have:=T.size;omega
   simp [hes] at h ⊢;exact h
  have dg:∀ j,listed.getD j false=true→listed.getD j true=true:=fun j h=>by
   by_cases hes:j<listed.size
   ·simp [hes] at h ⊢;exact h
   ·simp [hes] at h
  have hdl:=rY hD (by rw [T.size];simp) T.down (i+1) i (by omega) hlta (fun o' ho'=>by rw [ho] at ho';cases ho';exact hall)
  have hdj:∀ j k,j<l.length→listed.getD j false=true→k∈(deps l.toArray).getD j []→listed.getD k false=true:=fun j k hj hjl hk=>by
   have:=rY hD (by rw [T.size];simp) T.down (j+1) j (by omega) (by simpa using hj) (fun o' ho' e he hb=>T.down j o' ho' (dg j hjl) e he hb) k hk
   exact gd k (by omega) this.2
  have hord:∀ k,k<l.length→k≠i→clash (aH l l[k]! its[k]!.fp its[k]!.up) (aH l o its[i].fp its[i].up)=true→listed.getD k false=Nat.blt k i:=fun k hk hki hcl=>by
   have h4:=List.all_eq_true.1 (List.all_eq_true.1 hchk i (List.mem_range.2 (by rw [G7 l its hlen];exact hlt))) k (List.mem_range.2 (by rw [G7 l its hlen];exact hk))
   rw [MH l its k l[k]! its[k]! (by simp [hk]) (by simp [show k<its.length by omega]),MH l its i o its[i] hol hil] at h4
   simp only [hcl,Bool.not_true,Bool.or_false,Bool.or_eq_true,beq_iff_eq,hki,false_or] at h4
   by_cases hlt2:k<i
   ·rw [if_pos hlt2] at h4
    have:k∈(deps l.toArray).getD i []:=by simpa using h4
    rw [gd k hk (hdl k this).2]
    simp [hlt2]
   ·rw [if_neg hlt2] at h4
    have:i∈(deps l.toArray).getD k []:=by simpa using h4
    have e:Nat.blt k i=false:=by
     cases h:Nat.blt k i with
     | false=>rfl
     | true=>simp at h;omega
    rw [e]
    cases hk2:listed.getD k false with
    | false=>rfl
    | true =>
     have:=hdj k i hk hk2 this
     rw [hLi] at this;cases this
  have hii:Nat.blt i i=false:=by
   cases h:Nat.blt i i with
   | false=>rfl
   | true=>simp at h
  have tmp_at:∀ t,((aH l o its[i].fp its[i].up).tt.contains t||(aH l o its[i].fp its[i].up).wt==some t)=true→∀ (k:Nat) p,l[k]? = some p→p.dst=some t→listed.getD k false=Nat.blt k i:=fun t ht k p hp hd=>by
   have hk:k<l.length:=(List.getElem?_eq_some_iff.1 hp).1
   by_cases hki:k=i
   ·subst hki;rw [hLi,hii]
   ·refine hord k hk hki ?_
    have e:l[k]! = p:=by simp [hk];exact (List.getElem?_eq_some_iff.1 hp).2
    unfold clash
    rw [e]
    have:(aH l p its[k]!.fp its[k]!.up).wt=some t:=hd
    rw [this]
    simp only [Bool.or_eq_true] at ht ⊢
    exact .inl ht
  have blk_at:∀ m,((aH l o its[i].fp its[i].up).nn.contains m||(aH l o its[i].fp its[i].up).wn.contains m)=true→∀ (k:Nat) it,its[k]? = some it→(it.up.map (·.1)).contains m=true→listed.getD k false=Nat.blt k i:=fun m hm k it hit hd=>by
   have hk:k<its.length:=(List.getElem?_eq_some_iff.1 hit).1
   by_cases hki:k=i
   ·subst hki;rw [hLi,hii]
   ·refine hord k (by omega) hki ?_
    have e:its[k]! = it:=by simp [hk];exact (List.getElem?_eq_some_iff.1 hit).2
    unfold clash
    rw [e,Bool.or_eq_true]
    refine .inr (List.any_eq_true.2 ⟨m,by simpa [aH] using hd,hm⟩)
  obtain ⟨hg1,hg2,hg3,hg4⟩:=hgood i o its[i] hol hil
  have hgv:ax l o (aX (fun k=>listed.getD k false) l its 0 s)=ax l o (aX (fun j=>Nat.blt j i) l its 0 s):=guard_congr fun d hd=>by
   refine w9 l its 0 s s (fun k p hp hpd=>?_) rfl
   rw [Nat.zero_add]
   exact tmp_at d (by unfold aH;rw [hd];simp) k p hp hpd
  have hcount:∀ k,(List.range l.length).countP (fun j => !(listed.setIfInBounds i true).getD j true)=k→k≤n:=by
   rintro k rfl
   have h0:=hc _ rfl
   have hlt2:(List.range l.length).countP (fun j => !(listed.setIfInBounds i true).getD j true)<(List.range l.length).countP (fun j => !listed.getD j true):=by
    have hp:=List.countP_eq_countP_filter_add (List.range l.length) (fun j => !listed.getD j true) (fun j=>j==i)
    have hq:=List.countP_eq_countP_filter_add (List.range l.length) (fun j => !(listed.setIfInBounds i true).getD j true) (fun j=>j==i)
    have e1:((List.range l.length).filter fun j => !(j==i)).countP (fun j => !(listed.setIfInBounds i true).getD j true)=((List.range l.length).filter fun j => !(j==i)).countP (fun j => !listed.getD j true):=by
     refine List.countP_congr fun j hj=>?_
     rw [List.mem_filter] at hj
     rw [Cj hls,if_neg (by simpa using hj.2)]
    have e2:((List.range l.length).filter fun j=>j==i).countP (fun j => !(listed.setIfInBounds i true).getD j true)=0:=by
     rw [List.countP_eq_zero]
     intro j hj
     rw [List.mem_filter] at hj
     rw [Cj hls,if_pos (by simpa using hj.2)]
     simp
    have e3:0<((List.range l.length).filter fun j=>j==i).countP (fun j => !listed.getD j true):=List.countP_pos_iff.2 ⟨i,List.mem_filter.2 ⟨List.mem_range.2 hlt,by simp⟩,by simp [hl]⟩
    omega
   omega
  have hdown:∀ (k:Nat) o',l.toArray[k]? = some o'→(listed.setIfInBounds i true).getD k true=true→∀ e∈o'.after,Region.binds .any e=true→(listed.setIfInBounds i true).getD e.on false=true:=fun k o' ho' hk e he hb=>by
   rw [Cj hls] at hk
   rw [Gs hls]
   split
   ·rfl
   ·by_cases hki:k=i
    ·subst hki
     rw [ho] at ho'
     cases ho'
     exact hall e he hb
    ·rw [if_neg hki] at hk
     exact T.down k o' ho' hk e he hb
  have hset:∀ k,(listed.setIfInBounds i true).getD k false=if k=i then true else listed.getD k false:=fun k=>Gs hls
  have nxt:∀ (a':Act) (w':World) M' φ',bF M w w'→(∀ b,b<w.heap.size→M' b→M b)→Rel N M' (fun n=>(n<s.nx∨∃ (i:Nat) (it:It),listed.getD i false=true∧its[i]? = some it∧n∈it.new)∨n∈its[i].new) φ' ((aX (fun k=>listed.getD k false) l its 0 s).eff o.dst its[i].v its[i].up (aX (fun k=>listed.getD k false) l its 0 s).nx) a' w' →
    Stt P N l its s M0 w0 (listed.setIfInBounds i true) a' w':=fun a' w' M' φ' k1 k2 k3=>by
   refine ⟨by simp [T.size],hdown,M',φ',h1.trans k1 h2,fun b hb hm=>h2 b hb (k2 b (Nat.lt_of_lt_of_le hb h1.size) hm),?_⟩
   refine Rel.as (s:=(aX (fun k=>listed.getD k false) l its 0 s).eff o.dst its[i].v its[i].up (aX (fun k=>listed.getD k false) l its 0 s).nx) (Rel.wider k3 ?_) (fun t=>?_) (fun m=>?_) ?_
   ·rintro m ((hm|⟨j,jt,hj,hjt,hm⟩)|hm)
    ·exact .inl hm
    ·refine .inr ⟨j,jt,?_,hjt,hm⟩
     rw [hset];split
     ·rfl
     ·exact hj
    ·exact .inr ⟨i,its[i],by rw [hset,if_pos rfl],hil,hm⟩
   ·have e9:=Cu o its[i] (aX (fun k=>listed.getD k false) l its 0 s) t
    change _=lk (its[i].eff o (aX (fun k=>listed.getD k false) l its 0 s)).tm t
    rw [e9]
    split
    ·rename_i hd
     refine P5 l its 0 i s o its[i] hol hil hd (by rw [Nat.zero_add,hset,if_pos rfl]) fun j p hj hp hpd=>?_
     rw [Nat.zero_add,hset,if_neg (by omega),tmp_at t (by simp [aH,hd]) j p hp hpd]
     cases h:Nat.blt j i with
     | false=>rfl
     | true=>simp at h;omega
    ·rename_i hd
     refine w9 l its 0 s s (fun k p hp hpd=>?_) rfl
     rw [Nat.zero_add,hset,if_neg]
     rintro rfl
     rw [hol] at hp;cases hp
     exact hd hpd
   ·change _=(its[i].eff o (aX (fun k=>listed.getD k false) l its 0 s)).blk m
    cases hd:(its[i].up.map (·.1)).contains m with
    | true =>
     rw [Ka l its 0 i s o its[i] hol hil (by rw [Nat.zero_add,hset,if_pos rfl]) fun j p hj hp hpd=>?_]
     ·obtain ⟨x,hx⟩:=ZH hd
      rw [nL,nL,hx];rfl
     ·rw [Nat.zero_add,hset,if_neg (by omega),blk_at m (by simp only [aH,Bool.or_eq_true];exact .inr hd) j p hp hpd]
      cases h:Nat.blt j i with
      | false=>rfl
      | true=>simp at h;omega
    | false =>
     rw [nL,OI hd]
     refine qV l its 0 s s (fun k it hp hpd=>?_) rfl
     rw [Nat.zero_add,hset,if_neg]
     rintro rfl
     rw [hil] at hp;cases hp
     rw [hd] at hpd;cases hpd
   ·rw [Bl]
    show s.nt=(aX _ l its 0 s).nt
    rw [Bl]
  have hfresh:∀ m∈its[i].new,¬ (m<s.nx∨∃ (i:Nat) (it:It),listed.getD i false=true∧its[i]? = some it∧m∈it.new):=by
   rintro m hm (h4|⟨j,jt,hj,hjt,h5⟩)
   ·have h6:=(hnew i _ hil m hm).1
    have h7:=nxs 0 i (Nat.zero_le _) (by omega)
    rw [nx0] at h7
    omega
   ·have hjl:j<its.length:=(List.getElem?_eq_some_iff.1 hjt).1
    have h6:=hnew i _ hil m hm
    have h7:=hnew j _ hjt m h5
    rcases Nat.lt_trichotomy i j with h8|h8|h8
    ·have:=nxs (i+1) j h8 (by omega)
     omega
    ·subst h8;rw [hLi] at hj;cases hj
    ·have:=nxs (j+1) i h8 (by omega)
     omega
  have hnt:∀ d,o.dst=some d→d<(aX (fun k=>listed.getD k false) l its 0 s).nt:=fun d hd=>by
   have:=hg4 d hd
   rw [Bl] at this ⊢
   exact this
  unfold wpOp
  simp only [ho]
  rcases hg1 with ⟨_,hg,hlaw,hh⟩|⟨_,hg,hf1,hf2,hf3,hf4⟩
  ·rw [if_pos (dX (hgv.trans hg) h3)]
   have hh':Holds its[i].fp (aX (fun k=>listed.getD k false) l its 0 s):=KQ (fun t ht=>w9 l its 0 s s (fun k p hp hpd=>by
     rw [Nat.zero_add]
     exact tmp_at t (by unfold aH;simp only [Bool.or_eq_true];exact .inl (by rw [List.contains_iff_mem];exact List.mem_append_right _ ht)) k p hp hpd) rfl)
    (fun m hm=>qV l its 0 s s (fun k p hp hpd=>by
     rw [Nat.zero_add]
     exact blk_at m (by unfold aH;simp only [Bool.or_eq_true];exact .inl (List.contains_iff_mem.2 hm)) k p hp hpd) rfl) hh
   refine .inl (Hf (Oper.wp_mono (fun a' w' ⟨M',φ',k1,k2,k3⟩=>ih _ _ _ hcount (nxt a' w' M' φ' k1 k2 k3)) (hlaw _ M _ φ a w hh' h3 hfresh hnt)))
  ·rw [if_neg (by rw [dX (hgv.trans hg) h3];decide)]
   refine ih _ _ _ hcount (nxt _ _ M φ (.refl _ w) (fun _ _ h=>h) ?_)
   rw [hf2,hf3]
   exact Rel.wider (eX h3 (.fz .und) hnt) fun _ h=>.inl h
theorem iL (hm:P.follows .mixedOrders=true) (h:ay P N l (fun s tr=>check l tr=true∧Q .normal s) l s []):AWp P N (.region id l.toArray true) Q s:=fun M φ a w hr=>by
 obtain ⟨its,h1,h2,h3,h4⟩:=Oj h
 rw [List.nil_append] at h3
 have key:=Qs (M0:=M) (w0:=w.drew) h1 h2 h3 h4 l.length (Array.replicate l.toArray.size false) a w.drew (fun k hk=>by
  rw [← hk]
  exact Nat.le_trans List.countP_le_length (by simp)) ⟨by simp,fun k o ho hl=>by
   exfalso
   have hlt:k<l.length:=by simpa using (Array.getElem?_eq_some_iff.1 ho).1
   simp [hlt] at hl,M,φ,.refl _ _,fun _ _ h=>h,?_⟩
 ·refine wp_region_any hm ?_
  have:=key
  rw [show l.length=l.toArray.size from by simp] at this
  exact qg (bF.drew M w) (fun _ _ h=>h) _ _ _ _ this
 ·have e:(fun k=>(Array.replicate l.toArray.size false).getD k false)=fun _=>false:=funext fun k=>by
   by_cases hk:k<l.length<;>simp [hk]
  rw [e,oJ]
  refine Rel.wider (hr.grow ?_) fun _ h=>.inl h
  exact ⟨rfl,rfl,rfl,Nat.le_refl _,fun _ _=>rfl⟩
end
end Abs
namespace Abs
open Go.RowKit Mem Facts
section
variable {P:Program} {N:Env} {o:Oper}
theorem aD {fp:Fp} {v:V} (h:∀ s M A φ a w,Holds fp s→Rel N M A φ s a w→∃ x,(execOp a.eval o).run P w = .ok (.value x) w∧Rep (fun b=>M b∨N b) A φ w v x):aC P N o fp v [] []:=fun s M A φ a w hh hr _ hd=>by
 obtain ⟨x,h1,h2⟩:=h s M A φ a w hh hr
 unfold Oper.wp
 rw [h1]
 exact ⟨M,φ,.refl _ w,fun _ _ h=>h,(eX hr h2 hd).wider fun _ h=>.inl h⟩
section
variable {s:S} {l:List (Operand × V)} {ns:List (Nat × Blk)} {x y z:Operand} {u v t:V}
theorem Holds.a (h:Holds ⟨(x,u)::l,ns⟩ s):s.ev x=some u:=h.1 (x,u) (by simp)
theorem Holds.b (h:Holds ⟨(x,u)::(y,v)::l,ns⟩ s):s.ev y=some v:=h.1 (y,v) (by simp)
theorem Holds.c (h:Holds ⟨(x,u)::(y,v)::(z,t)::l,ns⟩ s):s.ev z=some t:=h.1 (z,t) (by simp)
theorem Holds.n {n:Nat} {k:Blk} {l:List (Operand × V)} (h:Holds ⟨l,(n,k)::ns⟩ s):s.blk n=some k:=h.2 (n,k) (by simp)
end
variable {vs:List V}
theorem Cr {x:Operand} {v:V} (ho:o.op = .move x):aC P N o ⟨[(x,v)],[]⟩ v [] []:=aD fun s M A φ a w hh hr=>⟨_,by unfold execOp;simp only [ho];rfl,hr.ev hh.a⟩
theorem MZ {x:Operand} {v:V} (ho:o.op = .assign x):aC P N o ⟨[(x,v)],[]⟩ v [] []:=aD fun s M A φ a w hh hr=>⟨_,by unfold execOp;simp only [ho];rfl,hr.ev hh.a⟩
theorem EC {c x y:Operand} {v:V} (ho:o.op = .pick c x y):aC P N o ⟨[(c,.bool true),(x,v)],[]⟩ v [] []:=aD fun s M A φ a w hh hr=>⟨_,by unfold execOp;simp only [ho,hr.bool hh.a];rfl,hr.ev hh.b⟩
theorem Ee {c x y:Operand} {v:V} (ho:o.op = .pick c x y):aC P N o ⟨[(c,.bool false),(y,v)],[]⟩ v [] []:=aD fun s M A φ a w hh hr=>⟨_,by unfold execOp;simp only [ho,hr.bool hh.a];rfl,hr.ev hh.b⟩
theorem Zn {X A:Nat→Prop} {φ:Nat→Pl} {w:World} {x:Value} (h:Rep X A φ w (.tup vs) x):∃ cs,x = .tuple cs∧vs.length=cs.size∧∀ (i:Nat) v c,vs[i]? = some v→cs[i]? = some c→Rep X A φ w v c:=by
 cases h with
 | fz h=>cases h with|tup h1 h2=>exact ⟨_,rfl,h1,fun i v c hv hc=>.fz (h2 i v c hv hc)⟩
 | tup h1 h2=>exact ⟨_,rfl,h1,h2⟩
theorem jw {X A:Nat→Prop} {φ:Nat→Pl} {w:World} {x:Value} (h:Rep X A φ w (.agg vs) x):∃ cs,x = .agg cs∧vs.length=cs.size∧(∀ v∈vs,v.one=true)∧∀ (i:Nat) v c,vs[i]? = some v→cs[i]? = some c→Rep X A φ w v c:=by
 cases h with
 | fz h=>cases h with|agg h1 h2 h3=>exact ⟨_,rfl,h1,h2,fun i v c hv hc=>.fz (h3 i v c hv hc)⟩
 | agg h1 h2 h3=>exact ⟨_,rfl,h1,h2,h3⟩
theorem Lr {x:Operand} {i:Nat} {v:V} (ho:o.op = .extract x i) (hv:nth vs i=some v):aC P N o ⟨[(x,.tup vs)],[]⟩ v [] []:=aD fun s M A φ a w hh hr=>by
 obtain ⟨cs,h1,h2,h3⟩:=Zn (hr.ev hh.a)
 rw [dw] at hv
 have hi:i<cs.size:=by rw [← h2];exact (List.getElem?_eq_some_iff.1 hv).1
 have hc:cs[i]? = some cs[i]:=by simp [hi]
 exact ⟨cs[i],by unfold execOp;simp only [ho,h1,Instr.extract,hc];rfl,h3 i v _ hv hc⟩
theorem YX {t:TypeId} {x:Operand} {b:Bool} (ho:o.op = .unOp .not t x):aC P N o ⟨[(x,.bool b)],[]⟩ (.bool (!b)) [] []:=aD fun s M A φ a w hh hr =>
 ⟨.bool (!b),by unfold execOp;simp only [ho,hr.bool hh.a];simp [go_sem],.fz .bool⟩
theorem qw {x:Operand} {v:V} (ho:o.op = .nilCheck x) (hv:(match v with
  | .loc _ _ _|.fp _ _|.ifc _ _|.fn (.func _) _ _=>true
  | _=>false)=true):aC P N o ⟨[(x,v)],[]⟩ v [] []:=aD fun s M A φ a w hh hr=>by
 refine ⟨_,?_,hr.ev hh.a⟩
 have h:=hr.ev hh.a
 unfold execOp
 simp only [ho]
 generalize a.eval x=c at h ⊢
 cases h with
 | fz h=>cases h with
  | @fn f _ _ _ _=>cases f<;>first|rfl|(simp at hv;done)
  | _=>first|rfl|(simp at hv;done)
 | @fn f _ _ _ _=>cases f<;>first|rfl|(simp at hv;done)
 | _=>first|rfl|(simp at hv;done)
theorem Jf {f:Fn} {xs ys:Array Operand} {us:List V} (ho:o.op = .makeFunc f xs ys) (hu:us.length=xs.size) (hv:vs.length=ys.size):aC P N o ⟨xs.toList.zip us++ys.toList.zip vs,[]⟩ (.fn f us vs) [] []:=aD fun s M A φ a w hh hr=>by
 refine ⟨_,by unfold execOp;simp only [ho];rfl,.fn (by simpa using hu) (by simpa using hv) (fun i x c hx hc=>?_) (fun i x c hx hc=>?_)⟩
 ·simp only [Array.getElem?_map,Option.map_eq_some_iff] at hc
  obtain ⟨p,hp,rfl⟩:=hc
  exact hr.ev (hh.1 (p,x) (List.mem_append_left _ (List.mem_iff_getElem?.2 ⟨i,by simp [List.getElem?_zip_eq_some,hp,hx]⟩)))
 ·simp only [Array.getElem?_map,Option.map_eq_some_iff] at hc
  obtain ⟨p,hp,rfl⟩:=hc
  exact hr.ev (hh.1 (p,x) (List.mem_append_right _ (List.mem_iff_getElem?.2 ⟨i,by simp [List.getElem?_zip_eq_some,hp,hx]⟩)))
theorem wI {t:TypeId} {x:Operand} {v:V} {d:TypeDesc} (ho:o.op = .makeInterface t x) (ht:P.underlying t=some d) (hd:(match d with|.interface _=>false|_=>true)=true):aC P N o ⟨[(x,v)],[]⟩ (.ifc t v) [] []:=aD fun s M A φ a w hh hr=>by
 refine ⟨.iface t (a.eval x),?_,.ifc (hr.ev hh.a)⟩
 unfold execOp
 simp only [ho,Instr.makeInterface,Sem.run_bind,run_underlying ht,Result.andThen_ok]
 cases d<;>first|rfl|(simp at hd;done)
section
variable {t t':TypeId} {x y:Operand} {k:IntKind} {a b:Int}
variable {n:Int}
theorem fP {op:BinOp} {v:Value} (ho:o.op = .binOp op t x y t') (hop:(op matches .eql|.neq)=false) {u:V} (hu:∀ X A φ w,Rep X A φ w u v) (h:∀ w,(binOp op t (.int k a) (.int k b)).run P w = .ok v w):aC P N o ⟨[(x,.int k a),(y,.int k b)],[]⟩ u [] []:=aD fun s M A φ ac w hh hr=>by
 refine ⟨v,?_,hu _ _ _ _⟩
 unfold execOp
 have e:(eqGuard op t x y (.int k a) (.int k b)).run P w = .ok () w:=by
  unfold eqGuard
  cases op<;>first|(simp at hop;done)|rfl
 simp only [ho,hr.int hh.a,hr.int hh.b,Sem.run_bind,e,Result.andThen_ok,h w,Sem.run_pure]
theorem YD (ho:o.op = .binOp .add t x y t'):aC P N o ⟨[(x,.int k a),(y,.int k b)],[]⟩ (.int k (k.wrap (a+b))) [] []:=fP (v:=.int k (k.wrap (a+b))) ho rfl (fun _ _ _ _=>.fz (.int (wV _ _))) fun w=>by simp [go_sem]
theorem X9 (ho:o.op = .binOp .sub t x y t'):aC P N o ⟨[(x,.int k a),(y,.int k b)],[]⟩ (.int k (k.wrap (a-b))) [] []:=fP (v:=.int k (k.wrap (a-b))) ho rfl (fun _ _ _ _=>.fz (.int (wV _ _))) fun w=>by simp [go_sem]
theorem Y4 (ho:o.op = .binOp .mul t x y t'):aC P N o ⟨[(x,.int k a),(y,.int k b)],[]⟩ (.int k (k.wrap (a*b))) [] []:=fP (v:=.int k (k.wrap (a*b))) ho rfl (fun _ _ _ _=>.fz (.int (wV _ _))) fun w=>by simp [go_sem]
theorem Lf (ho:o.op = .binOp .add t x y t') (h:k.wrap (a+b)=n):aC P N o ⟨[(x,.int k a),(y,.int k b)],[]⟩ (.int k n) [] []:=h ▸ YD ho
theorem CY (ho:o.op = .binOp .sub t x y t') (h:k.wrap (a-b)=n):aC P N o ⟨[(x,.int k a),(y,.int k b)],[]⟩ (.int k n) [] []:=h ▸ X9 ho
theorem Ws (ho:o.op = .binOp .mul t x y t') (h:k.wrap (a*b)=n):aC P N o ⟨[(x,.int k a),(y,.int k b)],[]⟩ (.int k n) [] []:=h ▸ Y4 ho
theorem IX {r:Bool} (ho:o.op = .binOp .lss t x y t') (h:decide (a<b)=r):aC P N o ⟨[(x,.int k a),(y,.int k b)],[]⟩ (.bool r) [] []:=fP (v:=.bool r) ho rfl (fun _ _ _ _=>.fz .bool) fun w=>by subst h;simp [go_sem]
theorem G8 {r:Bool} (ho:o.op = .binOp .leq t x y t') (h:decide (a≤b)=r):aC P N o ⟨[(x,.int k a),(y,.int k b)],[]⟩ (.bool r) [] []:=fP (v:=.bool r) ho rfl (fun _ _ _ _=>.fz .bool) fun w=>by subst h;simp [go_sem]
theorem Hl {r:Bool} (ho:o.op = .binOp .gtr t x y t') (h:decide (b<a)=r):aC P N o ⟨[(x,.int k a),(y,.int k b)],[]⟩ (.bool r) [] []:=fP (v:=.bool r) ho rfl (fun _ _ _ _=>.fz .bool) fun w=>by subst h;simp [go_sem]
theorem GY {r:Bool} (ho:o.op = .binOp .geq t x y t') (h:decide (b≤a)=r):aC P N o ⟨[(x,.int k a),(y,.int k b)],[]⟩ (.bool r) [] []:=fP (v:=.bool r) ho rfl (fun _ _ _ _=>.fz .bool) fun w=>by subst h;simp [go_sem]
theorem GK {r:Bool} (ho:o.op = .binOp .eql t x y t') (h:decide (a=b)=r):aC P N o ⟨[(x,.int k a),(y,.int k b)],[]⟩ (.bool r) [] []:=aD fun s M A φ ac w hh hr=>by
 refine ⟨.bool r,?_,.fz .bool⟩
 have e:(a==b)=r:=by rw [← h];rfl
 unfold execOp
 simp only [ho,hr.int hh.a,hr.int hh.b]
 subst e
 simp [go_sem]
theorem Il {r:Bool} (ho:o.op = .binOp .neq t x y t') (h:decide (a≠b)=r):aC P N o ⟨[(x,.int k a),(y,.int k b)],[]⟩ (.bool r) [] []:=aD fun s M A φ ac w hh hr=>by
 refine ⟨.bool r,?_,.fz .bool⟩
 have e:(a != b)=r:=by rw [← h];by_cases e:a=b<;>simp [e]
 unfold execOp
 simp only [ho,hr.int hh.a,hr.int hh.b]
 subst e
 simp [go_sem]
end
section
variable {t t':TypeId} {x y:Operand} {a b r:Bool}
theorem IG (ho:o.op = .binOp .eql t x y t') (ht:P.underlying t=some .bool) (h:(a==b)=r):aC P N o ⟨[(x,.bool a),(y,.bool b)],[]⟩ (.bool r) [] []:=aD fun s M A φ ac w hh hr=>by
 refine ⟨.bool r,?_,.fz .bool⟩
 subst h
 unfold execOp
 simp only [ho,hr.bool hh.a,hr.bool hh.b]
 simp [go_sem,run_eql_bool _ t a b ht]
end
section
variable {t t':TypeId} {x y:Operand} {a b:ByteArray} {r:Bool}
theorem vv (a b:ByteArray):(a.toList==b.toList)=decide (a=b):=by
 by_cases h:a=b
 ·subst h;simp
 ·have:a.toList≠b.toList:=fun e=>h (by
   have e2:a.data=b.data:=by
    have:=congrArg List.toArray e
    simpa [ByteArray.toList_eq] using this
   exact ByteArray.ext e2)
  simp [h,this]
theorem LV (ho:o.op = .binOp .eql t x y t') (h:decide (a=b)=r):aC P N o ⟨[(x,.str a),(y,.str b)],[]⟩ (.bool r) [] []:=aD fun s M A φ ac w hh hr=>by
 refine ⟨.bool r,?_,.fz .bool⟩
 subst h
 unfold execOp
 simp only [ho,(hr.str hh.a).1,(hr.str hh.b).1]
 rw [← vv]
 simp [go_sem]
theorem Kw (ho:o.op = .binOp .neq t x y t') (h:decide (a≠b)=r):aC P N o ⟨[(x,.str a),(y,.str b)],[]⟩ (.bool r) [] []:=aD fun s M A φ ac w hh hr=>by
 refine ⟨.bool r,?_,.fz .bool⟩
 subst h
 unfold execOp
 simp only [ho,(hr.str hh.a).1,(hr.str hh.b).1]
 have e:decide (a≠b) = !(a.toList==b.toList):=by rw [vv];by_cases h:a=b<;>simp [h]
 rw [e]
 simp [go_sem]
theorem XD (ho:o.op = .binOp .add t x y t') (h:a.size+b.size≤dY):aC P N o ⟨[(x,.str a),(y,.str b)],[]⟩ (.str (a++b)) [] []:=aD fun s M A φ ac w hh hr=>by
 refine ⟨.string (a++b),?_,.fz (.str (by simpa using h))⟩
 unfold execOp
 simp only [ho,(hr.str hh.a).1,(hr.str hh.b).1]
 have e:¬ (((a.size+b.size:Nat):Int)>IntKind.i64.max):=by
  have:IntKind.i64.max=9223372036854775807:=rfl
  rw [this];simp only [dY] at h;omega
 have e2:¬ ((9223372036854775807:Int)<(a.size:Int)+(b.size:Int)):=by simp only [dY] at h;omega
 simp [go_sem,Go.binOp,eqGuard,Op.stringOp,e2]
theorem K6 (ho:o.op = .call { callee:=.builtin .len,args := #[x],argTypes := #[t] }) (ht:P.underlying t=some .string):aC P N o ⟨[(x,.str a)],[]⟩ (.int .i64 a.size) [] []:=aD fun s M A φ ac w hh hr=>by
 refine ⟨.int .i64 a.size,?_,.fz (.int ⟨by simp only [rng];omega,by have:=(hr.str hh.a).2;simp only [rng,dY] at this ⊢;omega⟩)⟩
 unfold execOp
 simp only [ho,resolve,Sem.run_bind,Sem.run_pure,Result.andThen_ok,invoke,builtin,List.map_toArray,List.map_cons,List.map_nil,(hr.str hh.a).1]
 simp [Builtin.len_,run_underlying ht]
 rfl
end
end
end Abs
end
end Go.Proofs.YtlfdjpgghiemfaaGreatDoor
