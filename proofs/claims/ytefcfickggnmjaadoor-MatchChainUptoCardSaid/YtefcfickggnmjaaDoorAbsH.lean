/- The laws of comparing structs, of dividing and of converting over named trees. Over any program. -/
import Derived.Test.YtefcfickggnmjaaDoorAbsF
import Derived.Laws.StructEq
import Derived.ChangeKeysEq
import Derived.Laws.IdiomStrings
namespace Go.Proofs.YtefcfickggnmjaaDoor.Abs
open Go.RowKit Mem Facts

section
variable {X A : Nat → Prop} {φ : Nat → Pl} {w w' : World} {P : Program} {tb : List Ty} {T : Nat} {e ee : Ty} {N : Env} {M : Nat → Prop} {o : Oper} {s : S} {a : Act}

/-! ### Comparing structs -/
def eqS : V → V → Bool
  | .int _ a, .int _ b => decide (a = b)
  | .bool a, .bool b => a == b
  | .str a, .str b => decide (a = b)
  | _, _ => false
def okS (n : Nat) : V → V → Bool
  | .int k _, .int k' _ => Nat.beq n (kcode k) && Nat.beq n (kcode k')
  | .bool _, .bool _ => Nat.beq n 1
  | .str _, .str _ => Nat.beq n 2
  | _, _ => false
def eqF (us vs : List V) : List (Nat × Nat) → Bool
  | [] => true
  | (off, _) :: r => (match nth us off, nth vs off with
    | some u, some v => eqS u v
    | _, _ => false) && eqF us vs r
def okF (tb : List Ty) (us vs : List V) : List (Nat × Nat) → Bool
  | [] => true
  | (off, ft) :: r => (match nth tb ft, nth us off, nth vs off with
    | some ef, some u, some v => okS ef.knd u v
    | _, _, _ => false) && okF tb us vs r
def eqPlain (P : Program) (T : Nat) : Bool := !P.stoodInHeld T && !P.eqGuardType P.depth T && (P.fieldsOf T).all (·.name != "_")
theorem run_eqS {t : Nat} {u v : V} {x y : Value} (htb : TbOk P tb) (hT : nth tb t = some e) (hok : okS e.knd u v = true) (hx : Rep X A φ w u x) (hy : Rep X A φ w v y) (d : Nat) : P.plainKey t = true ∧ ∀ w1, (Op.equalIn (d + 1) t x y).run P w1 = .ok (eqS u v) w1 := by
  obtain ⟨ti, de, ht⟩ := ty_at htb hT
  unfold okS at hok
  split at hok
  · rename_i k n k' m
    rw [Bool.and_eq_true] at hok
    have e1 := Nat.eq_of_beq_eq_true hok.1
    have e2 := Nat.eq_of_beq_eq_true hok.2
    have : k' = k := kcode_inj (by rw [← e1, ← e2])
    subst this
    rw [rep_int hx, rep_int hy]
    have hu : P.underlying t = some (.int k') := by rw [ht.und, kind_int (e1.symm.trans ht.knd)]
    refine ⟨by simp [Program.plainKey, hu], fun w1 => ?_⟩
    rw [run_equalIn_int w1 d t k' k' n m hu]
    rfl
  · have e1 := Nat.eq_of_beq_eq_true hok
    rw [rep_bool hx, rep_bool hy]
    have hd : de = .bool := kind_bool (e1.symm.trans ht.knd)
    have hu : P.underlying t = some .bool := by rw [ht.und, hd]
    exact ⟨by simp [Program.plainKey, hu], fun w1 => run_equalIn_bool w1 d t _ _ hu⟩
  · have e1 := Nat.eq_of_beq_eq_true hok
    rw [(rep_str hx).1, (rep_str hy).1]
    have hd : de = .string := kind_str (e1.symm.trans ht.knd)
    have hu : P.underlying t = some .string := by rw [ht.und, hd]
    refine ⟨by simp [Program.plainKey, hu], fun w1 => ?_⟩
    rw [run_equalIn_string w1 d t _ _ hu, toList_beq]
    rfl
  · cases hok
theorem run_eqF {us vs : List V} {xs ys : Array Value} (htb : TbOk P tb) (hx : Reps X A φ w us xs.toList) (hy : Reps X A φ w vs ys.toList) (d : Nat) : ∀ (fs : List Field), (fs.all (·.name != "_")) = true → okF tb us vs (fs.map fun f => (f.offset, f.type)) = true → ∀ w1, (Op.eqFields (d + 1) xs ys fs).run P w1 = .ok (eqF us vs (fs.map fun f => (f.offset, f.type))) w1
  | [], _, _, w1 => by simp [Op.eqFields, eqF]
  | f :: fs, hn, hok, w1 => by
    simp only [List.map_cons, okF, Bool.and_eq_true] at hok
    obtain ⟨h1, h2⟩ := hok
    rw [List.all_cons, Bool.and_eq_true] at hn
    have ih := run_eqF htb hx hy d fs hn.2 h2
    cases ht : nth tb f.type with
    | none => rw [ht] at h1; cases h1
    | some ef =>
      cases hu : nth us f.offset with
      | none => rw [ht, hu] at h1; cases h1
      | some u =>
        cases hv : nth vs f.offset with
        | none => rw [ht, hu, hv] at h1; cases h1
        | some v =>
          rw [ht, hu, hv] at h1
          simp only at h1
          rw [nth_eq] at hu hv
          obtain ⟨cx, k1, k2⟩ := hx.2 _ _ hu
          obtain ⟨cy, k3, k4⟩ := hy.2 _ _ hv
          rw [Array.getElem?_toList] at k1 k3
          obtain ⟨g1, g2⟩ := run_eqS (P := P) htb ht h1 k2 k4 d
          have hne : f.name ≠ "_" := by simpa using hn.1
          simp only [Op.eqFields, hne, ne_eq, not_false_eq_true, if_true, Sem.run_bind, run_part_plain w1 g1 k1, run_part_plain w1 g1 k3, Result.andThen_ok, g2 w1, List.map_cons, eqF, nth_eq, hu, hv]
          cases eqS u v
          · simp
          · simp [ih w1]
theorem run_eql_agg {us vs : List V} {r : Bool} {x y : Value} (htb : TbOk P tb) (hT : nth tb T = some e) (hk : Nat.beq e.knd 9 = true) (hq : eqPlain P T = true) (hok : okF tb us vs e.flds = true) (h : eqF us vs e.flds = r) (hx : Rep X A φ w (.agg us) x) (hy : Rep X A φ w (.agg vs) y) :
    ∃ cx cy, x = .agg cx ∧ y = .agg cy ∧ ∀ w1, (Op.equalIn 10000 T (.agg cx) (.agg cy)).run P w1 = .ok r w1 := by
  obtain ⟨cx, rfl, h1, h2, h3⟩ := rep_agg hx
  obtain ⟨cy, rfl, g1, g2, g3⟩ := rep_agg hy
  obtain ⟨ti, d, ht⟩ := ty_at htb hT
  have hk := Nat.eq_of_beq_eq_true hk
  unfold eqPlain at hq
  simp only [Bool.and_eq_true, Bool.not_eq_true'] at hq
  have hd : ∃ fs, d = .struct fs := kind_struct (hk.symm.trans ht.knd)
  obtain ⟨fs, rfl⟩ := hd
  have hu := ht.und
  have hfo : P.fieldsOf T = fs := by simp [Program.fieldsOf, hu]
  have hfl : e.flds = (fs.toList.map fun f => (f.offset, f.type)) := by rw [ht.flds]; rfl
  refine ⟨cx, cy, rfl, rfl, fun w1 => ?_⟩
  rw [run_equalIn_struct (P := P) w1 9999 T cx cy (by rw [hu, hfo]) hq.1.1, hfo]
  rw [hfl] at hok h
  rw [← h]
  have hn : (fs.toList.all (·.name != "_")) = true := by
    have := hq.2; rw [hfo] at this
    simpa [Array.all_toList] using this
  exact run_eqF (w := w) htb (Reps.mk' (by simpa using h1) fun j u c hu hc => h3 j u c hu (by simpa using hc)) (Reps.mk' (by simpa using g1) fun j u c hu hc => g3 j u c hu (by simpa using hc)) 9998 fs.toList hn hok w1
theorem law_eql_agg {x y : Operand} {T' : TypeId} {us vs : List V} {r : Bool} (htb : TbOk P tb) (ho : o.op = .binOp .eql T x y T') (hT : nth tb T = some e) (hk : Nat.beq e.knd 9 = true) (hq : eqPlain P T = true) (hok : okF tb us vs e.flds = true) (h : eqF us vs e.flds = r) :
    OpLaw P N o ⟨[(x, .agg us), (y, .agg vs)], []⟩ (.bool r) [] [] := law_pure fun s M A φ ac w hh hr => by
  obtain ⟨cx, cy, e1, e2, e3⟩ := run_eql_agg htb hT hk hq hok h (hr.ev hh.a) (hr.ev hh.b)
  refine ⟨.bool r, ?_, .fz .bool⟩
  unfold eqPlain at hq
  simp only [Bool.and_eq_true, Bool.not_eq_true'] at hq
  unfold execOp
  simp only [ho, e1, e2, Sem.run_bind, run_eqGuard_agg w .eql T x y cx cy hq.1.2, Result.andThen_ok, run_eql_struct, e3 w, Sem.run_pure]
theorem law_neq_agg {x y : Operand} {T' : TypeId} {us vs : List V} {r : Bool} (htb : TbOk P tb) (ho : o.op = .binOp .neq T x y T') (hT : nth tb T = some e) (hk : Nat.beq e.knd 9 = true) (hq : eqPlain P T = true) (hok : okF tb us vs e.flds = true) (h : (!eqF us vs e.flds) = r) :
    OpLaw P N o ⟨[(x, .agg us), (y, .agg vs)], []⟩ (.bool r) [] [] := law_pure fun s M A φ ac w hh hr => by
  obtain ⟨cx, cy, e1, e2, e3⟩ := run_eql_agg htb hT hk hq hok rfl (hr.ev hh.a) (hr.ev hh.b)
  refine ⟨.bool r, ?_, .fz .bool⟩
  unfold eqPlain at hq
  simp only [Bool.and_eq_true, Bool.not_eq_true'] at hq
  unfold execOp
  simp only [ho, e1, e2, Sem.run_bind, run_eqGuard_agg w .neq T x y cx cy hq.1.2, Result.andThen_ok, run_neq_struct, e3 w, Sem.run_pure, h]

/-! ### Dividing, converting -/
theorem law_quo {t t' : TypeId} {x y : Operand} {k : IntKind} {a b n : Int} (ho : o.op = .binOp .quo t x y t') (hb : ¬ b = 0) (h : k.wrap (a.tdiv b) = n) : OpLaw P N o ⟨[(x, .int k a), (y, .int k b)], []⟩ (.int k n) [] [] :=
  law_int2 (v := .int k n) ho rfl (fun _ _ _ _ => .fz (.int (inR_of h))) fun w => by subst h; simp [binOp, Op.intDiv, hb]
theorem law_rem {t t' : TypeId} {x y : Operand} {k : IntKind} {a b n : Int} (ho : o.op = .binOp .rem t x y t') (hb : ¬ b = 0) (h : a.tmod b = n) (hn : InR k n) : OpLaw P N o ⟨[(x, .int k a), (y, .int k b)], []⟩ (.int k n) [] [] :=
  law_int2 (v := .int k n) ho rfl (fun _ _ _ _ => .fz (.int hn)) fun w => by subst h; simp [binOp, Op.intDiv, hb]
theorem law_convert {src dst : TypeId} {x : Operand} {k k' : IntKind} {n m : Int} {e' : Ty} (htb : TbOk P tb) (ho : o.op = .convert src dst x) (hS : nth tb src = some e) (hD : nth tb dst = some e') (hk : Nat.beq e'.knd (kcode k') = true) (h : k'.wrap n = m) : OpLaw P N o ⟨[(x, .int k n)], []⟩ (.int k' m) [] [] := law_pure fun s M A φ ac w hh hr => by
  obtain ⟨ti, d, ht⟩ := ty_at htb hS
  obtain ⟨ti', d', ht'⟩ := ty_at htb hD
  have hu : P.underlying dst = some (.int k') := by rw [ht'.und, kind_int ((Nat.eq_of_beq_eq_true hk).symm.trans ht'.knd)]
  have hi : P.intKind dst = k' := by simp [Program.intKind, hu]
  refine ⟨.int k' m, ?_, .fz (.int (inR_of h))⟩
  subst h
  have := run_convert_int (P := P) w src dst k n (by rw [ht.und]; rfl) (by rw [hu, hi])
  rw [hi] at this
  unfold execOp
  simp only [ho, hr.int hh.a, Sem.run_bind, this, Result.andThen_ok, Sem.run_pure]
/-- The bytes of a text, as a slice that nobody writes. -/
theorem law_bytes {src dst : TypeId} {x : Operand} {b : ByteArray} {el : Nat} {e' : Ty} (htb : TbOk P tb) (ho : o.op = .convert src dst x) (hS : nth tb src = some e) (hD : nth tb dst = some e') (hk : Nat.beq e.knd 2 = true) (hs : e'.sl = some el) (hE : nth tb el = some ee) (he : Nat.beq ee.knd 24 = true) (hl : b.size ≤ LIM) :
    OpLaw P N o ⟨[(x, .str b)], []⟩ (.fro (b.data.toList.map fun c => .int .u8 c.toNat)) [] [] := fun s M A φ a w hh hr hν hd => by
  obtain ⟨ti, d, ht⟩ := ty_at htb hS
  obtain ⟨ti', d', ht'⟩ := ty_at htb hD
  obtain ⟨ti2, d2, ht2⟩ := ty_at htb hE
  have hu : P.underlying el = some (.int .u8) := by rw [ht2.und, kind_int (k := .u8) ((Nat.eq_of_beq_eq_true he).symm.trans ht2.knd)]
  have hd1 : d = .string := kind_str ((Nat.eq_of_beq_eq_true hk).symm.trans ht.knd)
  have hrun := run_bytes_of_string (P := P) w src dst el b (by rw [ht.und, hd1]) (slOf_und ht' hs) hu
  have hcap := grownCap_ge w b.size 0 el
  generalize grownCap w b.size 0 el = cap at hrun hcap
  unfold Oper.wp
  have : (execOp a.eval o).run P w = .ok (.value (.slice (some ⟨w.heap.size, 0, none⟩) b.size cap)) (w.drew.alloc (.cells (bytesRow b cap) el ((bytesRow b cap).size, (bytesRow b cap).size + 1))) := by
    unfold execOp
    simp only [ho, (hr.str hh.a).1, Sem.run_bind, hrun, Result.andThen_ok, Sem.run_pure]
  rw [this]
  have hbel : Below w.heap.size w (w.drew.alloc (.cells (bytesRow b cap) el ((bytesRow b cap).size, (bytesRow b cap).size + 1))) := ⟨rfl, rfl, rfl, by simp, fun k hk => heap_alloc_old w.drew _ hk⟩
  refine rel_grow_dst hr hbel ?_ hd
  refine .fz ?_
  have hrow : ∀ j (hj : j < b.data.toList.length), (w.drew.alloc (.cells (bytesRow b cap) el ((bytesRow b cap).size, (bytesRow b cap).size + 1))).cell? ⟨w.heap.size, 0 + j, none⟩ = some (Value.int .u8 (b.data.toList[j].toNat : Int)) := fun j hj => by
    have hh : (w.drew.alloc (.cells (bytesRow b cap) el ((bytesRow b cap).size, (bytesRow b cap).size + 1))).heap[w.heap.size]? = some (.cells (bytesRow b cap) el ((bytesRow b cap).size, (bytesRow b cap).size + 1)) := heap_alloc_new w.drew _
    have hj' : j < b.data.size := by simpa using hj
    unfold World.cell?
    simp only [hh]
    simp [bytesRow, Array.getElem?_append, hj', show j < b.size from hj']
  have := row_fz (X := fun b => M b ∨ N b) (w := w.drew.alloc (.cells (bytesRow b cap) el ((bytesRow b cap).size, (bytesRow b cap).size + 1))) (f := fun c : UInt8 => V.int .u8 (c.toNat : Int)) (g := fun c : UInt8 => Value.int .u8 (c.toNat : Int)) (L := b.data.toList) (b := w.heap.size) (o := 0) (cap := cap) (fun _ => rfl) (fun _ => rfl) (fun c _ => .int ⟨by simp only [rng]; omega, by have := c.toNat_lt; simp only [rng]; omega⟩) (fun h => by have := hr.lim _ h; omega) (by show w.heap.size < (w.drew.alloc _).heap.size; simp) (by simpa using hcap) (by simpa using hl) hrow
  simpa using this
end
end Go.Proofs.YtefcfickggnmjaaDoor.Abs
