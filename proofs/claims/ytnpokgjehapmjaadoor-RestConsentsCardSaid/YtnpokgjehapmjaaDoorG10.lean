/- Texts of the proof, joined: AbsD, Wk, SixtyQ, Scan, GrantP. -/
import Derived.Test.YtnpokgjehapmjaaDoorG9
import Derived.MapKept
import Derived.Test.YtnpokgjehapmjaaDoorG8
import Derived.Test.YtnpokgjehapmjaaDoorG1
import Derived.Lib.IndexBytes
import Derived.Lib.TrimByte
import Derived.WalkKit
section
namespace Go.Proofs.YtnpokgjehapmjaaDoor.Abs
open Go.RowKit Mem Facts

section
variable {X A A' : Nat → Prop} {φ φ' : Nat → Pl} {w w' : World} {P : Program} {tb : List Ty} {T : Nat} {e ee : Ty} {N : Env} {M : Nat → Prop} {o : Oper} {s : S} {a : Act}

/-! ### Keys -/
def eqK (e : Ty) : V → V → Bool
  | .agg us, .agg vs => eqF us vs e.flds
  | u, v => eqS u v
def okK (tb : List Ty) (e : Ty) : V → V → Bool
  | .agg us, .agg vs => Nat.beq e.knd 9 && okF tb us vs e.flds
  | u, v => okS e.knd u v
def plainK (P : Program) (T : Nat) (e : Ty) : Bool := bif Nat.beq e.knd 9 then eqPlain P T else true
theorem okS_noagg {n : Nat} {u v : V} (h : okS n u v = true) : (∀ us, u ≠ .agg us) ∧ ∀ us, v ≠ .agg us := by
  unfold okS at h
  split at h <;> first | (cases h; done) | exact ⟨fun _ e => (by cases e), fun _ e => (by cases e)⟩
theorem okK_cases {u v : V} (h : okK tb e u v = true) : (∃ us vs, u = .agg us ∧ v = .agg vs ∧ Nat.beq e.knd 9 = true ∧ okF tb us vs e.flds = true ∧ eqK e u v = eqF us vs e.flds) ∨ (okS e.knd u v = true ∧ eqK e u v = eqS u v) := by
  unfold okK at h
  split at h
  · rw [Bool.and_eq_true] at h
    exact .inl ⟨_, _, rfl, rfl, h.1, h.2, rfl⟩
  · refine .inr ⟨h, ?_⟩
    have := (okS_noagg h).1
    unfold eqK
    split
    · exact absurd rfl (this _)
    · rfl
theorem run_eqK {u v : V} {x y : Value} (htb : TbOk P tb) (hT : nth tb T = some e) (hq : plainK P T e = true) (hok : okK tb e u v = true) (hx : Rep X A φ w u x) (hy : Rep X A φ w v y) (w1 : World) : (Op.equal T x y).run P w1 = .ok (eqK e u v) w1 := by
  rcases okK_cases hok with ⟨us, vs, rfl, rfl, h1, h2, h3⟩ | ⟨h1, h2⟩
  · unfold plainK at hq
    rw [h1, cond_true] at hq
    obtain ⟨cx, cy, rfl, rfl, h⟩ := run_eql_agg htb hT h1 hq h2 rfl hx hy
    rw [h3]
    exact h w1
  · rw [h2]
    exact (run_eqS htb hT h1 hx hy 9999).2 w1
theorem run_ckS {t : Nat} {u : V} {x : Value} (htb : TbOk P tb) (hT : nth tb t = some e) (hok : okS e.knd u u = true) (hx : Rep X A φ w u x) (em : Bool) (n : Nat) (w1 : World) : (Instr.checkKey em (n + 1) t x).run P w1 = .ok () w1 := by
  obtain ⟨ti, d, ht⟩ := ty_at htb hT
  have hu := ht.und
  unfold okS at hok
  split at hok
  · rw [Bool.and_eq_true] at hok
    rw [rep_int hx]
    have hd := kind_int ((Nat.eq_of_beq_eq_true hok.1).symm.trans ht.knd)
    subst hd
    simp [Instr.checkKey, run_underlying hu]
  · rw [rep_bool hx]
    have hd : d = .bool := kind_bool ((Nat.eq_of_beq_eq_true hok).symm.trans ht.knd)
    subst hd
    simp [Instr.checkKey, run_underlying hu]
  · rw [(rep_str hx).1]
    have hd : d = .string := kind_str ((Nat.eq_of_beq_eq_true hok).symm.trans ht.knd)
    subst hd
    simp [Instr.checkKey, run_underlying hu]
  · cases hok
theorem run_ckF {us : List V} {xs : Array Value} (htb : TbOk P tb) (hx : Reps X A φ w us xs.toList) (em : Bool) (n : Nat) (w1 : World) : ∀ fs : List Field, okF tb us us (fs.map fun f => (f.offset, f.type)) = true → fs.all (·.name != "_") = true →
    ((forIn fs PUnit.unit fun f _ => if f.name ≠ "_" then (do
        let c ← part f.type xs f.offset
        Instr.checkKey em (n + 1) f.type c
        pure (ForInStep.yield PUnit.unit)) else pure (ForInStep.yield PUnit.unit) : Sem PUnit).run P w1) = .ok PUnit.unit w1
  | [], _, _ => by simp
  | f :: fs, hok, hn => by
    simp only [List.map_cons, okF, Bool.and_eq_true] at hok
    obtain ⟨h1, h2⟩ := hok
    rw [List.all_cons, Bool.and_eq_true] at hn
    have ih := run_ckF htb hx em n w1 fs h2 hn.2
    cases ht : nth tb f.type with
    | none => rw [ht] at h1; cases h1
    | some ef =>
      cases hu : nth us f.offset with
      | none => rw [ht, hu] at h1; cases h1
      | some u =>
        rw [ht, hu] at h1
        simp only at h1
        rw [nth_eq] at hu
        obtain ⟨cx, k1, k2⟩ := hx.2 _ _ hu
        rw [Array.getElem?_toList] at k1
        obtain ⟨g1, _⟩ := run_eqS (P := P) htb ht h1 k2 k2 0
        have g2 := run_ckS htb ht h1 k2 em n w1
        have hne : f.name ≠ "_" := by simpa using hn.1
        simp only [List.forIn_cons, Sem.run_bind, hne, ne_eq, not_false_eq_true, if_true, Result.andThen_ok, run_part_plain w1 g1 k1, g2, Sem.run_pure]
        exact ih
theorem run_ckK {u : V} {x : Value} (htb : TbOk P tb) (hT : nth tb T = some e) (hq : plainK P T e = true) (hok : okK tb e u u = true) (hx : Rep X A φ w u x) (em : Bool) (w1 : World) : (Instr.checkKey em 10000 T x).run P w1 = .ok () w1 := by
  rcases okK_cases hok with ⟨us, vs, rfl, hv, h1, h2, h3⟩ | ⟨h1, h2⟩
  · cases hv
    unfold plainK at hq
    rw [h1, cond_true] at hq
    obtain ⟨cx, rfl, g1, g2, g3⟩ := rep_agg hx
    obtain ⟨ti, d, ht⟩ := ty_at htb hT
    obtain ⟨fs, rfl⟩ : ∃ fs, d = .struct fs := kind_struct ((Nat.eq_of_beq_eq_true h1).symm.trans ht.knd)
    have hu := ht.und
    have hfl : e.flds = (fs.toList.map fun f => (f.offset, f.type)) := by rw [ht.flds]; rfl
    rw [hfl] at h2
    unfold eqPlain at hq
    simp only [Bool.and_eq_true] at hq
    have hfo : P.fieldsOf T = fs := by simp [Program.fieldsOf, hu]
    have hn : (fs.toList.all (·.name != "_")) = true := by
      have := hq.2; rw [hfo] at this
      simpa [Array.all_toList] using this
    have := run_ckF (w := w) htb (Reps.mk' (by simpa using g1) fun j u c hu hc => g3 j u c hu (by simpa using hc)) em 9998 w1 fs.toList h2 hn
    rw [show (10000 : Nat) = 9999 + 1 from rfl, Instr.checkKey]
    simp only [Sem.run_bind, run_underlying hu, Result.andThen_ok]
    rw [← Array.forIn_toList]
    rw [this]
    simp
  · exact run_ckS htb hT h1 hx em 9999 w1
/-- Where a key is. -/
def findE (e : Ty) (k : V) : List (V × V) → Nat → Option Nat
  | [], _ => none
  | p :: r, i => bif eqK e k p.1 then some i else findE e k r (i + 1)
def Found (ents : List MapEntry) (i0 : Nat) : Option Nat → Option (Nat × Value) → Prop
  | none, r => r = none
  | some i, r => ∃ j en, i = i0 + j ∧ ents[j]? = some en ∧ r = some (i, en.val)
theorem Found.on {en : MapEntry} {ents : List MapEntry} {i0 : Nat} {f : Option Nat} {r : Option (Nat × Value)} (h : Found ents (i0 + 1) f r) : Found (en :: ents) i0 f r := by
  cases f with
  | none => exact h
  | some i =>
    obtain ⟨j, e', h1, h2, h3⟩ := h
    exact ⟨j + 1, e', by omega, by simpa using h2, h3⟩
def KeysAt (X : Nat → Prop) (w : World) (es : List (V × V)) (ents : List MapEntry) : Prop := ents.length = es.length ∧ ∀ (i : Nat) p en, es[i]? = some p → ents[i]? = some en → Fz X w p.1 en.key
theorem KeysAt.on {p : V × V} {es : List (V × V)} {en : MapEntry} {ents : List MapEntry} (h : KeysAt X w (p :: es) (en :: ents)) : Fz X w p.1 en.key ∧ KeysAt X w es ents :=
  ⟨h.2 0 p en rfl rfl, by simpa using h.1, fun i q f h1 h2 => h.2 (i + 1) q f (by simpa using h1) (by simpa using h2)⟩
theorem run_asking {k : V} {x : Value} (htb : TbOk P tb) (hT : nth tb T = some e) (hq : plainK P T e = true) (hx : Rep X A φ w k x) (w1 : World) : ∀ (es : List (V × V)) (ents : List MapEntry) (i0 : Nat), KeysAt X w es ents → (∀ p ∈ es, okK tb e k p.1 = true) →
    ∃ r, (Instr.findAsking T x ents i0).run P w1 = .ok r w1 ∧ Found ents i0 (findE e k es i0) r
  | [], ents, i0, h, _ => by
    have : ents = [] := List.eq_nil_of_length_eq_zero (by simpa using h.1)
    subst this
    exact ⟨none, by simp [Instr.findAsking], rfl⟩
  | p :: es, [], i0, h, _ => by simp [KeysAt] at h
  | p :: es, en :: ents, i0, h, hok => by
    obtain ⟨h1, h2⟩ := h.on
    have hr := run_eqK htb hT hq (hok p (by simp)) hx (.fz h1) w1
    rw [findE]
    cases hb : eqK e k p.1 with
    | true =>
      rw [hb] at hr
      exact ⟨some (i0, en.val), by simp [Instr.findAsking, hr], 0, en, rfl, rfl, rfl⟩
    | false =>
      rw [hb] at hr
      obtain ⟨r, g1, g2⟩ := run_asking htb hT hq hx w1 es ents (i0 + 1) h2 fun q hq' => hok q (by simp [hq'])
      exact ⟨r, by simp [Instr.findAsking, hr, g1], g2.on⟩
theorem beq_bytes (p q : ByteArray) : (p == q) = decide (p = q) := by
  obtain ⟨p⟩ := p
  obtain ⟨q⟩ := q
  show (p == q) = _
  by_cases h : p = q
  · subst h; simp
  · rw [decide_eq_false (fun e => h (by cases e; rfl))]; simpa using h
theorem now_eq {k v : V} {x y : Value} {ti : TypeInfo} {d : TypeDesc} (ht : TyIs P T e ti d) (hok : okK tb e k v = true) (hx : Rep X A φ w k x) (hy : Rep X A φ w v y) {b : Bool} (h : Instr.sameNow d x y = some b) : b = eqK e k v := by
  rcases okK_cases hok with ⟨us, vs, rfl, rfl, h1, h2, h3⟩ | ⟨h1, h2⟩
  · obtain ⟨fs, rfl⟩ : ∃ fs, d = .struct fs := kind_struct ((Nat.eq_of_beq_eq_true h1).symm.trans ht.knd)
    simp [Instr.sameNow] at h
  · rw [h2]
    unfold okS at h1
    split at h1
    · rename_i q m q' m'
      rw [rep_int hx, rep_int hy] at h
      unfold Instr.sameNow at h
      split at h
      · rename_i heq1 heq2
        cases heq1; cases heq2
        split at h <;> cases h
        simp only [eqS]
        by_cases hh : m = m' <;> simp [hh]
      · rename_i heq1 heq2; cases heq1
      · rename_i heq1 heq2; cases heq1
      · cases h
    · rename_i p q
      rw [rep_bool hx, rep_bool hy] at h
      unfold Instr.sameNow at h
      split at h
      · rename_i heq1 heq2; cases heq1
      · rename_i heq1 heq2; cases heq1
      · rename_i heq1 heq2; cases heq1; cases heq2; cases h; rfl
      · cases h
    · rename_i p q
      rw [(rep_str hx).1, (rep_str hy).1] at h
      unfold Instr.sameNow at h
      split at h
      · rename_i heq1 heq2; cases heq1
      · rename_i heq1 heq2; cases heq1; cases heq2; cases h
        simp only [eqS]
        exact beq_bytes p q
      · rename_i heq1 heq2; cases heq1
      · cases h
    · cases h1
theorem now_find {k : V} {x : Value} {ti : TypeInfo} {d : TypeDesc} (ht : TyIs P T e ti d) (hx : Rep X A φ w k x) : ∀ (es : List (V × V)) (ents : List MapEntry) (i0 : Nat), KeysAt X w es ents → (∀ p ∈ es, okK tb e k p.1 = true) →
    Instr.findNow d x ents i0 = none ∨ ∃ r, Instr.findNow d x ents i0 = some r ∧ Found ents i0 (findE e k es i0) r
  | [], ents, i0, h, _ => by
    have : ents = [] := List.eq_nil_of_length_eq_zero (by simpa using h.1)
    subst this
    exact .inr ⟨none, rfl, rfl⟩
  | p :: es, [], i0, h, _ => by simp [KeysAt] at h
  | p :: es, en :: ents, i0, h, hok => by
    obtain ⟨h1, h2⟩ := h.on
    rw [findE, Instr.findNow]
    cases hs : Instr.sameNow d x en.key with
    | none => exact .inl rfl
    | some b =>
      have hb := now_eq ht (hok p (by simp)) hx (.fz h1) hs
      cases b with
      | true =>
        rw [← hb]
        exact .inr ⟨_, rfl, 0, en, rfl, rfl, rfl⟩
      | false =>
        rw [← hb]
        rcases now_find ht hx es ents (i0 + 1) h2 fun q hq' => hok q (by simp [hq']) with g | ⟨r, g1, g2⟩
        · exact .inl g
        · exact .inr ⟨r, g1, g2.on⟩
theorem run_findK {k : V} {x : Value} (htb : TbOk P tb) (hT : nth tb T = some e) (hq : plainK P T e = true) (hx : Rep X A φ w k x) (w1 : World) {es : List (V × V)} {ents : List MapEntry} (h : KeysAt X w es ents) (hok : ∀ p ∈ es, okK tb e k p.1 = true) :
    ∃ r, (Instr.findKey T x ents).run P w1 = .ok r w1 ∧ Found ents 0 (findE e k es 0) r := by
  obtain ⟨ti, d, ht⟩ := ty_at htb hT
  have hu := ht.und
  rcases now_find ht hx es ents 0 h hok with g | ⟨r, g1, g2⟩
  · obtain ⟨r, h1, h2⟩ := run_asking htb hT hq hx w1 es ents 0 h hok
    exact ⟨r, by simp [Instr.findKey, run_underlying hu, Result.andThen, g, h1], h2⟩
  · exact ⟨r, by simp [Instr.findKey, run_underlying hu, Result.andThen, g1], g2⟩

/-! ### Making a map, looking up -/
theorem rep_mp {n : Nat} {x : Value} (h : Rep X A φ w (.mp n) x) : ∃ b, (φ n).blk = some b ∧ x = .map (some b) := by
  cases h with
  | fz h => cases h
  | mp h1 h2 => exact ⟨_, h2, rfl⟩
theorem Sized.push {ents : Array MapEntry} {clock : Nat} {es : List (V × V)} {en : MapEntry} {p : V × V} (h : Sized ents clock es.length) (he : en.born = clock) : Sized (ents.push en) (clock + 1) (es ++ [p]).length :=
  ⟨by simp [h.sz], by simp [h.ck], fun i x hx => by
    rw [Array.getElem?_push] at hx
    split at hx
    · rename_i e; cases hx; rw [he, h.ck, e, h.sz]
    · exact h.bn i x hx⟩
theorem law_makeMap {ν : Nat} (ho : o.op = .makeMap T none) : OpLaw P N o ⟨[], []⟩ (.mp ν) [(ν, some (.map []))] [ν] := fun s M A φ a w hh hr hν hd => by
  have hrun : (execOp a.eval o).run P w = .ok (.value (.map (some w.heap.size))) (w.alloc (.map #[] 0)) := by
    unfold execOp; simp only [ho]
    have h : (Instr.makeMap T none).run P w = .ok (.map (some w.heap.size)) (w.alloc (.map #[] 0)) := rfl
    simp [h, Result.andThen]
  unfold Oper.wp
  rw [hrun]
  refine rel_new (pl := ⟨some w.heap.size, 0, 0⟩) hr (hν ν (by simp)) rfl (fun φ' hφ => ?_) (fun φ' hφ => ?_) hd
  · exact ⟨_, #[], 0, rfl, .inr rfl, heap_alloc_new w _, ⟨rfl, rfl, fun i en h => by simp at h⟩, fun i k v en h => by simp at h⟩
  · exact .mp (.inr rfl) (by rw [hφ])
theorem map_row {n : Nat} {es : List (V × V)} (hr : Rel N M A φ s a w) (hk : s.blk n = some (.map es)) {x : Operand} (hx : s.ev x = some (.mp n)) : ∃ b ents clock, a.eval x = .map (some b) ∧ (φ n).blk = some b ∧ w.heap[b]? = some (.map ents clock) ∧ Sized ents clock es.length ∧
    KeysAt (fun b => M b ∨ N b) w es ents.toList ∧ ∀ (i : Nat) k v en, es[i]? = some (k, v) → ents[i]? = some en → Fz (fun b => M b ∨ N b) w k en.key ∧ Rep (fun b => M b ∨ N b) A φ w v en.val := by
  obtain ⟨b, h1, h2⟩ := rep_mp (hr.ev hx)
  obtain ⟨_, b', ents, clock, g1, g2, g3, g4, g5⟩ := hr.st n _ hk
  rw [h1] at g1; cases g1
  exact ⟨b, ents, clock, h2, h1, g3, g4, ⟨by simpa using g4.sz, fun i p en h3 h4 => (g5 i p.1 p.2 en h3 (by simpa using h4)).1⟩, g5⟩
/-- The common part of a look-up. -/
theorem run_look {n : Nat} {es : List (V × V)} {x y : Operand} {k : V} {kt el : Nat} {ek : Ty} (c : Bool) (htb : TbOk P tb) (hT : nth tb T = some e) (hm : e.mp = some (kt, el)) (hkt : nth tb kt = some ek) (hq : plainK P kt ek = true) (hkk : okK tb ek k k = true) (hok : ∀ p ∈ es, okK tb ek k p.1 = true)
    (hr : Rel N M A φ s a w) (hk : s.blk n = some (.map es)) (hx : s.ev x = some (.mp n)) (hy : s.ev y = some k) :
    (∀ i q v, findE ek k es 0 = some i → es[i]? = some (q, v) → ∃ r, (Instr.lookup T (a.eval x) (a.eval y) c).run P w = .ok (if c then .tuple #[r, .bool true] else r) w ∧ Rep (fun b => M b ∨ N b) A φ w v r) ∧
    (findE ek k es 0 = none → ∀ z, (zeroValue el).run P w = .ok z w → (Instr.lookup T (a.eval x) (a.eval y) c).run P w = .ok (if c then .tuple #[z, .bool false] else z) w) := by
  obtain ⟨b, ents, clock, h1, h2, h3, h4, h5, h6⟩ := map_row hr hk hx
  have hrep := hr.ev hy
  obtain ⟨ti, d, ht⟩ := ty_at htb hT
  have hu := ht.und
  have hd : d = .map kt el := by
    have := ht.mp
    rw [hm] at this
    cases d <;> simp [mpOf] at this
    rename_i k' e'
    rw [this.1, this.2]
  subst hd
  obtain ⟨r, g1, g2⟩ := run_findK htb hkt hq hrep w h5 hok
  have g3 := run_ckK htb hkt hq hkk hrep ents.isEmpty w
  refine ⟨fun i q v hf hi => ?_, fun hf z hz => ?_⟩
  · rw [hf] at g2
    obtain ⟨j, en, e1, e2, rfl⟩ := g2
    have : j = i := by omega
    subst this
    refine ⟨en.val, ?_, (h6 j q v en hi (by simpa using e2)).2⟩
    rw [h1]
    cases c <;> simp [Instr.lookup, run_underlying hu, MapKept.run_getObj_map h3, Result.andThen, g1, g3]
  · rw [hf] at g2
    cases g2
    rw [h1]
    cases c <;> simp [Instr.lookup, run_underlying hu, MapKept.run_getObj_map h3, Result.andThen, g1, g3, hz]
theorem law_lookAt {n : Nat} {es : List (V × V)} {x y : Operand} {k q v : V} {i kt el : Nat} {ek : Ty} (htb : TbOk P tb) (ho : o.op = .lookup T x y false) (hT : nth tb T = some e) (hm : e.mp = some (kt, el)) (hkt : nth tb kt = some ek) (hq : plainK P kt ek = true) (hkk : okK tb ek k k = true) (hok : ∀ p ∈ es, okK tb ek k p.1 = true)
    (hf : findE ek k es 0 = some i) (hi : es[i]? = some (q, v)) : OpLaw P N o ⟨[(x, .mp n), (y, k)], [(n, .map es)]⟩ v [] [] := law_pure fun s M A φ a w hh hr => by
  obtain ⟨r, h1, h2⟩ := (run_look false htb hT hm hkt hq hkk hok hr hh.n hh.a hh.b).1 i q v hf hi
  refine ⟨r, ?_, h2⟩
  unfold execOp; simp only [ho]; simp [h1, Result.andThen]
theorem rep_pair {u v : V} {x y : Value} (h1 : Rep X A φ w u x) (h2 : Rep X A φ w v y) : Rep X A φ w (.tup [u, v]) (.tuple #[x, y]) := by
  refine .tup rfl fun i p c hp hc => ?_
  rcases i with _ | _ | i
  · simp at hp hc; subst hp hc; exact h1
  · simp at hp hc; subst hp hc; exact h2
  · simp at hp
theorem law_lookAtOk {n : Nat} {es : List (V × V)} {x y : Operand} {k q v : V} {i kt el : Nat} {ek : Ty} (htb : TbOk P tb) (ho : o.op = .lookup T x y true) (hT : nth tb T = some e) (hm : e.mp = some (kt, el)) (hkt : nth tb kt = some ek) (hq : plainK P kt ek = true) (hkk : okK tb ek k k = true) (hok : ∀ p ∈ es, okK tb ek k p.1 = true)
    (hf : findE ek k es 0 = some i) (hi : es[i]? = some (q, v)) : OpLaw P N o ⟨[(x, .mp n), (y, k)], [(n, .map es)]⟩ (.tup [v, .bool true]) [] [] := law_pure fun s M A φ a w hh hr => by
  obtain ⟨r, h1, h2⟩ := (run_look true htb hT hm hkt hq hkk hok hr hh.n hh.a hh.b).1 i q v hf hi
  refine ⟨.tuple #[r, .bool true], ?_, rep_pair h2 (.fz .bool)⟩
  unfold execOp; simp only [ho]; simp [h1, Result.andThen]
theorem law_lookNo {n : Nat} {es : List (V × V)} {x y : Operand} {k v : V} {kt el : Nat} {ek ee : Ty} (htb : TbOk P tb) (ho : o.op = .lookup T x y false) (hT : nth tb T = some e) (hm : e.mp = some (kt, el)) (hkt : nth tb kt = some ek) (hq : plainK P kt ek = true) (hkk : okK tb ek k k = true) (hok : ∀ p ∈ es, okK tb ek k p.1 = true)
    (hf : findE ek k es 0 = none) (hel : nth tb el = some ee) (hz : ee.zeroV = some v) : OpLaw P N o ⟨[(x, .mp n), (y, k)], [(n, .map es)]⟩ v [] [] := law_pure fun s M A φ a w hh hr => by
  obtain ⟨z, g1, g2, _⟩ := run_zero htb hel hz
  have h1 := (run_look false htb hT hm hkt hq hkk hok hr hh.n hh.a hh.b).2 hf z (g1 w)
  refine ⟨z, ?_, g2 _ _ _ _⟩
  unfold execOp; simp only [ho]; simp [h1, Result.andThen]
theorem law_lookNoOk {n : Nat} {es : List (V × V)} {x y : Operand} {k v : V} {kt el : Nat} {ek ee : Ty} (htb : TbOk P tb) (ho : o.op = .lookup T x y true) (hT : nth tb T = some e) (hm : e.mp = some (kt, el)) (hkt : nth tb kt = some ek) (hq : plainK P kt ek = true) (hkk : okK tb ek k k = true) (hok : ∀ p ∈ es, okK tb ek k p.1 = true)
    (hf : findE ek k es 0 = none) (hel : nth tb el = some ee) (hz : ee.zeroV = some v) : OpLaw P N o ⟨[(x, .mp n), (y, k)], [(n, .map es)]⟩ (.tup [v, .bool false]) [] [] := law_pure fun s M A φ a w hh hr => by
  obtain ⟨z, g1, g2, _⟩ := run_zero htb hel hz
  have h1 := (run_look true htb hT hm hkt hq hkk hok hr hh.n hh.a hh.b).2 hf z (g1 w)
  refine ⟨.tuple #[z, .bool false], ?_, rep_pair (g2 _ _ _ _) (.fz .bool)⟩
  unfold execOp; simp only [ho]; simp [h1, Result.andThen]

/-! ### Setting -/
/-- An own block, changed. -/
theorem rel_obj {n b : Nat} {k k' : Blk} {ob : Obj} {dst : Option Nat} {nx : Nat} {v : V} {x : Value} (hr : Rel N M A φ s a w) (hk : s.blk n = some k) (hb : (φ n).blk = some b)
    (hnew : ∀ w', Stays (fun b => M b ∨ N b) w w' → w'.heap[b]? = some ob → BlkAt (fun b => M b ∨ N b) M A φ w' (φ n) k') (hv : Rep (fun b => M b ∨ N b) A φ w v x) (hd : ∀ d, dst = some d → d < s.nt) :
    ∃ M' φ', Stays M w { w with heap := w.heap.setIfInBounds b ob } ∧ (∀ b, b < w.heap.size → M' b → M b) ∧ Rel N M' (fun n => A n ∨ n ∈ ([] : List Nat)) φ' (s.eff dst v [(n, some k')] nx) (a.put dst x) { w with heap := w.heap.setIfInBounds b ob } := by
  have hM : M b := hr.lt_blk hk hb
  have hlt : b < w.heap.size := hr.lim b (.inl hM)
  have hst : ∀ Q : Nat → Prop, Q b → Stays Q w { w with heap := w.heap.setIfInBounds b ob } := fun Q hQ => ⟨rfl, rfl, rfl, by simp, fun b' _ hb' => by
    have : ¬ b = b' := fun e => hb' (e ▸ hQ)
    simp [this]⟩
  have hs := hst (fun b => M b ∨ N b) (.inl hM)
  refine ⟨M, φ, hst M hM, fun _ _ h => h, ?_⟩
  have hgrow : Rel N M A φ (s.eff none .und [(n, some k')] nx) a { w with heap := w.heap.setIfInBounds b ob } := by
    have eb : ∀ m, (s.eff none .und [(n, some k')] nx).blk m = if n = m then some k' else s.blk m := fun m => by
      unfold S.blk S.eff
      simp only [List.cons_append, List.nil_append, lk_put]
      by_cases e : n = m <;> simp [e]
    have name : ∀ m q, (s.eff none .und [(n, some k')] nx).blk m = some q → ∃ q', s.blk m = some q' := fun m q h => by
      rw [eb] at h
      split at h
      · rename_i e; subst e; exact ⟨_, hk⟩
      · exact ⟨_, h⟩
    refine ⟨fun t u ht => ?_, hr.nt, fun m q hq => ?_, fun m m' q q' b' g1 g2 g3 g4 => ?_, fun b' hb' => ?_, hr.dis, hr.df, hr.pin, hr.gl.stays hs fun _ _ h => h⟩
    · obtain ⟨g1, g2⟩ := hr.tm t u ht
      exact ⟨g1, g2.mono (fun _ _ h => h) hs (fun _ h => h) fun _ _ => rfl⟩
    · rw [eb] at hq
      split at hq
      · rename_i e; subst e; cases hq
        exact ⟨(hr.st n _ hk).1, hnew _ hs (by simp [hlt])⟩
      · rename_i e
        obtain ⟨g0, g1⟩ := hr.st m q hq
        exact ⟨g0, g1.mono (fun _ _ h => h) hs (fun _ h => h) (fun _ _ => rfl) (fun _ h => h) fun b' hb' => by
          have : ¬ b = b' := fun e2 => e (hr.inj n m _ _ b hk hq hb (by rw [hb', e2]))
          simp [this]⟩
    · obtain ⟨k1, f1⟩ := name m q g1
      obtain ⟨k2, f2⟩ := name m' q' g2
      exact hr.inj m m' k1 k2 b' f1 f2 g3 g4
    · have := hr.lim b' hb'; simpa using this
  have h9 := rel_dst (nx := nx) hgrow (hv.mono (fun _ _ h => h) hs (fun _ h => h) fun _ _ => rfl) hd
  refine (h9.wider fun n h => .inl h).as (fun t => ?_) (fun n => rfl) rfl
  cases dst <;> rfl
theorem law_putNew {n : Nat} {es : List (V × V)} {x y z : Operand} {k v : V} {kt el : Nat} {ek : Ty} (htb : TbOk P tb) (ho : o.op = .mapUpdate T x y z) (hT : nth tb T = some e) (hm : e.mp = some (kt, el)) (hkt : nth tb kt = some ek) (hq : plainK P kt ek = true) (hkk : okK tb ek k k = true) (hok : ∀ p ∈ es, okK tb ek k p.1 = true) (hn : k.names = [])
    (hf : findE ek k es 0 = none) : OpLaw P N o ⟨[(x, .mp n), (y, k), (z, v)], [(n, .map es)]⟩ .und [(n, some (.map (es ++ [(k, v)])))] [] := fun s M A φ a w hh hr _ hd => by
  obtain ⟨b, ents, clock, h1, h2, h3, h4, h5, h6⟩ := map_row hr hh.n hh.a
  have hrep := hr.ev hh.b
  have hval := hr.ev hh.c
  obtain ⟨ti, d, ht⟩ := ty_at htb hT
  have hu := ht.und
  have hdd : d = .map kt el := by
    have := ht.mp
    rw [hm] at this
    cases d <;> simp [mpOf] at this
    rename_i k' e'
    rw [this.1, this.2]
  subst hdd
  obtain ⟨r, g1, g2⟩ := run_findK htb hkt hq hrep w h5 hok
  have g3 := run_ckK htb hkt hq hkk hrep false w
  rw [hf] at g2
  cases g2
  have hrun : (execOp a.eval o).run P w = .ok .skip { w with heap := w.heap.setIfInBounds b (.map (ents.push { key := a.eval y, val := a.eval z, born := clock }) (clock + 1)) } := by
    unfold execOp
    simp only [ho, h1]
    simp [Instr.mapUpdate, run_underlying hu, MapKept.run_getObj_map h3, Result.andThen, g1, g3, MapKept.run_setObj_map _ h3]
  unfold Oper.wp
  rw [hrun]
  refine rel_obj hr hh.n h2 (fun w' hs hb => ?_) (.fz .und) hd
  refine ⟨b, _, _, h2, hr.lt_blk hh.n h2, hb, h4.push rfl, fun i q u en hi he => ?_⟩
  have h4s := h4.sz
  rw [Array.getElem?_push] at he
  by_cases hil : i = es.length
  · subst hil
    rw [if_pos h4s.symm] at he
    rw [List.getElem?_append_right (by omega)] at hi
    simp at hi he
    obtain ⟨rfl, rfl⟩ := hi
    subst he
    exact ⟨(rep_fz hrep hn).mono (fun _ _ h => h) hs, hval.mono (fun _ _ h => h) hs (fun _ h => h) fun _ _ => rfl⟩
  · rw [if_neg (by omega)] at he
    have hlt : i < es.length := by
      have := (List.getElem?_eq_some_iff.1 hi).1
      simp at this; omega
    rw [List.getElem?_append_left hlt] at hi
    obtain ⟨k1, k2⟩ := h6 i q u en hi he
    exact ⟨k1.mono (fun _ _ h => h) hs, k2.mono (fun _ _ h => h) hs (fun _ h => h) fun _ _ => rfl⟩
end

/-! ### Steps -/
theorem rounds_on {P : Program} {N : Env} {c : Code} {Q : Exit → S → Prop} {n : Nat} {s : S} (h : AWp P N c (AThen (ARounds P N c Q n) Q) s) : ARounds P N c Q (n + 1) s := h

theorem okk_map {α : Type} {tb : List Ty} {ek : Ty} {k : V} {L : List α} {f : α → V × V} (h : ∀ a, okK tb ek k (f a).1 = true) : ∀ p ∈ L.map f, okK tb ek k p.1 = true := fun x hx => by
  obtain ⟨a, _, rfl⟩ := List.mem_map.1 hx
  exact h a
section
variable {P : Program} {N : Env} {l r : List Oper} {o : Oper} {tm : List (Nat × V)} {st : List (Nat × Option Blk)} {nx nt : Nat} {tr : List Tr} {K : S → List Tr → Prop} {tb : List Ty} {d T : Nat} {t t' : TypeId} {x y z : Operand} {a b n : Int} {p q : List UInt8} {u v : Bool} {e ee ek : Ty} {m kt el : Nat} {kd : IntKind}
theorem x_eqlA {us vs : List V} {w : Bool} (htb : TbOk P tb) (k : ARun P N l K r ⟨(d, .bool w) :: tm, st, nx, nt⟩ (tr ++ [trOf l o ⟨[(x, .agg us), (y, .agg vs)], []⟩ []])) (ho : o.op = .binOp .eql t x y t' := by rfl) (hx : S.ev ⟨tm, st, nx, nt⟩ x = some (.agg us) := by rfl) (hy : S.ev ⟨tm, st, nx, nt⟩ y = some (.agg vs) := by rfl) (hg : guardV l o ⟨tm, st, nx, nt⟩ = some true := by rfl) (hd : o.dst = some d := by rfl) (hlt : Nat.blt d nt = true := by rfl) (hT' : nth tb t = some e := by rfl) (hk : Nat.beq e.knd 9 = true := by rfl) (hq : eqPlain P t = true := by kernel_rfl) (hok : okF tb us vs e.flds = true := by rfl) (h : (eqF us vs e.flds) = w := by first | assumption | rfl) : ARun P N l K (o :: r) ⟨tm, st, nx, nt⟩ tr := r_val hg hd hlt (law_eql_agg htb ho hT' hk hq hok h) (hT hx (hT hy h0)) k
theorem x_eqlAS {us vs : List V} {w : Bool} (htb : TbOk P tb) (k1 : w = true → ARun P N l K r ⟨(d, .bool true) :: tm, st, nx, nt⟩ (tr ++ [trOf l o ⟨[(x, .agg us), (y, .agg vs)], []⟩ []])) (k2 : w = false → ARun P N l K r ⟨(d, .bool false) :: tm, st, nx, nt⟩ (tr ++ [trOf l o ⟨[(x, .agg us), (y, .agg vs)], []⟩ []])) (ho : o.op = .binOp .eql t x y t' := by rfl) (hx : S.ev ⟨tm, st, nx, nt⟩ x = some (.agg us) := by rfl) (hy : S.ev ⟨tm, st, nx, nt⟩ y = some (.agg vs) := by rfl) (hg : guardV l o ⟨tm, st, nx, nt⟩ = some true := by rfl) (hd : o.dst = some d := by rfl) (hlt : Nat.blt d nt = true := by rfl) (hT' : nth tb t = some e := by rfl) (hk : Nat.beq e.knd 9 = true := by rfl) (hq : eqPlain P t = true := by kernel_rfl) (hok : okF tb us vs e.flds = true := by rfl) (h : (eqF us vs e.flds) = w := by rfl) : ARun P N l K (o :: r) ⟨tm, st, nx, nt⟩ tr := r_splitB hg hd hlt (law_eql_agg htb ho hT' hk hq hok h) (hT hx (hT hy h0)) k1 k2
theorem x_neqA {us vs : List V} {w : Bool} (htb : TbOk P tb) (k : ARun P N l K r ⟨(d, .bool w) :: tm, st, nx, nt⟩ (tr ++ [trOf l o ⟨[(x, .agg us), (y, .agg vs)], []⟩ []])) (ho : o.op = .binOp .neq t x y t' := by rfl) (hx : S.ev ⟨tm, st, nx, nt⟩ x = some (.agg us) := by rfl) (hy : S.ev ⟨tm, st, nx, nt⟩ y = some (.agg vs) := by rfl) (hg : guardV l o ⟨tm, st, nx, nt⟩ = some true := by rfl) (hd : o.dst = some d := by rfl) (hlt : Nat.blt d nt = true := by rfl) (hT' : nth tb t = some e := by rfl) (hk : Nat.beq e.knd 9 = true := by rfl) (hq : eqPlain P t = true := by kernel_rfl) (hok : okF tb us vs e.flds = true := by rfl) (h : (!eqF us vs e.flds) = w := by first | assumption | rfl) : ARun P N l K (o :: r) ⟨tm, st, nx, nt⟩ tr := r_val hg hd hlt (law_neq_agg htb ho hT' hk hq hok h) (hT hx (hT hy h0)) k
theorem x_neqAS {us vs : List V} {w : Bool} (htb : TbOk P tb) (k1 : w = true → ARun P N l K r ⟨(d, .bool true) :: tm, st, nx, nt⟩ (tr ++ [trOf l o ⟨[(x, .agg us), (y, .agg vs)], []⟩ []])) (k2 : w = false → ARun P N l K r ⟨(d, .bool false) :: tm, st, nx, nt⟩ (tr ++ [trOf l o ⟨[(x, .agg us), (y, .agg vs)], []⟩ []])) (ho : o.op = .binOp .neq t x y t' := by rfl) (hx : S.ev ⟨tm, st, nx, nt⟩ x = some (.agg us) := by rfl) (hy : S.ev ⟨tm, st, nx, nt⟩ y = some (.agg vs) := by rfl) (hg : guardV l o ⟨tm, st, nx, nt⟩ = some true := by rfl) (hd : o.dst = some d := by rfl) (hlt : Nat.blt d nt = true := by rfl) (hT' : nth tb t = some e := by rfl) (hk : Nat.beq e.knd 9 = true := by rfl) (hq : eqPlain P t = true := by kernel_rfl) (hok : okF tb us vs e.flds = true := by rfl) (h : (!eqF us vs e.flds) = w := by rfl) : ARun P N l K (o :: r) ⟨tm, st, nx, nt⟩ tr := r_splitB hg hd hlt (law_neq_agg htb ho hT' hk hq hok h) (hT hx (hT hy h0)) k1 k2
theorem x_mk (k : ARun P N l K r ⟨(d, .mp nx) :: tm, (nx, some (.map [])) :: st, nx + 1, nt⟩ (tr ++ [trOf l o ⟨[], []⟩ [(nx, some (.map []))]])) (ho : o.op = .makeMap T none := by rfl) (hg : guardV l o ⟨tm, st, nx, nt⟩ = some true := by rfl) (hd : o.dst = some d := by rfl) (hlt : Nat.blt d nt = true := by rfl) : ARun P N l K (o :: r) ⟨tm, st, nx, nt⟩ tr := r_new rfl hg hd hlt (law_makeMap ho) h0 k
theorem x_lookAt {es : List (V × V)} {kv q w : V} {i : Nat} (htb : TbOk P tb) (k : ARun P N l K r ⟨(d, w) :: tm, st, nx, nt⟩ (tr ++ [trOf l o ⟨[(x, .mp m), (y, kv)], [(m, .map es)]⟩ []])) (ho : o.op = .lookup T x y false := by rfl) (hx : S.ev ⟨tm, st, nx, nt⟩ x = some (.mp m) := by rfl) (hy : S.ev ⟨tm, st, nx, nt⟩ y = some (kv) := by rfl) (hB : S.blk ⟨tm, st, nx, nt⟩ m = some (.map es) := by rfl) (hg : guardV l o ⟨tm, st, nx, nt⟩ = some true := by rfl) (hd : o.dst = some d := by rfl) (hlt : Nat.blt d nt = true := by rfl) (hT' : nth tb T = some e := by rfl) (hm : e.mp = some (kt, el) := by rfl) (hkt : nth tb kt = some ek := by rfl) (hq : plainK P kt ek = true := by kernel_rfl) (hkk : okK tb ek kv kv = true := by rfl) (hok : ∀ p ∈ es, okK tb ek kv p.1 = true := by first | assumption | exact okk_map (fun _ => rfl) | exact (fun _ h => nomatch h)) (hf : findE ek kv es 0 = some i := by assumption) (hi : es[i]? = some (q, w) := by assumption) : ARun P N l K (o :: r) ⟨tm, st, nx, nt⟩ tr := r_val hg hd hlt (law_lookAt htb ho hT' hm hkt hq hkk hok hf hi) (hT hx (hT hy (hN hB h0))) k
theorem x_lookNo {es : List (V × V)} {kv w : V} (htb : TbOk P tb) (k : ARun P N l K r ⟨(d, w) :: tm, st, nx, nt⟩ (tr ++ [trOf l o ⟨[(x, .mp m), (y, kv)], [(m, .map es)]⟩ []])) (ho : o.op = .lookup T x y false := by rfl) (hx : S.ev ⟨tm, st, nx, nt⟩ x = some (.mp m) := by rfl) (hy : S.ev ⟨tm, st, nx, nt⟩ y = some (kv) := by rfl) (hB : S.blk ⟨tm, st, nx, nt⟩ m = some (.map es) := by rfl) (hg : guardV l o ⟨tm, st, nx, nt⟩ = some true := by rfl) (hd : o.dst = some d := by rfl) (hlt : Nat.blt d nt = true := by rfl) (hT' : nth tb T = some e := by rfl) (hm : e.mp = some (kt, el) := by rfl) (hkt : nth tb kt = some ek := by rfl) (hq : plainK P kt ek = true := by kernel_rfl) (hkk : okK tb ek kv kv = true := by rfl) (hok : ∀ p ∈ es, okK tb ek kv p.1 = true := by first | assumption | exact okk_map (fun _ => rfl) | exact (fun _ h => nomatch h)) (hf : findE ek kv es 0 = none := by first | assumption | rfl) (hel : nth tb el = some ee := by rfl) (hz : ee.zeroV = some w := by rfl) : ARun P N l K (o :: r) ⟨tm, st, nx, nt⟩ tr := r_val hg hd hlt (law_lookNo htb ho hT' hm hkt hq hkk hok hf hel hz) (hT hx (hT hy (hN hB h0))) k
theorem x_lookAtOk {es : List (V × V)} {kv q w : V} {i : Nat} (htb : TbOk P tb) (k : ARun P N l K r ⟨(d, .tup [w, .bool true]) :: tm, st, nx, nt⟩ (tr ++ [trOf l o ⟨[(x, .mp m), (y, kv)], [(m, .map es)]⟩ []])) (ho : o.op = .lookup T x y true := by rfl) (hx : S.ev ⟨tm, st, nx, nt⟩ x = some (.mp m) := by rfl) (hy : S.ev ⟨tm, st, nx, nt⟩ y = some (kv) := by rfl) (hB : S.blk ⟨tm, st, nx, nt⟩ m = some (.map es) := by rfl) (hg : guardV l o ⟨tm, st, nx, nt⟩ = some true := by rfl) (hd : o.dst = some d := by rfl) (hlt : Nat.blt d nt = true := by rfl) (hT' : nth tb T = some e := by rfl) (hm : e.mp = some (kt, el) := by rfl) (hkt : nth tb kt = some ek := by rfl) (hq : plainK P kt ek = true := by kernel_rfl) (hkk : okK tb ek kv kv = true := by rfl) (hok : ∀ p ∈ es, okK tb ek kv p.1 = true := by first | assumption | exact okk_map (fun _ => rfl) | exact (fun _ h => nomatch h)) (hf : findE ek kv es 0 = some i := by assumption) (hi : es[i]? = some (q, w) := by assumption) : ARun P N l K (o :: r) ⟨tm, st, nx, nt⟩ tr := r_val hg hd hlt (law_lookAtOk htb ho hT' hm hkt hq hkk hok hf hi) (hT hx (hT hy (hN hB h0))) k
theorem x_lookNoOk {es : List (V × V)} {kv w : V} (htb : TbOk P tb) (k : ARun P N l K r ⟨(d, .tup [w, .bool false]) :: tm, st, nx, nt⟩ (tr ++ [trOf l o ⟨[(x, .mp m), (y, kv)], [(m, .map es)]⟩ []])) (ho : o.op = .lookup T x y true := by rfl) (hx : S.ev ⟨tm, st, nx, nt⟩ x = some (.mp m) := by rfl) (hy : S.ev ⟨tm, st, nx, nt⟩ y = some (kv) := by rfl) (hB : S.blk ⟨tm, st, nx, nt⟩ m = some (.map es) := by rfl) (hg : guardV l o ⟨tm, st, nx, nt⟩ = some true := by rfl) (hd : o.dst = some d := by rfl) (hlt : Nat.blt d nt = true := by rfl) (hT' : nth tb T = some e := by rfl) (hm : e.mp = some (kt, el) := by rfl) (hkt : nth tb kt = some ek := by rfl) (hq : plainK P kt ek = true := by kernel_rfl) (hkk : okK tb ek kv kv = true := by rfl) (hok : ∀ p ∈ es, okK tb ek kv p.1 = true := by first | assumption | exact okk_map (fun _ => rfl) | exact (fun _ h => nomatch h)) (hf : findE ek kv es 0 = none := by first | assumption | rfl) (hel : nth tb el = some ee := by rfl) (hz : ee.zeroV = some w := by rfl) : ARun P N l K (o :: r) ⟨tm, st, nx, nt⟩ tr := r_val hg hd hlt (law_lookNoOk htb ho hT' hm hkt hq hkk hok hf hel hz) (hT hx (hT hy (hN hB h0))) k
theorem x_putNew {α : Type} (f : α → V × V) {L : List α} (a1 : α) (htb : TbOk P tb) (k : ARun P N l K r ⟨tm, (m, some (.map ((L ++ [a1]).map f))) :: st, nx, nt⟩ (tr ++ [trOf l o ⟨[(x, .mp m), (y, (f a1).1), (z, (f a1).2)], [(m, .map (L.map f))]⟩ [(m, some (.map ((L ++ [a1]).map f)))]])) (ho : o.op = .mapUpdate T x y z := by rfl) (hx : S.ev ⟨tm, st, nx, nt⟩ x = some (.mp m) := by rfl) (hy : S.ev ⟨tm, st, nx, nt⟩ y = some ((f a1).1) := by rfl) (hz : S.ev ⟨tm, st, nx, nt⟩ z = some ((f a1).2) := by rfl) (hB : S.blk ⟨tm, st, nx, nt⟩ m = some (.map (L.map f)) := by rfl) (hg : guardV l o ⟨tm, st, nx, nt⟩ = some true := by rfl) (hd : o.dst = none := by rfl) (hT' : nth tb T = some e := by rfl) (hm : e.mp = some (kt, el) := by rfl) (hkt : nth tb kt = some ek := by rfl) (hq : plainK P kt ek = true := by kernel_rfl) (hkk : okK tb ek (f a1).1 (f a1).1 = true := by rfl) (hok : ∀ p ∈ L.map f, okK tb ek (f a1).1 p.1 = true := by exact okk_map (fun _ => rfl)) (hn : (f a1).1.names = [] := by rfl) (hf : findE ek (f a1).1 (L.map f) 0 = none := by assumption) : ARun P N l K (o :: r) ⟨tm, st, nx, nt⟩ tr := r_set hg hd (by have := law_putNew (P := P) (N := N) htb ho hT' hm hkt hq hkk hok hn hf (v := (f a1).2) (n := m); simpa using this) (hT hx (hT hy (hT hz (hN hB h0)))) k
theorem x_slFf {α : Type} {L : List α} {f : α → V} (htb : TbOk P tb) (k : ARun P N l K r ⟨(d, .fro ((L.drop a.toNat).map f)) :: tm, st, nx, nt⟩ (tr ++ [trOf l o ⟨[(x, .fro (L.map f)), (y, .int kd a)], []⟩ []])) (ho : o.op = .slice T x (some y) none none := by rfl) (hx : S.ev ⟨tm, st, nx, nt⟩ x = some (.fro (L.map f)) := by rfl) (hy : S.ev ⟨tm, st, nx, nt⟩ y = some (.int kd a) := by rfl) (hg : guardV l o ⟨tm, st, nx, nt⟩ = some true := by rfl) (hd : o.dst = some d := by rfl) (hlt : Nat.blt d nt = true := by rfl) (hT' : nth tb T = some e := by rfl) (hs : e.sl = some el := by rfl) (hE : nth tb el = some ee := by rfl) (hc : ∀ a, (f a).cells.length = ee.size := by exact fun _ => rfl) (h0' : 0 ≤ a := by omega) (h1 : a ≤ L.length := by omega) : ARun P N l K (o :: r) ⟨tm, st, nx, nt⟩ tr := r_val hg hd hlt (by have := law_slice_from (P := P) (N := N) (k := kd) htb ho hT' hs hE (fun x hx => by obtain ⟨a, _, rfl⟩ := List.mem_map.1 hx; exact hc a) h0' (by simpa using h1); simpa using this) (hT hx (hT hy h0)) k
theorem x_slFt {α : Type} {L : List α} {f : α → V} (htb : TbOk P tb) (k : ARun P N l K r ⟨(d, .fro ((L.take b.toNat).map f)) :: tm, st, nx, nt⟩ (tr ++ [trOf l o ⟨[(x, .fro (L.map f)), (z, .int kd b)], []⟩ []])) (ho : o.op = .slice T x none (some z) none := by rfl) (hx : S.ev ⟨tm, st, nx, nt⟩ x = some (.fro (L.map f)) := by rfl) (hz : S.ev ⟨tm, st, nx, nt⟩ z = some (.int kd b) := by rfl) (hg : guardV l o ⟨tm, st, nx, nt⟩ = some true := by rfl) (hd : o.dst = some d := by rfl) (hlt : Nat.blt d nt = true := by rfl) (hT' : nth tb T = some e := by rfl) (hs : e.sl = some el := by rfl) (hE : nth tb el = some ee := by rfl) (hc : ∀ a, (f a).cells.length = ee.size := by exact fun _ => rfl) (h0' : 0 ≤ b := by omega) (h1 : b ≤ L.length := by omega) : ARun P N l K (o :: r) ⟨tm, st, nx, nt⟩ tr := r_val hg hd hlt (by have := law_slice_to (P := P) (N := N) (k := kd) htb ho hT' hs hE (fun x hx => by obtain ⟨a, _, rfl⟩ := List.mem_map.1 hx; exact hc a) h0' (by simpa using h1); simpa using this) (hT hx (hT hz h0)) k
theorem x_slFm {α : Type} {L : List α} {f : α → V} {kd' : IntKind} (htb : TbOk P tb) (k : ARun P N l K r ⟨(d, .fro (((L.take b.toNat).drop a.toNat).map f)) :: tm, st, nx, nt⟩ (tr ++ [trOf l o ⟨[(x, .fro (L.map f)), (y, .int kd a), (z, .int kd' b)], []⟩ []])) (ho : o.op = .slice T x (some y) (some z) none := by rfl) (hx : S.ev ⟨tm, st, nx, nt⟩ x = some (.fro (L.map f)) := by rfl) (hy : S.ev ⟨tm, st, nx, nt⟩ y = some (.int kd a) := by rfl) (hz : S.ev ⟨tm, st, nx, nt⟩ z = some (.int kd' b) := by rfl) (hg : guardV l o ⟨tm, st, nx, nt⟩ = some true := by rfl) (hd : o.dst = some d := by rfl) (hlt : Nat.blt d nt = true := by rfl) (hT' : nth tb T = some e := by rfl) (hs : e.sl = some el := by rfl) (hE : nth tb el = some ee := by rfl) (hc : ∀ a, (f a).cells.length = ee.size := by exact fun _ => rfl) (h0' : 0 ≤ a := by omega) (h1 : a ≤ b := by omega) (h2 : b ≤ L.length := by omega) : ARun P N l K (o :: r) ⟨tm, st, nx, nt⟩ tr := r_val hg hd hlt (by have := law_slice_mid (P := P) (N := N) (k := kd) (k' := kd') htb ho hT' hs hE (fun x hx => by obtain ⟨a, _, rfl⟩ := List.mem_map.1 hx; exact hc a) h0' h1 (by simpa using h2); simpa using this) (hT hx (hT hy (hT hz h0))) k
def rowsL (s : S) : List Nat → Option (List Blk)
  | [] => some []
  | n :: r => match s.blk n, rowsL s r with
    | some b, some q => some (b :: q)
    | _, _ => none
theorem rowsL_at {s : S} : ∀ {ns : List Nat} {bs : List Blk}, rowsL s ns = some bs → ∀ p ∈ zipB ns bs, s.blk p.1 = some p.2
  | [], bs, h, p, hp => by rw [rowsL] at h; cases h; simp [zipB] at hp
  | n :: r, bs, h, p, hp => by
    rw [rowsL] at h
    split at h <;> cases h
    rename_i b q hb hq
    rw [zipB] at hp
    rcases List.mem_cons.1 hp with rfl | hp
    · exact hb
    · exact rowsL_at hq p hp
theorem x_m {f nx' : Nat} {xs : Array Operand} {ts : Array TypeId} {args vs : List V} {sts bs : List Blk} {rv r2 : V} {sts' us : List (Option Blk)} {up st2 : List (Nat × Option Blk)} (ns news : List Nat) (h : MCallsG P N.g f args sts rv sts') (k : ARun P N l K r ⟨(d, r2) :: tm, st2, nx', nt⟩ (tr ++ [trOf l o ⟨tsOf xs.toList vs, zipB ns bs⟩ up])) (ho : o.op = .call { callee := .value (.func f), args := xs, argTypes := ts } := by rfl) (he : evL ⟨tm, st, nx, nt⟩ xs.toList = some vs := by rfl) (hargs : renOL ns args = some vs := by rfl) (hg : guardV l o ⟨tm, st, nx, nt⟩ = some true := by rfl) (hd : o.dst = some d := by rfl) (hlt : Nat.blt d nt = true := by rfl) (hb : hasBody P f = true := by kernel_rfl) (_hnx : nx + news.length = nx' := by rfl) (hbs : rowsL ⟨tm, st, nx, nt⟩ ns = some bs := by rfl) (hst : RenBs ns sts bs := by repeat' first | exact RenBs.nil | apply RenBs.cons | exact RenB.same (nl_map fun _ => rfl) | exact RenB.ren rfl | exact RenB.sit | exact RenB.map (map_nl fun _ => rfl) | exact RenB.map (by assumption)) (hlen : Nat.beq ns.length sts.length = true := by rfl) (hdis : distinctB (ns ++ news) = true := by rfl) (hlen' : Nat.beq (ns ++ news).length sts'.length = true := by rfl) (hr2 : renO (ns ++ news) rv = some r2 := by rfl) (hus : RenOs (ns ++ news) sts' us := by repeat' first | exact RenOs.nil | apply RenOs.no | apply RenOs.on | exact RenB.same (nl_map fun _ => rfl) | exact RenB.ren rfl | exact RenB.sit | exact RenB.map (map_nl fun _ => rfl) | exact RenB.map (by assumption)) (hup : zipO (ns ++ news) us = some up := by rfl) (hst2 : appO up st = some st2 := by rfl) (hnw : newsOk nx nx' news = true := by rfl) : ARun P N l K (o :: r) ⟨tm, st, nx, nt⟩ tr := r_m (law_mcall ns news ho (enters hb) h hargs (ev_len he) hst hlen hdis hlen' hr2 hus hup) nx' hnw hg hd hlt (ts_of he (rowsL_at hbs)) hst2 k
theorem x_m0 {f nx' : Nat} {xs : Array Operand} {ts : Array TypeId} {args vs : List V} {sts bs : List Blk} {rv r2 : V} {sts' us : List (Option Blk)} {up st2 : List (Nat × Option Blk)} (ns news : List Nat) (h : MCallsG P N.g f args sts rv sts') (k : ARun P N l K r ⟨tm, st2, nx', nt⟩ (tr ++ [trOf l o ⟨tsOf xs.toList vs, zipB ns bs⟩ up])) (ho : o.op = .call { callee := .value (.func f), args := xs, argTypes := ts } := by rfl) (he : evL ⟨tm, st, nx, nt⟩ xs.toList = some vs := by rfl) (hargs : renOL ns args = some vs := by rfl) (hg : guardV l o ⟨tm, st, nx, nt⟩ = some true := by rfl) (hd : o.dst = none := by rfl) (hb : hasBody P f = true := by kernel_rfl) (_hnx : nx + news.length = nx' := by rfl) (hbs : rowsL ⟨tm, st, nx, nt⟩ ns = some bs := by rfl) (hst : RenBs ns sts bs := by repeat' first | exact RenBs.nil | apply RenBs.cons | exact RenB.same (nl_map fun _ => rfl) | exact RenB.ren rfl | exact RenB.sit | exact RenB.map (map_nl fun _ => rfl) | exact RenB.map (by assumption)) (hlen : Nat.beq ns.length sts.length = true := by rfl) (hdis : distinctB (ns ++ news) = true := by rfl) (hlen' : Nat.beq (ns ++ news).length sts'.length = true := by rfl) (hr2 : renO (ns ++ news) rv = some r2 := by rfl) (hus : RenOs (ns ++ news) sts' us := by repeat' first | exact RenOs.nil | apply RenOs.no | apply RenOs.on | exact RenB.same (nl_map fun _ => rfl) | exact RenB.ren rfl | exact RenB.sit | exact RenB.map (map_nl fun _ => rfl) | exact RenB.map (by assumption)) (hup : zipO (ns ++ news) us = some up := by rfl) (hst2 : appO up st = some st2 := by rfl) (hnw : newsOk nx nx' news = true := by rfl) : ARun P N l K (o :: r) ⟨tm, st, nx, nt⟩ tr := r_m0 (law_mcall ns news ho (enters hb) h hargs (ev_len he) hst hlen hdis hlen' hr2 hus hup) nx' hnw hg hd (ts_of he (rowsL_at hbs)) hst2 k
def pubR (s : S) : List Nat → List (Option Blk) → Option (List (Option Blk))
  | [], [] => some []
  | _ :: ms, none :: l => match pubR s ms l with
    | some q => some (none :: q)
    | none => none
  | m :: ms, some _ :: l => match s.blk m, pubR s ms l with
    | some b, some q => some (some b :: q)
    | _, _ => none
  | _, _ => none
theorem pub_of {s : S} : ∀ {ms : List Nat} {l us : List (Option Blk)}, pubR s ms l = some us → Abs.Pub s ms us
  | [], [], us, h => by rw [pubR] at h; cases h; exact .nil
  | m :: ms, none :: l, us, h => by
    rw [pubR] at h
    split at h <;> cases h
    rename_i q hq
    exact .no (pub_of hq)
  | m :: ms, some b0 :: l, us, h => by
    rw [pubR] at h
    split at h <;> cases h
    rename_i b q hb hq
    exact .on hb (pub_of hq)
  | [], _ :: _, us, h => by simp [pubR] at h
  | _ :: _, [], us, h => by simp [pubR] at h
theorem x_mret {rs : List ResultVar} {s : S} {w : V} {vs : List V} {us : List (Option Blk)} {sts' : List (Option Blk)} {k0 : Nat} (ms : List Nat) (h3 : renO ms w = some (pack vs)) (h4 : RenOs ms sts' us) (h1 : okNames ms k0 s.nx = true := by rfl) (h2 : resVs tb s rs = some vs := by rfl) (h5 : pubR s ms sts' = some us := by rfl) : MEnd tb rs k0 w sts' .ret s := ⟨ms, vs, us, h1, h2, h3, h4, pub_of h5⟩
theorem x_mnor {rs : List ResultVar} {s : S} {w : V} {vs : List V} {us : List (Option Blk)} {sts' : List (Option Blk)} {k0 : Nat} (ms : List Nat) (h3 : renO ms w = some (pack vs)) (h4 : RenOs ms sts' us) (h1 : okNames ms k0 s.nx = true := by rfl) (h2 : resVs tb s rs = some vs := by rfl) (h5 : pubR s ms sts' = some us := by rfl) : MEnd tb rs k0 w sts' .normal s := ⟨ms, vs, us, h1, h2, h3, h4, pub_of h5⟩
end
end Go.Proofs.YtnpokgjehapmjaaDoor.Abs
end

section
namespace Go.Proofs.YtnpokgjehapmjaaDoor.Abs
open Go.RowKit Mem
section
variable {p q q' : Prop} {α : Prop}
/-- A step of control. -/
theorem zt (k : q) (h : q → p := by intro hk; first | (with_reducible first | exact awp_seq hk | exact awp_region hk | exact awp_draw mixed hk | exact then_n hk | exact awp_skip hk | exact awp_block hk | exact awp_exit hk | exact awp_ret hk | exact awp_label hk | exact then_exit hk | exact then_ret hk | exact blk_n hk | exact blk_ret hk | exact blk_exit hk | exact blk_other rfl hk | exact then_k hk) | exact awp_true rfl hk | exact awp_false rfl hk) : p := h k
/-- The end. -/
theorem zr (k : q) (h : q → p := by intro hk; first | exact x_ret hk | exact x_nor hk) : p := h k
/-- Many steps at once, or none left. -/
theorem zo (k : q) (h : q → p := by intro hk; first | exact x_far [] tb_ok rfl hk | exact r_nil hk | exact r_nild (by kernel_rfl) hk) : p := h k
theorem zn (k : q) (h : q → p := by intro hk; first | exact r_nil hk | exact r_nild (by kernel_rfl) hk) : p := h k
theorem zA (k : q) (h : q → p := by intro hk; first | exact x_addE hk | exact x_add hk | exact x_subE hk | exact x_sub hk | exact x_mulE hk | exact x_mul hk | exact x_cat hk) : p := h k
theorem zL (k : q) (h : q → p := by intro hk; first | exact x_lenF tb_ok hk | exact x_lenO tb_ok hk | exact x_lenN tb_ok hk | exact x_lenS hk) : p := h k
theorem zI (k : q) (h : q → p := by intro hk; first | exact x_ixS tb_ok hk | exact x_ixA tb_ok hk | exact x_iaF tb_ok hk | exact x_iaO tb_ok hk | exact x_iaA tb_ok hk | exact x_iaAF tb_ok hk) : p := h k
theorem zS (k : q) (h : q → p := by intro hk; first | exact x_slSf tb_ok hk | exact x_slSt tb_ok hk | exact x_slSm tb_ok hk | exact x_slFf tb_ok hk | exact x_slFt tb_ok hk | exact x_slFm tb_ok hk) : p := h k
theorem zB (k : q) (h : q → p := by intro hk; first | exact x_bytes tb_ok hk | exact x_cv64 tb_ok hk) : p := h k
theorem zM (k : q) (h : q → p := by intro hk; first | exact x_mk hk | exact x_lookAtOk tb_ok hk | exact x_lookNoOk tb_ok hk | exact x_lookAt tb_ok hk | exact x_lookNo tb_ok hk) : p := h k
theorem zc1 (k : q) (h : q → p := by intro hk; first | exact x_lssT hk | exact x_lssF hk) : p := h k
theorem zc2 (k : q) (h : q → p := by intro hk; first | exact x_leqT hk | exact x_leqF hk) : p := h k
theorem zc3 (k : q) (h : q → p := by intro hk; first | exact x_gtrT hk | exact x_gtrF hk) : p := h k
theorem zc4 (k : q) (h : q → p := by intro hk; first | exact x_geqT hk | exact x_geqF hk) : p := h k
theorem zc5 (k : q) (h : q → p := by intro hk; first | exact x_eqlT hk | exact x_eqlF hk | exact x_eqlB hk | exact x_eqlST hk | exact x_eqlSF hk | exact x_eqlI hk | exact x_eqlN hk | exact x_eqlA tb_ok hk) : p := h k
theorem zc6 (k : q) (h : q → p := by intro hk; first | exact x_neqT hk | exact x_neqF hk | exact x_neqB hk | exact x_neqST hk | exact x_neqSF hk | exact x_neqI hk | exact x_neqN hk | exact x_neqA tb_ok hk) : p := h k
theorem zs1 (k : q) (k' : q') (h : q → q' → p := by intro hk hl; exact x_lss hk hl) : p := h k k'
theorem zs2 (k : q) (k' : q') (h : q → q' → p := by intro hk hl; exact x_leq hk hl) : p := h k k'
theorem zs3 (k : q) (k' : q') (h : q → q' → p := by intro hk hl; exact x_gtr hk hl) : p := h k k'
theorem zs4 (k : q) (k' : q') (h : q → q' → p := by intro hk hl; exact x_geq hk hl) : p := h k k'
theorem zs5 (k : q) (k' : q') (h : q → q' → p := by intro hk hl; first | exact x_eql hk hl | exact x_eqlS hk hl | exact x_eqlAS tb_ok hk hl) : p := h k k'
theorem zs6 (k : q) (k' : q') (h : q → q' → p := by intro hk hl; first | exact x_neq hk hl | exact x_neqS hk hl | exact x_neqAS tb_ok hk hl) : p := h k k'
/-- A call by its contract. -/
theorem zk (c : α) (k : q) (h : α → q → p := by intro hc hk; first | exact x_call (hc _) hk | exact x_call hc hk) : p := h c k
end
end Go.Proofs.YtnpokgjehapmjaaDoor.Abs
end

section
namespace Go.Proofs.YtnpokgjehapmjaaDoor.SixtyQ
open BitsP SixtyP

def place (c : UInt8) : Nat := abc.idxOf c
theorem u8_all (p : UInt8 → Bool) (h : ∀ m : Fin 256, p (UInt8.ofNat m.val) = true) (c : UInt8) : p c = true := by
  have := h ⟨c.toNat, c.toNat_lt⟩
  simpa using this
theorem place_letter (n : Nat) (h : n < 64) : place (letter n) = n := by
  have key : ∀ m : Fin 64, place (letter m.val) = m.val := by decide +kernel
  exact key ⟨n, h⟩
theorem letter_place (c : UInt8) (h : place c < 64) : letter (place c) = c := by
  have := u8_all (fun c => !decide (place c < 64) || letter (place c) == c) (by decide +kernel) c
  simpa [h] using this
theorem index_place (c : UInt8) : Lib.indexByte abc c = if place c < 64 then (place c : Int) else -1 := by
  have := u8_all (fun c => Lib.indexByte abc c == if place c < 64 then (place c : Int) else -1) (by decide +kernel) c
  simpa using this
def known (t : List UInt8) : Bool := t.all fun c => decide (place c < 64)
def dbits (t : List UInt8) : List Nat := t.flatMap fun c => bitsOf (place c) 6
theorem dbits_cons (c : UInt8) (t : List UInt8) : dbits (c :: t) = bitsOf (place c) 6 ++ dbits t := rfl
theorem dbits_app (a b : List UInt8) : dbits (a ++ b) = dbits a ++ dbits b := by simp [dbits]
theorem dbits_len (t : List UInt8) : (dbits t).length = 6 * t.length := by
  induction t with
  | nil => rfl
  | cons c l ih => rw [dbits_cons, List.length_append, bitsOf_len, ih, List.length_cons]; omega
theorem dbits_bin (t : List UInt8) : Bin (dbits t) := by
  intro b hb
  simp only [dbits, List.mem_flatMap] at hb
  obtain ⟨c, _, hb⟩ := hb
  exact bitsOf_bin _ _ b hb
theorem enc6_dbits (t : List UInt8) (h : known t = true) : enc6 (dbits t) = t := by
  induction t with
  | nil => rfl
  | cons c l ih =>
    simp only [known, List.all_cons, Bool.and_eq_true, decide_eq_true_eq] at h
    rw [dbits_cons, enc6_app _ _ (bitsOf_len _ _), num_bitsOf, Nat.mod_eq_of_lt (by simpa using h.1), letter_place c h.1, ih h.2]
/-- Six bits' number, and back. -/
theorem bits_num (l : List Nat) (h : Bin l) : bitsOf (num l) l.length = l := by
  revert h
  refine snoc_ind (p := fun l => Bin l → bitsOf (num l) l.length = l) (fun _ => rfl) (fun l b ih h => ?_) l
  have h1 := ih h.left
  have h2 : b < 2 := h b (by simp)
  have key : ∀ (w n b : Nat), b < 2 → bitsOf (2 * n + b) (w + 1) = bitsOf n w ++ [b] := by
    intro w
    induction w with
    | zero => intro n b hb; simp [bitsOf]; omega
    | succ w ihw =>
      intro n b hb
      rw [bitsOf, ihw n b hb, bitsOf]
      simp only [List.cons_append, List.cons.injEq, and_true]
      rw [Nat.pow_succ, Nat.mul_comm (2 ^ w) 2, ← Nat.div_div_eq_div_mul]
      congr 2; omega
  rw [num_snoc, List.length_append, List.length_singleton, key _ _ _ h2, h1]
def pad6 (l : List Nat) : List Nat := l ++ List.replicate ((6 - l.length % 6) % 6) 0
theorem num_noughts (l : List Nat) (k : Nat) : num (l ++ List.replicate k 0) = num l * 2 ^ k := by
  induction k with
  | zero => simp
  | succ k ih => rw [List.replicate_succ', ← List.append_assoc, num_snoc, ih, Nat.pow_succ]; rw [Nat.add_zero, Nat.mul_comm 2, Nat.mul_assoc]
theorem bin_pad (l : List Nat) (k : Nat) (h : Bin l) : Bin (l ++ List.replicate k 0) := h.app fun b hb => by
  rw [(List.mem_replicate.1 hb).2]; omega
/-- One letter of a few bits. -/
theorem enc6_few (l : List Nat) (h0 : l ≠ []) (h : l.length ≤ 6) : enc6 l = [letter (num (l ++ List.replicate (6 - l.length) 0))] := by
  have hl : 0 < l.length := List.length_pos_iff.2 h0
  rw [enc6_step l h0, Nat.min_eq_right h, List.take_length, List.drop_length, num_noughts]; rfl
theorem enc6_pad : ∀ (n : Nat) (l : List Nat), l.length ≤ n → enc6 (pad6 l) = enc6 l
  | 0, l, h => by
    obtain rfl : l = [] := List.eq_nil_of_length_eq_zero (by omega)
    rfl
  | n + 1, l, h => by
    by_cases h0 : l = []
    · subst h0; rfl
    · have hl : 0 < l.length := List.length_pos_iff.2 h0
      by_cases h6 : l.length < 6
      · have e : (6 - l.length % 6) % 6 = 6 - l.length := by omega
        unfold pad6
        rw [e, enc6_few l h0 (by omega), enc6_few _ (by simp [h0]) (by simp; omega)]
        simp only [List.length_append, List.length_replicate]
        rw [show 6 - (l.length + (6 - l.length)) = 0 from by omega]; simp
      · have ht : (l.take 6).length = 6 := by rw [List.length_take]; omega
        have hs : l = l.take 6 ++ l.drop 6 := (List.take_append_drop 6 l).symm
        have e : pad6 l = l.take 6 ++ pad6 (l.drop 6) := by
          unfold pad6
          rw [← List.append_assoc, ← hs, List.length_drop]; congr 2; omega
        rw [e, enc6_app _ _ ht, enc6_pad n (l.drop 6) (by rw [List.length_drop]; omega)]
        conv => { rhs; rw [hs, enc6_app _ _ ht] }
theorem dec6 : ∀ (n : Nat) (l : List Nat), l.length ≤ n → Bin l → known (enc6 l) = true ∧ dbits (enc6 l) = pad6 l
  | 0, l, h, hb => by
    obtain rfl : l = [] := List.eq_nil_of_length_eq_zero (by omega)
    exact ⟨rfl, rfl⟩
  | n + 1, l, h, hb => by
    by_cases h0 : l = []
    · subst h0; exact ⟨rfl, rfl⟩
    · have hl : 0 < l.length := List.length_pos_iff.2 h0
      have one : ∀ m : List Nat, Bin m → m.length = 6 → place (letter (num m)) < 64 ∧ bitsOf (place (letter (num m))) 6 = m := fun m hm h6 => by
        have h1 := num_lt hm
        rw [h6] at h1
        have h2 := bits_num m hm
        rw [h6] at h2
        rw [place_letter _ (by simpa using h1)]
        exact ⟨by simpa using h1, h2⟩
      by_cases h6 : l.length < 6
      · have e : (6 - l.length % 6) % 6 = 6 - l.length := by omega
        obtain ⟨o1, o2⟩ := one (l ++ List.replicate (6 - l.length) 0) (bin_pad l _ hb) (by simp; omega)
        rw [enc6_few l h0 (by omega)]
        unfold pad6
        rw [e]
        refine ⟨by simp [known, o1], ?_⟩
        rw [dbits_cons, o2]; simp [dbits]
      · have ht : (l.take 6).length = 6 := by rw [List.length_take]; omega
        have hs : l = l.take 6 ++ l.drop 6 := (List.take_append_drop 6 l).symm
        have e : pad6 l = l.take 6 ++ pad6 (l.drop 6) := by
          unfold pad6
          rw [← List.append_assoc, ← hs, List.length_drop]; congr 2; omega
        have hb' := hb
        rw [hs] at hb'
        obtain ⟨o1, o2⟩ := one (l.take 6) hb'.left ht
        obtain ⟨i1, i2⟩ := dec6 n (l.drop 6) (by rw [List.length_drop]; omega) hb'.right
        have e2 : enc6 l = letter (num (l.take 6)) :: enc6 (l.drop 6) := by
          conv => { lhs; rw [hs, enc6_app _ _ ht] }
        rw [e2, e]
        refine ⟨?_, by rw [dbits_cons, o2, i2]⟩
        unfold known at i1 ⊢
        rw [List.all_cons, i1, decide_eq_true o1]; rfl
/-- What Read says. -/
def readF (t : List UInt8) : List UInt8 × Nat :=
  if known t = false then ([], 1)
  else if t.length % 4 = 1 then ([], 1)
  else if 400 < t.length * 6 / 8 then ([], 2)
  else if num ((dbits t).drop (8 * (t.length * 6 / 8))) ≠ 0 then ([], 1)
  else ((packB ((dbits t).take (8 * (t.length * 6 / 8)))).map UInt8.ofNat, 0)
theorem tbits_app (a b : List UInt8) : tbits (a ++ b) = tbits a ++ tbits b := by simp [tbits]
theorem byteAt_num (l : List Nat) (j : Nat) (h : 8 * j + 8 ≤ l.length) : byteAt l j = num ((l.drop (8 * j)).take 8) := by
  have e : ∀ i, i < 8 → l.getD (8 * j + i) 0 = ((l.drop (8 * j)).take 8).getD i 0 := fun i hi => by
    simp only [List.getD_eq_getElem?_getD]
    rw [List.getElem?_take_of_lt hi, List.getElem?_drop]
  have hl : ((l.drop (8 * j)).take 8).length = 8 := by rw [List.length_take, List.length_drop]; omega
  unfold byteAt
  rw [show 8 * j = 8 * j + 0 from rfl, e 0 (by omega), Nat.add_zero, e 1 (by omega), e 2 (by omega), e 3 (by omega), e 4 (by omega), e 5 (by omega), e 6 (by omega), e 7 (by omega)]
  generalize (l.drop (8 * j)).take 8 = m at hl
  match m, hl with
  | [a, b, c, d, e, f, g, h], _ => simp [num]; omega
theorem pack_tbits (s : List UInt8) : (packB (tbits s)).map UInt8.ofNat = s := by
  have hl := tbits_len s
  apply List.ext_getElem
  · simp [packB_len, hl]; omega
  · intro i h1 h2
    have h3 : (tbits s).drop (8 * i) = tbits (s.drop i) := by
      conv => { lhs; rw [← List.take_append_drop i s, tbits_app] }
      rw [List.drop_left' (by rw [tbits_len, List.length_take]; omega)]
    simp only [packB, List.getElem_map, List.getElem_range]
    rw [byteAt_num _ _ (by omega), h3, List.drop_eq_getElem_cons h2]
    have h4 : tbits (s[i] :: s.drop (i + 1)) = bitsOf s[i].toNat 8 ++ tbits (s.drop (i + 1)) := rfl
    rw [h4, List.take_left' (bitsOf_len _ _), num_bitsOf, Nat.mod_eq_of_lt (by simpa using s[i].toNat_lt)]
    simp
theorem tbits_packed (l : List Nat) (k : Nat) (hb : Bin l) (h : l.length = 8 * k) : tbits ((packB l).map UInt8.ofNat) = l := by
  have key : ∀ (k : Nat) (l : List Nat), Bin l → l.length = 8 * k → ∃ s : List UInt8, l = tbits s := by
    intro k
    induction k with
    | zero => intro l _ h; exact ⟨[], List.eq_nil_of_length_eq_zero (by omega)⟩
    | succ k ih =>
      intro l hb h
      have ht : (l.take 8).length = 8 := by rw [List.length_take]; omega
      have hs : l = l.take 8 ++ l.drop 8 := (List.take_append_drop 8 l).symm
      rw [hs] at hb
      obtain ⟨s, hs2⟩ := ih (l.drop 8) hb.right (by rw [List.length_drop]; omega)
      have h1 := num_lt hb.left
      have h2 := bits_num _ hb.left
      rw [ht] at h1 h2
      refine ⟨UInt8.ofNat (num (l.take 8)) :: s, ?_⟩
      have e : tbits (UInt8.ofNat (num (l.take 8)) :: s) = bitsOf (UInt8.ofNat (num (l.take 8))).toNat 8 ++ tbits s := rfl
      rw [e, UInt8.toNat_ofNat', Nat.mod_eq_of_lt (by simpa using h1), h2, ← hs2, ← hs]
  obtain ⟨s, rfl⟩ := key k l hb h
  rw [pack_tbits]
/-- What is written is read as it was. -/
theorem read_write (s : List UInt8) (h : s.length ≤ 400) : readF (enc6 (tbits s)) = (s, 0) ∧ (enc6 (tbits s)).length = (8 * s.length + 5) / 6 := by
  have hl := tbits_len s
  have hel := enc6_len _ (tbits s) (Nat.le_refl _)
  rw [hl] at hel
  obtain ⟨k, d⟩ := dec6 _ (tbits s) (Nat.le_refl _) (tbits_bin s)
  refine ⟨?_, hel⟩
  unfold readF
  rw [k, d, hel]
  have e : (8 * s.length + 5) / 6 * 6 / 8 = s.length := by omega
  rw [e, if_neg (by decide), if_neg (by omega), if_neg (by omega)]
  unfold pad6
  rw [List.drop_left' (by omega), List.take_left' (by omega), pack_tbits, if_neg]
  have := num_noughts [] ((6 - (tbits s).length % 6) % 6)
  simp [num] at this
  simp [num, this]
theorem num_zero (l : List Nat) (h : num l = 0) : l = List.replicate l.length 0 := by
  revert h
  refine snoc_ind (p := fun l => num l = 0 → l = List.replicate l.length 0) (fun _ => rfl) (fun l b ih h => ?_) l
  rw [num_snoc] at h
  have h1 := ih (by omega)
  have h2 : b = 0 := by omega
  subst h2
  rw [List.length_append, List.length_singleton, List.replicate_succ', ← h1]
/-- And what is read is written as it stood. -/
theorem write_read (t : List UInt8) (h : (readF t).2 = 0) : (readF t).1.length ≤ 400 ∧ enc6 (tbits (readF t).1) = t := by
  unfold readF at h ⊢
  by_cases h1 : known t = false
  · rw [if_pos h1] at h; cases h
  · rw [if_neg h1] at h ⊢
    by_cases h2 : t.length % 4 = 1
    · rw [if_pos h2] at h; cases h
    · rw [if_neg h2] at h ⊢
      by_cases h3 : 400 < t.length * 6 / 8
      · rw [if_pos h3] at h; cases h
      · rw [if_neg h3] at h ⊢
        by_cases h4 : num ((dbits t).drop (8 * (t.length * 6 / 8))) ≠ 0
        · rw [if_pos h4] at h; cases h
        · rw [if_neg h4]
          have hk : known t = true := by simpa using h1
          have hn : num ((dbits t).drop (8 * (t.length * 6 / 8))) = 0 := by omega
          have hl := dbits_len t
          have hz := num_zero _ hn
          rw [List.length_drop, hl] at hz
          have ht : ((dbits t).take (8 * (t.length * 6 / 8))).length = 8 * (t.length * 6 / 8) := by rw [List.length_take, hl]; omega
          have hb := dbits_bin t
          have hs : dbits t = (dbits t).take (8 * (t.length * 6 / 8)) ++ (dbits t).drop (8 * (t.length * 6 / 8)) := (List.take_append_drop _ _).symm
          have hb' := hb
          rw [hs] at hb'
          have hp : pad6 ((dbits t).take (8 * (t.length * 6 / 8))) = dbits t := by
            conv => { rhs; rw [hs, hz] }
            unfold pad6
            rw [ht]; congr 2
            have hq : t.length % 4 = 0 ∨ t.length % 4 = 2 ∨ t.length % 4 = 3 := by omega
            rcases hq with hq | hq | hq <;> omega
          refine ⟨by rw [List.length_map, packB_len, ht]; omega, ?_⟩
          rw [tbits_packed _ _ hb'.left ht, ← enc6_pad _ _ (Nat.le_refl _), hp, enc6_dbits t hk]
theorem read_none (t : List UInt8) (h : (readF t).2 ≠ 0) : (readF t).1 = [] := by
  unfold readF at h ⊢
  repeat' split
  all_goals first | rfl | (exfalso; simp_all)
/-! What Read looks at: the whole bytes, and what is left. -/
theorem getD_pad (l : List Nat) (k i : Nat) : (l ++ List.replicate k 0).getD i 0 = l.getD i 0 := by
  simp only [List.getD_eq_getElem?_getD]
  by_cases h : i < l.length
  · rw [List.getElem?_append_left h]
  · rw [List.getElem?_append_right (by omega), List.getElem?_eq_none (l := l) (by omega)]
    by_cases h2 : i - l.length < k
    · rw [List.getElem?_eq_getElem (by simpa using h2), List.getElem_replicate]; rfl
    · rw [List.getElem?_eq_none (by simp; omega)]
theorem byteAt_pad (l : List Nat) (k j : Nat) : byteAt (l ++ List.replicate k 0) j = byteAt l j := by
  unfold byteAt; simp only [getD_pad]
theorem last_byte (l : List Nat) (_h : l.length % 8 ≠ 0) : byteAt l (l.length / 8) = num (l.drop (8 * (l.length / 8))) * 2 ^ (8 - l.length % 8) := by
  rw [← byteAt_pad l (8 - l.length % 8), byteAt_num _ _ (by simp; omega), List.drop_append_of_le_length (by omega), List.take_of_length_le (by simp; omega), num_noughts]
theorem getD_take (l : List Nat) (n i : Nat) (h : i < n) : (l.take n).getD i 0 = l.getD i 0 := by
  simp only [List.getD_eq_getElem?_getD]
  rw [List.getElem?_take_of_lt h]
theorem pack_take (l : List Nat) (m : Nat) (h : 8 * m ≤ l.length) : (packB l).take m = packB (l.take (8 * m)) := by
  apply List.ext_getElem
  · rw [List.length_take, packB_len, packB_len, List.length_take]; omega
  · intro i h1 h2
    have hi : i < m := by rw [List.length_take] at h1; omega
    rw [List.getElem_take]
    simp only [packB, List.getElem_map, List.getElem_range]
    unfold byteAt
    rw [getD_take _ _ _ (by omega), getD_take _ _ _ (by omega), getD_take _ _ _ (by omega), getD_take _ _ _ (by omega), getD_take _ _ _ (by omega), getD_take _ _ _ (by omega), getD_take _ _ _ (by omega), getD_take _ _ _ (by omega)]
theorem pack_drop (l : List Nat) : (packB l).drop (l.length / 8) = if l.length % 8 = 0 then [] else [byteAt l (l.length / 8)] := by
  by_cases h : l.length % 8 = 0
  · rw [if_pos h, List.drop_of_length_le (by rw [packB_len]; omega)]
  · rw [if_neg h]
    have hl : l.length / 8 < (packB l).length := by rw [packB_len]; omega
    rw [List.drop_eq_getElem_cons hl, List.drop_of_length_le (by rw [packB_len]; omega)]
    simp [packB]
theorem trim_tail (l : List Nat) (hb : Bin l) : Lib.trimB (((packB l).map UInt8.ofNat).drop (l.length / 8)) 0 = [] ↔ num (l.drop (8 * (l.length / 8))) = 0 := by
  rw [← List.map_drop, pack_drop]
  by_cases h : l.length % 8 = 0
  · rw [if_pos h, List.drop_of_length_le (by omega)]; exact ⟨fun _ => rfl, fun _ => rfl⟩
  · rw [if_neg h, List.map_singleton]
    have hlt := byteAt_lt hb (l.length / 8)
    have e := last_byte l h
    have hp : 0 < 2 ^ (8 - l.length % 8) := Nat.two_pow_pos _
    generalize byteAt l (l.length / 8) = x at e hlt
    generalize num (l.drop (8 * (l.length / 8))) = y at e
    generalize 2 ^ (8 - l.length % 8) = z at e hp
    by_cases hx : x = 0
    · subst hx
      have : y = 0 := by rcases Nat.mul_eq_zero.1 e.symm with h | h <;> omega
      exact ⟨fun _ => this, fun _ => by decide⟩
    · have hy : y ≠ 0 := by rintro rfl; simp at e; exact hx e
      refine ⟨fun h => ?_, fun h => absurd h hy⟩
      have hne : (UInt8.ofNat x == 0) = false := by
        rw [beq_eq_false_iff_ne]; intro he
        have := congrArg UInt8.toNat he
        rw [UInt8.toNat_ofNat'] at this
        simp at this; omega
      simp [Lib.trimB, Lib.trimLeftB, Lib.trimRightB, hne] at h
theorem known_app (a b : List UInt8) : known (a ++ b) = (known a && known b) := by simp [known]
theorem read_bad {t : List UInt8} (h : known t = false) : readF t = ([], 1) := by unfold readF; rw [if_pos h]
theorem read_one {t : List UInt8} (h : known t = true) (h1 : t.length % 4 = 1) : readF t = ([], 1) := by unfold readF; rw [if_neg (by rw [h]; decide), if_pos h1]
theorem read_many {t : List UInt8} (h : known t = true) (h1 : ¬ t.length % 4 = 1) (h2 : 400 < t.length * 6 / 8) : readF t = ([], 2) := by unfold readF; rw [if_neg (by rw [h]; decide), if_neg h1, if_pos h2]
theorem read_rest {t : List UInt8} (h : known t = true) (h1 : ¬ t.length % 4 = 1) (h2 : ¬ 400 < t.length * 6 / 8) (h3 : ¬ num ((dbits t).drop (8 * (t.length * 6 / 8))) = 0) : readF t = ([], 1) := by unfold readF; rw [if_neg (by rw [h]; decide), if_neg h1, if_neg h2, if_pos h3]
theorem read_ok {t : List UInt8} (h : known t = true) (h1 : ¬ t.length % 4 = 1) (h2 : ¬ 400 < t.length * 6 / 8) (h3 : num ((dbits t).drop (8 * (t.length * 6 / 8))) = 0) : readF t = (((packB (dbits t)).map UInt8.ofNat).take (t.length * 6 / 8), 0) := by
  have hl := dbits_len t
  unfold readF; rw [if_neg (by rw [h]; decide), if_neg h1, if_neg h2, if_neg (by simpa using h3), ← List.map_take, pack_take _ _ (by omega)]
end Go.Proofs.YtnpokgjehapmjaaDoor.SixtyQ
end

section
namespace Go.Proofs.YtnpokgjehapmjaaDoor.Scan
/-- The first number that is not nought among f 0, .. f (n-1); else nought. -/
def scan (f : Nat → Nat) : Nat → Nat
  | 0 => 0
  | n + 1 => if scan f n = 0 then f n else scan f n
theorem scan_next {f : Nat → Nat} {k : Nat} (h : scan f k = 0) (hk : f k = 0) : scan f (k + 1) = 0 := by
  simp [scan, h, hk]
theorem scan_at {f : Nat → Nat} {k : Nat} (h : scan f k = 0) : scan f (k + 1) = f k := by
  simp [scan, h]
theorem scan_keep {f : Nat → Nat} {k : Nat} (h : scan f k ≠ 0) : ∀ n, k ≤ n → scan f n = scan f k := by
  intro n hn
  induction n with
  | zero => have : k = 0 := by omega
            subst this; rfl
  | succ n ih =>
    by_cases e : k = n + 1
    · subst e; rfl
    · have := ih (by omega)
      simp only [scan]
      rw [this, if_neg h]
theorem scan_stop {f : Nat → Nat} {k n : Nat} (h : scan f k = 0) (hk : f k ≠ 0) (hn : k < n) : scan f n = f k := by
  have e := scan_at h
  rw [scan_keep (by rw [e]; exact hk) n hn, e]
theorem scan_zero {f : Nat → Nat} {n : Nat} : scan f n = 0 ↔ ∀ i, i < n → f i = 0 := by
  induction n with
  | zero => simp [scan]
  | succ n ih =>
    constructor
    · intro h
      have h0 : scan f n = 0 := by
        rcases Nat.eq_zero_or_pos (scan f n) with h0 | h0
        · exact h0
        · simp only [scan] at h; rw [if_neg (by omega)] at h; omega
      intro i hi
      by_cases e : i = n
      · subst e; rw [scan_at h0] at h; exact h
      · exact ih.1 h0 i (by omega)
    · intro h
      exact scan_next (ih.2 fun i hi => h i (by omega)) (h n (by omega))
end Go.Proofs.YtnpokgjehapmjaaDoor.Scan
end

section
namespace Go.Proofs.YtnpokgjehapmjaaDoor.GrantP
open Scan

def codeV (V : List Int) (i : Nat) : Nat := if V.getD i 0 < 1 ∨ 40 < V.getD i 0 then 3 else if 0 < i ∧ V.getD i 0 ≤ V.getD (i - 1) 0 then 4 else 0
def codeG (g : Int) : Nat := if g < 0 ∨ 68719476735 < g then 3 else 0
def check (g : Int) (V : List Int) : Nat := if codeG g = 0 then scan (codeV V) V.length else 3
theorem codeV_zero {V : List Int} {i : Nat} : codeV V i = 0 ↔ (1 ≤ V.getD i 0 ∧ V.getD i 0 ≤ 40) ∧ (0 < i → V.getD (i - 1) 0 < V.getD i 0) := by
  unfold codeV
  split
  · constructor
    · intro h; cases h
    · intro h; omega
  · split
    · constructor
      · intro h; cases h
      · intro h; omega
    · constructor
      · intro _; omega
      · intro _; rfl
/-- Right vendors: rising, from 1 to 40. -/
def Right (V : List Int) : Prop := V.Pairwise (· < ·) ∧ ∀ v ∈ V, 1 ≤ v ∧ v ≤ 40
theorem right_of {V : List Int} (h : scan (codeV V) V.length = 0) : Right V := by
  have ha := scan_zero.1 h
  have step : ∀ i, i + 1 < V.length → V.getD i 0 < V.getD (i + 1) 0 := fun i hi => (codeV_zero.1 (ha (i + 1) hi)).2 (by omega)
  have lt : ∀ d i, i + d + 1 < V.length → V.getD i 0 < V.getD (i + d + 1) 0 := by
    intro d
    induction d with
    | zero => intro i hi; exact step i hi
    | succ d ih => intro i hi; exact Int.lt_trans (ih i (by omega)) (step (i + d + 1) hi)
  have at' : ∀ i (hi : i < V.length), V.getD i 0 = V[i] := fun i hi => by rw [List.getD_eq_getElem?_getD, List.getElem?_eq_getElem hi]; rfl
  refine ⟨List.pairwise_iff_getElem.2 fun i j hi hj hij => ?_, fun v hv => ?_⟩
  · have := lt (j - i - 1) i (by omega)
    rw [show i + (j - i - 1) + 1 = j from by omega, at' i hi, at' j hj] at this
    exact this
  · obtain ⟨i, hi, rfl⟩ := List.mem_iff_getElem.1 hv
    have := (codeV_zero.1 (ha i hi)).1
    rwa [at' i hi] at this
theorem of_right {V : List Int} (h : Right V) : scan (codeV V) V.length = 0 := by
  have at' : ∀ i (hi : i < V.length), V.getD i 0 = V[i] := fun i hi => by rw [List.getD_eq_getElem?_getD, List.getElem?_eq_getElem hi]; rfl
  refine scan_zero.2 fun i hi => codeV_zero.2 ⟨?_, fun h0 => ?_⟩
  · rw [at' i hi]; exact h.2 _ (List.getElem_mem hi)
  · rw [at' i hi, at' (i - 1) (by omega)]
    exact List.pairwise_iff_getElem.1 h.1 (i - 1) i (by omega) hi (by omega)
def nums : List Int := (List.range 40).map fun i : Nat => (i : Int) + 1
def upto (f : Int → Bool) : List Int := nums.filter f
def mayP (P : Nat → Bool) (p : Int) : Bool := p == 0 || (decide (1 ≤ p) && decide (p ≤ 10) && P (p - 1).toNat)
def mayV (V : List Int) (v : Int) : Bool := v == 0 || V.contains v
def may (P : Nat → Bool) (V : List Int) (p v : Int) : Bool := mayP P p && mayV V v
def lessP (P Q : Nat → Bool) : Bool := (List.range 10).all fun i => !P i || Q i
def less (P Q : Nat → Bool) (V U : List Int) : Bool := lessP P Q && V.all (U.contains ·)
def same10 (P Q : Nat → Bool) : Bool := (List.range 10).all fun i => P i == Q i
/-- As far as i purposes were looked at. -/
def mayTo (P : Nat → Bool) (p : Int) (i : Nat) : Bool := p == 0 || (decide (1 ≤ p) && decide (p ≤ i) && P (p - 1).toNat)
end Go.Proofs.YtnpokgjehapmjaaDoor.GrantP
end
