/- The laws of indexing, slicing, making and storing over named trees. Over any program. -/
import Derived.Test.YtefcfickggnmjaaDoorAbsM
import Derived.Laws.Tables
namespace Go.Proofs.YtefcfickggnmjaaDoor.Abs
open Go.RowKit Mem Facts

section
variable {X A : Nat → Prop} {φ : Nat → Pl} {w : World} {P : Program} {tb : List Ty} {T : Nat} {e ee : Ty} {N : Env} {o : Oper}
/-! ### Slices that nobody changes -/
theorem rep_fro {xs : List V} {x : Value} (h : Rep X A φ w (.fro xs) x) : xs.length ≤ LIM ∧ ((xs = [] ∧ ∃ B cap, x = .slice B 0 cap ∧ (B = none → cap = 0)) ∨
    ∃ b o sz cap, ∃ c : Nat → Nat → Value, x = .slice (some ⟨b, o, none⟩) xs.length cap ∧ ¬ X b ∧ b < w.heap.size ∧ 0 < sz ∧ xs.length ≤ cap ∧ (∀ x ∈ xs, x.cells.length = sz ∧ ∀ u ∈ x.cells, u.one = true) ∧
      (∀ (i j : Nat) x u, xs[i]? = some x → x.cells[j]? = some u → w.cell? ⟨b, o + i * sz + j, none⟩ = some (c i j)) ∧ (∀ (i j : Nat) x u, xs[i]? = some x → x.cells[j]? = some u → Fz X w u (c i j))) := by
  cases h with
  | fz h => cases h with
    | fro0 h1 => exact ⟨by simp [LIM], .inl ⟨rfl, _, _, rfl, h1⟩⟩
    | fro c h1 h2 h3 h4 h5 h6 h7 h8 => exact ⟨h5, .inr ⟨_, _, _, _, c, rfl, h1, h2, h3, h4, h6, h7, h8⟩⟩
theorem fro_slice {xs : List V} {x : Value} (h : Rep X A φ w (.fro xs) x) : ∃ B cap, x = .slice B xs.length cap := by
  obtain ⟨_, ⟨h1, B, cap, h2, _⟩ | ⟨b, o, sz, cap, c, h1, _⟩⟩ := rep_fro h
  · subst h1; exact ⟨B, cap, h2⟩
  · exact ⟨_, _, h1⟩
theorem law_len_fro {x : Operand} {xs : List V} {t el : Nat} (htb : TbOk P tb) (ho : o.op = .call { callee := .builtin .len, args := #[x], argTypes := #[t] }) (hT : nth tb t = some e) (hs : e.sl = some el) : OpLaw P N o ⟨[(x, .fro xs)], []⟩ (.int .i64 xs.length) [] [] := law_pure fun s M A φ a w hh hr => by
  obtain ⟨i, d, ht⟩ := ty_at htb hT
  obtain ⟨B, cap, h1⟩ := fro_slice (hr.ev hh.a)
  refine ⟨.int .i64 xs.length, ?_, .fz (.int ⟨by simp only [rng]; omega, by have := (rep_fro (hr.ev hh.a)).1; simp only [rng, LIM] at this ⊢; omega⟩)⟩
  have hd : d = .slice el := by
    have := ht.sl; rw [hs] at this
    cases d <;> simp [slOf] at this; rw [this]
  subst hd
  unfold execOp
  simp only [ho, resolve, Sem.run_bind, Sem.run_pure, Result.andThen_ok, invoke, builtin, List.map_toArray, List.map_cons, List.map_nil, h1]
  simp [Builtin.len_, run_underlying ht.und]
  rfl
theorem law_len_nils {x : Operand} {t el : Nat} (htb : TbOk P tb) (ho : o.op = .call { callee := .builtin .len, args := #[x], argTypes := #[t] }) (hT : nth tb t = some e) (hs : e.sl = some el) : OpLaw P N o ⟨[(x, .nils)], []⟩ (.int .i64 0) [] [] := law_pure fun s M A φ a w hh hr => by
  obtain ⟨i, d, ht⟩ := ty_at htb hT
  have h1 : a.eval x = .slice none 0 0 := by
    have := hr.ev hh.a
    generalize a.eval x = c at this ⊢
    cases this with
    | fz h => cases h; rfl
  refine ⟨.int .i64 0, ?_, .fz (.int (inR_zero _))⟩
  have hd : d = .slice el := by
    have := ht.sl; rw [hs] at this
    cases d <;> simp [slOf] at this; rw [this]
  subst hd
  unfold execOp
  simp only [ho, resolve, Sem.run_bind, Sem.run_pure, Result.andThen_ok, invoke, builtin, List.map_toArray, List.map_cons, List.map_nil, h1]
  simp [Builtin.len_, run_underlying ht.und]
  rfl
theorem rep_own {n i len : Nat} {x : Value} (h : Rep X A φ w (.own n i len) x) : ∃ B cap, x = .slice B len cap := by
  cases h with
  | fz h => cases h
  | own0 => exact ⟨_, _, rfl⟩
  | own => exact ⟨_, _, rfl⟩
theorem own_len {n i len : Nat} {x : Value} (h : Rep X A φ w (.own n i len) x) : len ≤ maxLen := by
  cases h with
  | fz h => cases h
  | own0 => exact Nat.zero_le _
  | own h1 h2 h3 h4 => omega
theorem law_len_own {x : Operand} {n i0 m t el : Nat} (htb : TbOk P tb) (ho : o.op = .call { callee := .builtin .len, args := #[x], argTypes := #[t] }) (hT : nth tb t = some e) (hs : e.sl = some el) : OpLaw P N o ⟨[(x, .own n i0 m)], []⟩ (.int .i64 m) [] [] := law_pure fun s M A φ a w hh hr => by
  obtain ⟨i, d, ht⟩ := ty_at htb hT
  obtain ⟨B, cap, h1⟩ := rep_own (hr.ev hh.a)
  refine ⟨.int .i64 m, ?_, .fz (.int ⟨by simp only [rng]; omega, by have := own_len (hr.ev hh.a); simp only [rng, maxLen] at this ⊢; omega⟩)⟩
  have hd : d = .slice el := by
    have := ht.sl; rw [hs] at this
    cases d <;> simp [slOf] at this; rw [this]
  subst hd
  unfold execOp
  simp only [ho, resolve, Sem.run_bind, Sem.run_pure, Result.andThen_ok, invoke, builtin, List.map_toArray, List.map_cons, List.map_nil, h1]
  simp [Builtin.len_, run_underlying ht.und]
  rfl
theorem sl_at {i : TypeInfo} {d : TypeDesc} {el : Nat} (ht : TyIs P T e i d) (hs : e.sl = some el) : P.underlying T = some (.slice el) := by
  have := ht.sl; rw [hs] at this
  rw [ht.und]
  cases d <;> simp [slOf] at this; rw [this]
theorem arr_at {i : TypeInfo} {d : TypeDesc} {n el : Nat} (ht : TyIs P T e i d) (hs : e.arr = some (n, el)) : P.underlying T = some (.array n el) := by
  have := ht.arr; rw [hs] at this
  rw [ht.und]
  cases d <;> simp [arrOf] at this; rw [this.1, this.2]
theorem run_indexAt {t elem : Nat} {ii : TypeInfo} {k : IntKind} {i : Int} {ad : Addr} {len cap : Nat} (h : P.underlying t = some (.slice elem)) (hi : P.info? elem = some ii) (h0 : 0 ≤ i) (hlt : i < len) :
    (Instr.indexAt t (.slice (some ad) len cap) (.int k i)).run P w = .ok (.pointer (some (ad.add (i.toNat * ii.size)))) w := by
  simp [Instr.indexAt, asIntOf, run_underlying h, h0, hlt, sizeOf, typeInfo, hi]
theorem run_indexAt_arr {t elem n : Nat} {ii : TypeInfo} {k : IntKind} {i : Int} {ad : Addr} (h : P.underlying t = some (.array n elem)) (hi : P.info? elem = some ii) (h0 : 0 ≤ i) (hlt : i < n) :
    (Instr.indexAt t (.pointer (some ad)) (.int k i)).run P w = .ok (.pointer (some (ad.add (i.toNat * ii.size)))) w := by
  simp [Instr.indexAt, asIntOf, run_underlying h, h0, hlt, sizeOf, typeInfo, hi, Instr.sureAddr]
theorem law_indexAddr {x ix : Operand} {el : Nat} {xs : List V} {k : IntKind} {i : Int} {v : V} (htb : TbOk P tb) (ho : o.op = .indexAddr T x ix) (hT : nth tb T = some e) (hs : e.sl = some el) (hE : nth tb el = some ee) (h0 : 0 ≤ i) (hv : xs[i.toNat]? = some v) (hz : v.cells.length = ee.size) :
    OpLaw P N o ⟨[(x, .fro xs), (ix, .int k i)], []⟩ (.fp v.cells 0) [] [] := law_pure fun s M A φ a w hh hr => by
  obtain ⟨ti, d, ht⟩ := ty_at htb hT
  obtain ⟨ei, de, hte⟩ := ty_at htb hE
  have hil : i.toNat < xs.length := (List.getElem?_eq_some_iff.1 hv).1
  obtain ⟨_, ⟨h1, _⟩ | ⟨b, o', sz, cap, c, h1, h2, h3, h4, h5, h6, h7, h8⟩⟩ := rep_fro (hr.ev hh.a)
  · subst h1; simp at hv
  · have hsz : sz = ei.size := by rw [hte.size, ← hz]; exact (h6 v (List.mem_of_getElem? hv)).1.symm
    refine ⟨.pointer (some ⟨b, o' + i.toNat * sz + 0, none⟩), ?_, .fz (.fp (c i.toNat) h2 h3 (h6 v (List.mem_of_getElem? hv)).2 (fun j u hu => h7 _ j v u hv hu) (fun j u hu => h8 _ j v u hv hu))⟩
    unfold execOp
    simp only [ho, h1, hr.int hh.b, Sem.run_bind, run_indexAt (sl_at ht hs) hte.info h0 (show i < (xs.length : Int) by omega), Result.andThen_ok, Sem.run_pure, addr_add, hsz, Nat.add_zero]
theorem law_indexAddr_own {x ix : Operand} {el n i0 m T' : Nat} {xs : List V} {k : IntKind} {i : Int} (htb : TbOk P tb) (ho : o.op = .indexAddr T x ix) (hT : nth tb T = some e) (hs : e.sl = some el) (hE : nth tb el = some ee) (h0 : 0 ≤ i) (hlt : i < m) :
    OpLaw P N o ⟨[(x, .own n i0 m), (ix, .int k i)], [(n, .els T' ee.size xs)]⟩ (.loc n (i0 + i.toNat) 0) [] [] := law_pure fun s M A φ a w hh hr => by
  obtain ⟨ti, d, ht⟩ := ty_at htb hT
  obtain ⟨ei, de, hte⟩ := ty_at htb hE
  have hsz := (hr.st n _ hh.n).2.1
  have hrep := hr.ev hh.a
  generalize ha : a.eval x = y at hrep
  cases hrep with
  | fz h => cases h
  | own0 h1 h2 => omega
  | @own _ _ _ b h1 h2 h3 _ =>
    refine ⟨.pointer (some ⟨b, (i0 + i.toNat) * (φ n).sz + 0, none⟩), ?_, .loc h1 h2⟩
    unfold execOp
    simp only [ho, ha, hr.int hh.b, Sem.run_bind, run_indexAt (sl_at ht hs) hte.info h0 hlt, Result.andThen_ok, Sem.run_pure, addr_add, hte.size, hsz, Nat.add_mul, Nat.add_zero]
theorem law_indexAddr_arr {x ix : Operand} {el len n i0 off : Nat} {k : IntKind} {i : Int} (htb : TbOk P tb) (ho : o.op = .indexAddr T x ix) (hT : nth tb T = some e) (hs : e.arr = some (len, el)) (hE : nth tb el = some ee) (h0 : 0 ≤ i) (hlt : i < len) :
    OpLaw P N o ⟨[(x, .loc n i0 off), (ix, .int k i)], []⟩ (.loc n i0 (off + i.toNat * ee.size)) [] [] := law_pure fun s M A φ a w hh hr => by
  obtain ⟨ti, d, ht⟩ := ty_at htb hT
  obtain ⟨ei, de, hte⟩ := ty_at htb hE
  have hrep := hr.ev hh.a
  obtain ⟨b, h1, h2⟩ := rep_loc hrep
  refine ⟨.pointer (some ⟨b, i0 * (φ n).sz + (off + i.toNat * ee.size), none⟩), ?_, .loc (loc_name hrep) h1⟩
  unfold execOp
  simp only [ho, h2, hr.int hh.b, Sem.run_bind, run_indexAt_arr (arr_at ht hs) hte.info h0 hlt, Result.andThen_ok, Sem.run_pure, addr_add, hte.size, Nat.add_assoc]
theorem law_indexAddr_arr_fp {x ix : Operand} {el len off : Nat} {cs : List V} {k : IntKind} {i : Int} (htb : TbOk P tb) (ho : o.op = .indexAddr T x ix) (hT : nth tb T = some e) (hs : e.arr = some (len, el)) (hE : nth tb el = some ee) (h0 : 0 ≤ i) (hlt : i < len) :
    OpLaw P N o ⟨[(x, .fp cs off), (ix, .int k i)], []⟩ (.fp cs (off + i.toNat * ee.size)) [] [] := law_pure fun s M A φ a w hh hr => by
  obtain ⟨ti, d, ht⟩ := ty_at htb hT
  obtain ⟨ei, de, hte⟩ := ty_at htb hE
  have hrep := hr.ev hh.a
  generalize ha : a.eval x = c at hrep
  cases hrep with
  | fz hz => cases hz with
    | @fp _ b o' _ c h1 h2 h3 h4 h5 =>
      refine ⟨.pointer (some ⟨b, o' + (off + i.toNat * ee.size), none⟩), ?_, .fz (.fp c h1 h2 h3 h4 h5)⟩
      unfold execOp
      simp only [ho, ha, hr.int hh.b, Sem.run_bind, run_indexAt_arr (arr_at ht hs) hte.info h0 hlt, Result.andThen_ok, Sem.run_pure, addr_add, hte.size, Nat.add_assoc]
theorem law_index_arr {x ix : Operand} {el len : Nat} {vs : List V} {k : IntKind} {i : Int} {v : V} (htb : TbOk P tb) (ho : o.op = .index T x ix) (hT : nth tb T = some e) (hs : e.arr = some (len, el)) (hE : nth tb el = some ee) (h0 : 0 ≤ i) (hlt : i < len) (hv : subV vs (i.toNat * ee.size) ee.agg ee.size = some v) :
    OpLaw P N o ⟨[(x, .agg vs), (ix, .int k i)], []⟩ v [] [] := law_pure fun s M A φ a w hh hr => by
  obtain ⟨ti, d, ht⟩ := ty_at htb hT
  obtain ⟨ei, de, hte⟩ := ty_at htb hE
  obtain ⟨cs, h1, h2, h3, h4⟩ := rep_agg (hr.ev hh.a)
  obtain ⟨u, k1, k2⟩ := run_part (w := w) htb hE h2 h3 h4 hv
  refine ⟨u, ?_, k2⟩
  unfold execOp
  simp only [ho, h1, hr.int hh.b, Instr.index, asIntOf, Sem.run_bind, Sem.run_pure, Result.andThen_ok, run_underlying (arr_at ht hs), h0, hlt, and_self, if_true, run_sizeOf' hte.info, hte.size, k1]
theorem law_index_str {x ix : Operand} {s : ByteArray} {k : IntKind} {i : Int} {c : UInt8} (htb : TbOk P tb) (ho : o.op = .index T x ix) (hT : nth tb T = some e) (hk : e.knd = 2) (h0 : 0 ≤ i) (hv : s[i.toNat]? = some c) :
    OpLaw P N o ⟨[(x, .str s), (ix, .int k i)], []⟩ (.int .u8 (c.toNat : Int)) [] [] := law_pure fun s' M A φ a w hh hr => by
  obtain ⟨ti, d, ht⟩ := ty_at htb hT
  have hd : d = .string := by
    have := ht.knd; rw [hk] at this
    exact kind_str this
  subst hd
  refine ⟨.int .u8 c.toNat, ?_, .fz (.int ⟨by simp only [rng]; omega, by have := c.toNat_lt; simp only [rng]; omega⟩)⟩
  unfold execOp
  simp only [ho, (hr.str hh.a).1, hr.int hh.b, Instr.index, asIntOf, Sem.run_bind, Sem.run_pure, Result.andThen_ok, run_underlying ht.und, h0, if_true, hv]
/-! ### Slicing -/
def BoundIs (v : Option Value) (n dflt : Nat) : Prop := match v with
  | none => n = dflt
  | some v => ∃ k, v = .int k n
theorem run_bounds {b : Bool} {len cap l h : Nat} {lo hi : Option Value} (hl : BoundIs lo l 0) (hh : BoundIs hi h len) (h1 : l ≤ h) (h2 : h ≤ cap) : (Instr.sliceBounds b len cap lo hi none).run P w = .ok (l, h, cap) w := by
  cases lo with
  | none =>
    simp only [BoundIs] at hl; subst hl
    cases hi with
    | none => simp only [BoundIs] at hh; subst hh; simp [Instr.sliceBounds]
    | some v => obtain ⟨k, rfl⟩ := hh; simp [Instr.sliceBounds, Instr.sliceBound, asIntOf, h2]
  | some u =>
    obtain ⟨k', rfl⟩ := hl
    cases hi with
    | none => simp only [BoundIs] at hh; subst hh; simp [Instr.sliceBounds, Instr.sliceBound, asIntOf, h1]
    | some v => obtain ⟨k, rfl⟩ := hh; simp [Instr.sliceBounds, Instr.sliceBound, asIntOf, h1, h2]
/-- What a bound's operand says. -/
def BoundOp (x : Option Operand) (n dflt : Nat) (ts : List (Operand × V)) : Prop := match x with
  | none => n = dflt
  | some x => ∃ k, (x, V.int k (n : Int)) ∈ ts
theorem bound_is {M : Nat → Prop} {s : S} {a : Act} {x : Option Operand} {n dflt : Nat} {fp : Fp} (h : BoundOp x n dflt fp.ts) (hh : Holds fp s) (hr : Rel N M A φ s a w) : BoundIs (x.map a.eval) n dflt := by
  cases x with
  | none => exact h
  | some x =>
    obtain ⟨k, hk⟩ := h
    exact ⟨k, hr.int (hh.1 _ hk)⟩
theorem slice_str {x : Operand} {lo hi : Option Operand} {s : ByteArray} {l h : Nat} {ts : List (Operand × V)} (htb : TbOk P tb) (ho : o.op = .slice T x lo hi none) (hT : nth tb T = some e) (hk : e.knd = 2) (hl : BoundOp lo l 0 ts) (hh : BoundOp hi h s.size ts) (h1 : l ≤ h) (h2 : h ≤ s.size) :
    OpLaw P N o ⟨(x, .str s) :: ts, []⟩ (.str (s.extract l h)) [] [] := law_pure fun s' M A φ a w hd hr => by
  obtain ⟨ti, d, ht⟩ := ty_at htb hT
  have hdd : d = .string := by
    have := ht.knd; rw [hk] at this
    exact kind_str this
  subst hdd
  obtain ⟨g1, g2⟩ := hr.str hd.a
  have hd' : Holds ⟨ts, []⟩ s' := ⟨fun p hp => hd.1 p (List.mem_cons_of_mem _ hp), fun p hp => by simp at hp⟩
  refine ⟨.string (s.extract l h), ?_, .fz (.str ?_)⟩
  · unfold execOp
    simp only [ho, g1, Instr.sliceAt, Sem.run_bind, run_underlying ht.und, Result.andThen_ok, Instr.slice, Option.map_none, Option.isSome_none, run_bounds (bound_is (fp := ⟨ts, []⟩) hl hd' hr) (bound_is (fp := ⟨ts, []⟩) hh hd' hr) h1 h2, Sem.run_pure]
    simp [run_bounds (bound_is (fp := ⟨ts, []⟩) hl hd' hr) (bound_is (fp := ⟨ts, []⟩) hh hd' hr) h1 h2]
  · simp; omega
theorem law_slice_str {x y z : Operand} {s : ByteArray} {k k' : IntKind} {l h : Int} (htb : TbOk P tb) (ho : o.op = .slice T x (some y) (some z) none) (hT : nth tb T = some e) (hk : e.knd = 2) (h0 : 0 ≤ l) (h1 : l ≤ h) (h2 : h ≤ s.size) :
    OpLaw P N o ⟨[(x, .str s), (y, .int k l), (z, .int k' h)], []⟩ (.str (s.extract l.toNat h.toNat)) [] [] :=
  slice_str htb ho hT hk ⟨k, by simp [show ((l.toNat : Nat) : Int) = l by omega]⟩ ⟨k', by simp [show ((h.toNat : Nat) : Int) = h by omega]⟩ (by omega) (by omega)
theorem law_slice_str_from {x y : Operand} {s : ByteArray} {k : IntKind} {l : Int} (htb : TbOk P tb) (ho : o.op = .slice T x (some y) none none) (hT : nth tb T = some e) (hk : e.knd = 2) (h0 : 0 ≤ l) (h1 : l ≤ s.size) :
    OpLaw P N o ⟨[(x, .str s), (y, .int k l)], []⟩ (.str (s.extract l.toNat s.size)) [] [] :=
  slice_str htb ho hT hk ⟨k, by simp [show ((l.toNat : Nat) : Int) = l by omega]⟩ rfl (by omega) (Nat.le_refl _)
theorem law_slice_str_to {x z : Operand} {s : ByteArray} {k : IntKind} {h : Int} (htb : TbOk P tb) (ho : o.op = .slice T x none (some z) none) (hT : nth tb T = some e) (hk : e.knd = 2) (h0 : 0 ≤ h) (h1 : h ≤ s.size) :
    OpLaw P N o ⟨[(x, .str s), (z, .int k h)], []⟩ (.str (s.extract 0 h.toNat)) [] [] :=
  slice_str htb ho hT hk rfl ⟨k, by simp [show ((h.toNat : Nat) : Int) = h by omega]⟩ (by omega) (by omega)
theorem slice_fro {x : Operand} {lo hi : Option Operand} {xs : List V} {l h el : Nat} {ts : List (Operand × V)} (htb : TbOk P tb) (ho : o.op = .slice T x lo hi none) (hT : nth tb T = some e) (hs : e.sl = some el) (hE : nth tb el = some ee) (hz : ∀ x ∈ xs, x.cells.length = ee.size) (hl : BoundOp lo l 0 ts) (hh : BoundOp hi h xs.length ts) (h1 : l ≤ h) (h2 : h ≤ xs.length) :
    OpLaw P N o ⟨(x, .fro xs) :: ts, []⟩ (.fro ((xs.take h).drop l)) [] [] := law_pure fun s' M A φ a w hd hr => by
  obtain ⟨ti, d, ht⟩ := ty_at htb hT
  obtain ⟨ei, de, hte⟩ := ty_at htb hE
  have hu := sl_at ht hs
  have hd' : Holds ⟨ts, []⟩ s' := ⟨fun p hp => hd.1 p (List.mem_cons_of_mem _ hp), fun p hp => by simp at hp⟩
  have b1 := bound_is (fp := ⟨ts, []⟩) hl hd' hr
  have b2 := bound_is (fp := ⟨ts, []⟩) hh hd' hr
  obtain ⟨hlim, ⟨g1, B, cap, g2, g3⟩ | ⟨b, o', sz, cap, c, g1, g2, g3, g4, g5, g6, g7, g8⟩⟩ := rep_fro (hr.ev hd.a)
  · subst g1
    obtain rfl : h = 0 := by simpa using h2
    obtain rfl : l = 0 := by omega
    have b1' : BoundIs (lo.map a.eval) 0 0 := b1
    have b2' : BoundIs (hi.map a.eval) 0 0 := b2
    refine ⟨.slice (if cap = 0 then B else B.map (·.add (0 * ei.size))) 0 cap, ?_, ?_⟩
    · unfold execOp
      simp only [ho, g2, Instr.sliceAt, Sem.run_bind, run_underlying hu, Result.andThen_ok, Instr.slice, Option.map_none]
      simp [run_bounds (b := true) b1' b2' (Nat.le_refl 0) (Nat.zero_le cap), run_sizeOf' hte.info]
    · refine .fz (.fro0 ?_)
      cases B with
      | none => exact fun _ => g3 rfl
      | some B => split <;> simp
  · have hcap : h ≤ cap := by omega
    have hlen : ((xs.take h).drop l).length = h - l := by simp; omega
    refine ⟨.slice (if cap = l then some ⟨b, o', none⟩ else some ⟨b, o' + l * ei.size, none⟩) (h - l) (cap - l), ?_, ?_⟩
    · unfold execOp
      simp only [ho, g1, Instr.sliceAt, Sem.run_bind, run_underlying hu, Result.andThen_ok, Instr.slice, Option.map_none]
      simp [run_bounds (b := true) b1 b2 h1 hcap, run_sizeOf' hte.info, addr_add]
    · by_cases he : h = l
      · have : (xs.take h).drop l = [] := by rw [← List.length_eq_zero_iff, hlen]; omega
        rw [this, show h - l = 0 by omega]
        exact .fz (.fro0 (by split <;> simp))
      · have hsz : sz = ei.size := by
          rw [hte.size, ← hz _ (List.getElem_mem (show 0 < xs.length by omega))]
          exact (g6 _ (List.getElem_mem (show 0 < xs.length by omega))).1.symm
        rw [if_neg (by omega), ← hlen, ← hsz]
        refine .fz (.fro (fun i j => c (l + i) j) g2 g3 g4 (by rw [hlen]; omega) (by rw [hlen]; omega) (fun x hx => g6 x (List.mem_of_mem_take (List.mem_of_mem_drop hx))) (fun i j x u hx hu => ?_) (fun i j x u hx hu => ?_))
        · rw [List.getElem?_drop] at hx
          have hlt : l + i < h := by
            have := (List.getElem?_eq_some_iff.1 hx).1
            simp at this; omega
          rw [List.getElem?_take_of_lt hlt] at hx
          have := g7 (l + i) j x u hx hu
          rw [← this, Nat.add_mul]
          congr 2
          omega
        · rw [List.getElem?_drop] at hx
          have hlt : l + i < h := by
            have := (List.getElem?_eq_some_iff.1 hx).1
            simp at this; omega
          rw [List.getElem?_take_of_lt hlt] at hx
          exact g8 (l + i) j x u hx hu
theorem law_slice_from {x y : Operand} {xs : List V} {el : Nat} {k : IntKind} {l : Int} (htb : TbOk P tb) (ho : o.op = .slice T x (some y) none none) (hT : nth tb T = some e) (hs : e.sl = some el) (hE : nth tb el = some ee) (hz : ∀ x ∈ xs, x.cells.length = ee.size) (h0 : 0 ≤ l) (h1 : l ≤ xs.length) :
    OpLaw P N o ⟨[(x, .fro xs), (y, .int k l)], []⟩ (.fro (xs.drop l.toNat)) [] [] := by
  have := slice_fro (P := P) (N := N) (x := x) (l := l.toNat) (h := xs.length) (ts := [(y, .int k l)]) htb ho hT hs hE hz ⟨k, by simp [show ((l.toNat : Nat) : Int) = l by omega]⟩ rfl (by omega) (Nat.le_refl _)
  simpa using this
theorem law_slice_to {x z : Operand} {xs : List V} {el : Nat} {k : IntKind} {h : Int} (htb : TbOk P tb) (ho : o.op = .slice T x none (some z) none) (hT : nth tb T = some e) (hs : e.sl = some el) (hE : nth tb el = some ee) (hz : ∀ x ∈ xs, x.cells.length = ee.size) (h0 : 0 ≤ h) (h1 : h ≤ xs.length) :
    OpLaw P N o ⟨[(x, .fro xs), (z, .int k h)], []⟩ (.fro (xs.take h.toNat)) [] [] := by
  have := slice_fro (P := P) (N := N) (x := x) (l := 0) (h := h.toNat) (ts := [(z, .int k h)]) htb ho hT hs hE hz rfl ⟨k, by simp [show ((h.toNat : Nat) : Int) = h by omega]⟩ (by omega) (by omega)
  simpa using this
theorem law_slice_mid {x y z : Operand} {xs : List V} {el : Nat} {k k' : IntKind} {l h : Int} (htb : TbOk P tb) (ho : o.op = .slice T x (some y) (some z) none) (hT : nth tb T = some e) (hs : e.sl = some el) (hE : nth tb el = some ee) (hz : ∀ x ∈ xs, x.cells.length = ee.size) (h0 : 0 ≤ l) (h1 : l ≤ h) (h2 : h ≤ xs.length) :
    OpLaw P N o ⟨[(x, .fro xs), (y, .int k l), (z, .int k' h)], []⟩ (.fro ((xs.take h.toNat).drop l.toNat)) [] [] :=
  slice_fro htb ho hT hs hE hz ⟨k, by simp [show ((l.toNat : Nat) : Int) = l by omega]⟩ ⟨k', by simp [show ((h.toNat : Nat) : Int) = h by omega]⟩ (by omega) (by omega)
/-- A frozen array, sliced whole. -/
theorem law_slice_arr_fp {x : Operand} {cs : List V} {off len el : Nat} (htb : TbOk P tb) (ho : o.op = .slice T x none none none) (hT : nth tb T = some e) (hs : e.arr = some (len, el)) (hE : nth tb el = some ee) (h1 : ee.size = 1) (h0 : 0 < len) (hl : len ≤ LIM) (hc : off + len ≤ cs.length) (hone : ∀ u ∈ cs, u.cells = [u]) :
    OpLaw P N o ⟨[(x, .fp cs off)], []⟩ (.fro ((cs.drop off).take len)) [] [] := law_pure fun s' M A φ a w hd hr => by
  obtain ⟨ti, d, ht⟩ := ty_at htb hT
  obtain ⟨ei, de, hte⟩ := ty_at htb hE
  have hu := arr_at ht hs
  have hrep := hr.ev hd.a
  generalize ha : a.eval x = c at hrep
  cases hrep with
  | fz hz => cases hz with
    | @fp _ b o' _ c g1 g2 g3 g4 g5 =>
      have hlen : ((cs.drop off).take len).length = len := by simp; omega
      refine ⟨.slice (some ⟨b, o' + off, none⟩) ((cs.drop off).take len).length len, ?_, .fz (.fro (sz := 1) (fun i _ => c (off + i)) g1 g2 (by decide) (by omega) (by omega) (fun x hx => ?_) (fun i j x u hx hu => ?_) (fun i j x u hx hu => ?_))⟩
      · unfold execOp
        rw [hlen]
        simp only [ho, ha, Instr.sliceAt, Sem.run_bind, run_underlying hu, Result.andThen_ok, Option.map_none, Instr.sureAddr, Sem.run_pure]
        simp [run_bounds (P := P) (w := w) (b := false) (lo := none) (hi := none) (l := 0) (h := len) (len := len) (cap := len) rfl rfl (Nat.zero_le _) (Nat.le_refl _), run_sizeOf' hte.info, show ¬ len = 0 by omega, addr_add]
      · have hm := List.mem_of_mem_drop (List.mem_of_mem_take hx)
        rw [hone x hm]
        exact ⟨rfl, fun u hu => by rw [List.mem_singleton] at hu; subst hu; exact g3 _ hm⟩
      · have hi : i < len := by have := (List.getElem?_eq_some_iff.1 hx).1; omega
        rw [List.getElem?_take_of_lt hi, List.getElem?_drop] at hx
        rw [hone x (List.mem_of_getElem? hx)] at hu
        have : j = 0 ∧ u = x := by
          rcases j with _ | j
          · simp at hu; exact ⟨rfl, hu.symm⟩
          · simp at hu
        obtain ⟨rfl, rfl⟩ := this
        have := g4 (off + i) u hx
        rw [← this]; congr 2; omega
      · have hi : i < len := by have := (List.getElem?_eq_some_iff.1 hx).1; omega
        rw [List.getElem?_take_of_lt hi, List.getElem?_drop] at hx
        rw [hone x (List.mem_of_getElem? hx)] at hu
        have : u = x := by
          rcases j with _ | j
          · simp at hu; exact hu.symm
          · simp at hu
        subst this
        exact g5 (off + i) u hx
end
end Go.Proofs.YtefcfickggnmjaaDoor.Abs
