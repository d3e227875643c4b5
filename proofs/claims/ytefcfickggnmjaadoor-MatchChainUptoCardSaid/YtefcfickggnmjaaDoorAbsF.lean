/- The laws of slice literals, parts of rows of one's own, and of further operators over named trees. Over any program. -/
import Derived.Test.YtefcfickggnmjaaDoorAbsE
namespace Go.Proofs.YtefcfickggnmjaaDoor.Abs
open Go.RowKit Mem Facts

section
variable {X A : Nat → Prop} {φ : Nat → Pl} {w w' : World} {P : Program} {tb : List Ty} {T : Nat} {e ee : Ty} {N : Env} {M : Nat → Prop} {o : Oper} {s : S} {a : Act}

theorem run_buildSlice {ps : Array (Nat × Operand)} {vs : List V} {len el sz : Nat} {z : V} (hr : Rel N M A φ s a w) (hh : ∀ p ∈ (ps.toList.map (·.2)).zip vs, s.ev p.1 = some p.2) (htb : TbOk P tb) (ho : o.op = .buildSlice T len ps) (hl : Nat.beq vs.length ps.size = true) (hT : nth tb T = some e) (hs : e.sl = some el) (hE : nth tb el = some ee) (hz : ee.zeroV = some z) (hsz : ee.size = sz) (hzl : z.cells.length = sz) (h0 : 0 < sz)
    (hbig : Nat.ble (len * sz) 16777216 = true) (h1 : (vs.all fun v => v.cells.all V.one) = true) (hf : fillV (fun i => some (i * sz, sz)) (flat (List.replicate len z)) (zipP ps.toList vs) = some (flat vs)) :
    ∃ cells, (execOp a.eval o).run P w = .ok (.value (.slice (some ⟨w.heap.size, 0, none⟩) len len)) (w.alloc (.cells cells el)) ∧ Reps (fun b => M b ∨ N b) A φ w (flat vs) cells.toList := by
  have hlen : vs.length = ps.toList.length := by simpa using Nat.eq_of_beq_eq_true hl
  obtain ⟨ti, d, ht⟩ := ty_at htb hT
  obtain ⟨i, zv, e1, e2, e3, e4, e5, e6, e7⟩ := elem_parts w htb hE hz hsz hzl
  rw [zipP_map _ _ hlen] at hf
  have hps : ∀ p ∈ (ps.toList.map (·.1)).zip vs, p.2.cells.all V.one = true := fun p hp => List.all_eq_true.1 h1 _ (List.of_mem_zip hp).2
  have hat : ∀ (i : Nat) p q, ((ps.toList.map (·.1)).zip vs)[i]? = some p → ((ps.map fun (i, x) => (i, a.eval x)).toList)[i]? = some q → Rep (fun b => M b ∨ N b) A φ w p.2 q.2 := fun i p q hp hq => by
    rw [List.getElem?_zip_eq_some] at hp
    obtain ⟨hp1, hp2⟩ := hp
    simp only [Array.toList_map, List.getElem?_map, Option.map_eq_some_iff] at hq hp1
    obtain ⟨q0, hq0, rfl⟩ := hq
    refine hr.ev (hh (q0.2, p.2) ?_)
    exact List.mem_of_getElem? (i := i) (by rw [List.getElem?_zip_eq_some]; exact ⟨by simp [hq0], hp2⟩)
  have hmade := made_reps (X := fun b => M b ∨ N b) (A := A) (φ := φ) (w := w) e6 e7 hzl h0 len
  obtain ⟨out, g1, g2⟩ := fill_reps (pl := fun i => some (i * sz, sz)) (by rw [List.map_fst_zip (by simp [hlen])]; simp) hps hmade hat hf
  refine ⟨out, ?_, g2⟩
  have hbig := Nat.le_of_ble_eq_true hbig
  have hzero : (zeroValue el).run P w = .ok zv w := by simp [zeroValue, typeInfo, e1, e2]
  have hrun : ∀ qs : Array (Nat × Value), Instr.fill (fun i => some (i * sz, sz)) (madeCells zv.cells (len * sz)) qs.toList = some out → (Instr.buildSlice T len qs).run P w = .ok (.slice (some ⟨w.heap.size, 0, none⟩) len len) (w.alloc (.cells out el)) := fun qs g1 => by
    by_cases hn : len * sz = 0
    · have hm0 : madeCells zv.cells (len * sz) = #[] := by rw [hn]; simp [madeCells]
      rw [hm0] at g1
      simp [Instr.buildSlice, run_underlying (slOf_und ht hs), sizeOf, typeInfo, e1, e3, hn, newRow, Array.range_zero', g1]
    · have : ¬ (16777216 < len * sz) := by omega
      unfold madeCells at g1
      simp [Instr.buildSlice, run_underlying (slOf_und ht hs), sizeOf, typeInfo, e1, e3, hn, newRow, this, hzero, g1]
  unfold execOp
  simp only [ho, Sem.run_bind, hrun _ g1, Result.andThen_ok, Sem.run_pure]
theorem law_buildSlice {ps : Array (Nat × Operand)} {vs : List V} {len el sz : Nat} {z : V} (htb : TbOk P tb) (ho : o.op = .buildSlice T len ps) (hl : Nat.beq vs.length ps.size = true) (hT : nth tb T = some e) (hs : e.sl = some el) (hE : nth tb el = some ee) (hz : ee.zeroV = some z) (hsz : ee.size = sz) (hzl : z.cells.length = sz) (h0 : Nat.ble 1 sz = true)
    (hbig : Nat.ble (len * sz) 16777216 = true) (hvl : Nat.beq vs.length len = true) (h1 : (vs.all fun v => v.cells.all V.one && Nat.beq v.cells.length sz) = true) (hn : V.namesL vs = []) (hf : fillV (fun i => some (i * sz, sz)) (flat (List.replicate len z)) (zipP ps.toList vs) = some (flat vs)) :
    OpLaw P N o ⟨(ps.toList.map (·.2)).zip vs, []⟩ (.fro vs) [] [] := fun s M A φ a w hh hr hν hd => by
  have h0 := Nat.le_of_ble_eq_true h0
  have hvl := Nat.eq_of_beq_eq_true hvl
  have hone : (vs.all fun v => v.cells.all V.one) = true := by
    rw [List.all_eq_true] at h1 ⊢
    exact fun v hv => (Bool.and_eq_true _ _ ▸ h1 v hv).1
  have hcl : ∀ v ∈ vs, v.cells.length = sz := fun v hv => by
    have := List.all_eq_true.1 h1 v hv
    rw [Bool.and_eq_true] at this
    exact Nat.eq_of_beq_eq_true this.2
  obtain ⟨cells, g1, g2⟩ := run_buildSlice hr hh.1 htb ho hl hT hs hE hz hsz hzl h0 hbig hone hf
  have hbel : Below w.heap.size w (w.alloc (.cells cells el)) := (Below.refl _ w).alloc (Nat.le_refl _) _
  unfold Oper.wp
  rw [g1]
  refine rel_grow_dst hr hbel ?_ hd
  have hcs : cells.size = len * sz := by have := g2.1; rw [flat_len hcl, hvl] at this; simpa using this.symm
  have hnn : ∀ u ∈ flat vs, u.names = [] := fun u hu => by
    obtain ⟨v, hv, hu⟩ := List.mem_flatMap.1 hu
    refine List.eq_nil_iff_forall_not_mem.2 fun m hm => ?_
    have : m ∈ V.namesL vs := mem_namesL.2 ⟨v, hv, by
      by_cases hg : ∃ us, v = .agg us
      · obtain ⟨us, rfl⟩ := hg
        rw [V.names]; exact mem_namesL.2 ⟨u, hu, hm⟩
      · have : v.cells = [v] := by
          cases v <;> first | rfl | exact absurd ⟨_, rfl⟩ hg
        rw [this, List.mem_singleton] at hu
        subst hu; exact hm⟩
    rw [hn] at this; cases this
  have hlen : len ≤ LIM := by
    have := Nat.le_of_ble_eq_true hbig
    have : len * 1 ≤ len * sz := Nat.mul_le_mul_left _ h0
    simp only [LIM]; omega
  have := Fz.fro (X := fun b => M b ∨ N b) (w := w.alloc (.cells cells el)) (xs := vs) (b := w.heap.size) (o := 0) (sz := sz) (cap := len) (fun i j => (cells[i * sz + j]?).getD undef) (fun h => by have := hr.lim _ h; omega) (by simp) h0 (by omega) (by omega) (fun x hx => ⟨hcl x hx, fun u hu => List.all_eq_true.1 (List.all_eq_true.1 hone x hx) u hu⟩) (fun i j x u hx hu => by
      have hf := flat_at hcl hx hu
      obtain ⟨c, k1, k2⟩ := g2.2 _ _ hf
      rw [Array.getElem?_toList] at k1
      simp [World.cell?_alloc_new, k1]) (fun i j x u hx hu => by
      have hf := flat_at hcl hx hu
      obtain ⟨c, k1, k2⟩ := g2.2 _ _ hf
      rw [Array.getElem?_toList] at k1
      rw [k1]
      exact (rep_fz k2 (hnn u (List.mem_of_getElem? hf))).mono (fun _ _ h => h) (.of_below hbel))
  rw [hvl] at this
  exact .fz this
theorem law_buildSlice_own {ps : Array (Nat × Operand)} {vs : List V} {len el sz ν : Nat} {z : V} (htb : TbOk P tb) (ho : o.op = .buildSlice T len ps) (hl : Nat.beq vs.length ps.size = true) (hT : nth tb T = some e) (hs : e.sl = some el) (hE : nth tb el = some ee) (hz : ee.zeroV = some z) (hsz : ee.size = sz) (hzl : z.cells.length = sz) (h0 : Nat.ble 1 sz = true)
    (hbig : Nat.ble (len * sz) 16777216 = true) (hvl : Nat.beq vs.length len = true) (h1 : (vs.all fun v => v.cells.all V.one && Nat.beq v.cells.length sz) = true) (hf : fillV (fun i => some (i * sz, sz)) (flat (List.replicate len z)) (zipP ps.toList vs) = some (flat vs)) :
    OpLaw P N o ⟨(ps.toList.map (·.2)).zip vs, []⟩ (.own ν 0 len) [(ν, some (.els el sz vs))] [ν] := fun s M A φ a w hh hr hν hd => by
  have h0 := Nat.le_of_ble_eq_true h0
  have hvl := Nat.eq_of_beq_eq_true hvl
  have hone : (vs.all fun v => v.cells.all V.one) = true := by
    rw [List.all_eq_true] at h1 ⊢
    exact fun v hv => (Bool.and_eq_true _ _ ▸ h1 v hv).1
  have hcl : ∀ v ∈ vs, v.cells.length = sz := fun v hv => by
    have := List.all_eq_true.1 h1 v hv
    rw [Bool.and_eq_true] at this
    exact Nat.eq_of_beq_eq_true this.2
  obtain ⟨cells, g1, g2⟩ := run_buildSlice hr hh.1 htb ho hl hT hs hE hz hsz hzl h0 hbig hone hf
  have hcs : cells.size = len * sz := by have := g2.1; rw [flat_len hcl, hvl] at this; simpa using this.symm
  have hlen : len ≤ LIM := by
    have := Nat.le_of_ble_eq_true hbig
    have : len * 1 ≤ len * sz := Nat.mul_le_mul_left _ h0
    simp only [LIM]; omega
  unfold Oper.wp
  rw [g1]
  exact rel_append (kill := none) (vx := .slice none 0 0) hr (hν ν (by simp)) (fun n' hn => by cases hn) (fun b hb => by simp [Value.ownBlock] at hb) (World.ownsRow_lit w (base := 0) cells len (Nat.zero_le _) (maxLen_ge hlen) hcs) (World.grownBy_alloc w _ none) (.inr rfl) h0 hvl hlen (fun x hx => ⟨hcl x hx, fun u hu => List.all_eq_true.1 (List.all_eq_true.1 hone x hx) u hu⟩) g2 hd
end
end Go.Proofs.YtefcfickggnmjaaDoor.Abs
