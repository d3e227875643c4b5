/- The laws of making, storing and appending over named trees. Over any program. -/
import Derived.Test.YtefcfickggnmjaaDoorAbsN
import Derived.Laws.CopyRow
import Derived.Maps.AppendAt
import Derived.Laws.MakeOwn
namespace Go.Proofs.YtefcfickggnmjaaDoor.Abs
open Go.RowKit Mem Facts

section
variable {X A : Nat → Prop} {φ : Nat → Pl} {w : World} {P : Program} {tb : List Ty} {T : Nat} {e ee : Ty} {N : Env} {M : Nat → Prop} {o : Oper} {s : S} {a : Act}
/-- A tree without names hangs on no name. -/
theorem rep_fz {v : V} {x : Value} (h : Rep X A φ w v x) (hn : v.names = []) : Fz X w v x := by
  suffices H : ∀ {v : V} {x : Value}, Rep X A φ w v x → v.names = [] → Fz X w v x from H h hn
  intro v x h
  induction h with
  | fz h => exact fun _ => h
  | agg h1 h2 _ ih =>
    intro hn
    rw [V.names] at hn
    refine .agg h1 h2 fun i y c hy hc => ih i y c hy hc (List.eq_nil_iff_forall_not_mem.2 fun m hm => ?_)
    have := mem_namesL.2 ⟨y, List.mem_of_getElem? hy, hm⟩
    rw [hn] at this; cases this
  | tup h1 _ ih =>
    intro hn
    rw [V.names] at hn
    refine .tup h1 fun i y c hy hc => ih i y c hy hc (List.eq_nil_iff_forall_not_mem.2 fun m hm => ?_)
    have := mem_namesL.2 ⟨y, List.mem_of_getElem? hy, hm⟩
    rw [hn] at this; cases this
  | fn h1 h2 _ _ ih1 ih2 =>
    intro hn
    rw [V.names, List.append_eq_nil_iff] at hn
    refine .fn h1 h2 (fun i y c hy hc => ih1 i y c hy hc (List.eq_nil_iff_forall_not_mem.2 fun m hm => ?_)) (fun i y c hy hc => ih2 i y c hy hc (List.eq_nil_iff_forall_not_mem.2 fun m hm => ?_))
    · have := mem_namesL.2 ⟨y, List.mem_of_getElem? hy, hm⟩
      rw [hn.1] at this; cases this
    · have := mem_namesL.2 ⟨y, List.mem_of_getElem? hy, hm⟩
      rw [hn.2] at this; cases this
  | ifc _ ih => exact fun hn => .ifc (ih (by rw [V.names] at hn; exact hn))
  | own0 => intro hn; simp [V.names] at hn
  | own => intro hn; simp [V.names] at hn
  | loc => intro hn; simp [V.names] at hn
  | mp => intro hn; simp [V.names] at hn
/-- The cells of a value, as memory takes them. -/
theorem rep_cells {v : V} {x : Value} (h : Rep X A φ w v x) (h1 : v.cells.all V.one = true) : v.cells.length = x.cells.size ∧ ∀ (j : Nat) u, v.cells[j]? = some u → ∃ c, x.cells[j]? = some c ∧ Rep X A φ w u c := by
  have hone : ∀ {v : V} {x : Value}, Rep X A φ w v x → v.one = true → v.cells = [v] → x.cells = #[x] → v.cells.length = x.cells.size ∧ ∀ (j : Nat) u, v.cells[j]? = some u → ∃ c, x.cells[j]? = some c ∧ Rep X A φ w u c := by
    intro v x h _ h2 h3
    rw [h2, h3]
    refine ⟨rfl, fun j u hu => ?_⟩
    rcases j with _ | j
    · simp at hu; subst hu; exact ⟨x, rfl, h⟩
    · simp at hu
  by_cases hv : v.one = true
  · have h3 := h.one hv
    refine hone h hv ?_ ?_
    · cases v <;> first | rfl | (simp [V.one] at hv)
    · cases x <;> first | rfl | (simp [Value.oneCell'] at h3)
  · cases v with
    | agg vs =>
      obtain ⟨cs, rfl, h2, h3, h4⟩ := rep_agg h
      refine ⟨h2, fun j u hu => ?_⟩
      have hj : j < cs.size := by rw [← h2]; exact (List.getElem?_eq_some_iff.1 hu).1
      exact ⟨cs[j], by simp [Value.cells, hj], h4 j u _ hu (by simp [hj])⟩
    | tup vs => simp [V.cells, V.one] at h1
    | und => simp [V.cells, V.one] at h1
    | _ => simp [V.one] at hv
theorem cells_one {v : V} {x : Value} (h : Rep X A φ w v x) (h1 : v.cells.all V.one = true) : ∀ c ∈ x.cells.toList, c.oneCell' = true := fun c hc => by
  obtain ⟨h2, h3⟩ := rep_cells h h1
  obtain ⟨j, hj⟩ := List.mem_iff_getElem?.1 hc
  have hjl : j < v.cells.length := by rw [h2]; simpa using (List.getElem?_eq_some_iff.1 hj).1
  obtain ⟨c', h4, h5⟩ := h3 j _ (List.getElem?_eq_getElem hjl)
  rw [Array.getElem?_toList, h4] at hj
  cases hj
  exact h5.one (List.all_eq_true.1 h1 _ (List.getElem_mem hjl))

/-- A new block of the walk's own. -/
theorem rel_new {ob : Obj} {k : Blk} {ν nx : Nat} {pl : Pl} {dst : Option Nat} {v : V} {x : Value} (hr : Rel N M A φ s a w) (hν : ¬ A ν) (hpl : pl.blk = some w.heap.size)
    (hk : ∀ φ', (∀ n, A n → φ' n = φ n) → BlkAt (fun b => (M b ∨ b = w.heap.size) ∨ N b) (fun b => M b ∨ b = w.heap.size) (fun n => A n ∨ n = ν) φ' (w.alloc ob) pl k)
    (hv : ∀ φ', φ' ν = pl → Rep (fun b => (M b ∨ b = w.heap.size) ∨ N b) (fun n => A n ∨ n = ν) φ' (w.alloc ob) v x) (hd : ∀ d, dst = some d → d < s.nt) :
    ∃ M' φ', Stays M w (w.alloc ob) ∧ (∀ b, b < w.heap.size → M' b → M b) ∧ Rel N M' (fun n => A n ∨ n ∈ [ν]) φ' (s.eff dst v [(ν, some k)] nx) (a.put dst x) (w.alloc ob) := by
  have hbel : Below w.heap.size w (w.alloc ob) := (Below.refl _ w).alloc (Nat.le_refl _) _
  have hs : Stays (fun b => M b ∨ N b) w (w.alloc ob) := .of_below hbel
  let φ' : Nat → Pl := fun n => if n = ν then pl else φ n
  have hφ : ∀ n, A n → φ' n = φ n := fun n hn => if_neg fun (e : n = ν) => hν (e ▸ hn)
  have hφν : φ' ν = pl := if_pos rfl
  have hX : ∀ b, b < w.heap.size → ((M b ∨ b = w.heap.size) ∨ N b) → M b ∨ N b := fun b hb h => by
    rcases h with (h | h) | h
    · exact .inl h
    · omega
    · exact .inr h
  have hgrow : Rel N (fun b => M b ∨ b = w.heap.size) (fun n => A n ∨ n = ν) φ' (s.eff none .und [(ν, some k)] nx) a (w.alloc ob) := by
    refine ⟨fun t u ht => ?_, hr.nt, fun n q hq => ?_, fun n n' q q' b h1 h2 h3 h4 => ?_, fun b hb => ?_, fun b hb hn => ?_, hr.df, fun n hn => ⟨.inl (hr.pin n hn).1, (hφ n (hr.pin n hn).1).trans (hr.pin n hn).2⟩, hr.gl.stays hs hX⟩
    · obtain ⟨h1, h2⟩ := hr.tm t u ht
      exact ⟨h1, h2.mono hX hs (fun _ h => .inl h) hφ⟩
    · have e : (s.eff none .und [(ν, some k)] nx).blk n = if ν = n then some k else s.blk n := by
        unfold S.blk S.eff
        simp only [List.cons_append, List.nil_append, lk_put]
        by_cases e : ν = n <;> simp [e]
      rw [e] at hq
      split at hq
      · rename_i e1
        subst e1
        cases hq
        exact ⟨.inr rfl, by rw [hφν]; exact hk φ' hφ⟩
      · obtain ⟨h1, h2⟩ := hr.st n q hq
        refine ⟨.inl h1, ?_⟩
        rw [hφ n h1]
        exact h2.mono hX hs (fun _ h => .inl h) hφ (fun _ h => .inl h) fun b hb => hbel.block b (hr.lim b (.inl (hr.lt_blk hq hb)))
    · have e : ∀ n, (s.eff none .und [(ν, some k)] nx).blk n = if ν = n then some k else s.blk n := fun n => by
        unfold S.blk S.eff
        simp only [List.cons_append, List.nil_append, lk_put]
        by_cases e : ν = n <;> simp [e]
      rw [e] at h1 h2
      split at h1 <;> split at h2
      · rename_i e1 e2; rw [← e1, ← e2]
      · rename_i e1 e2
        subst e1
        rw [hφν, hpl] at h3; cases h3
        have hA := (hr.st n' q' h2).1
        rw [hφ n' hA] at h4
        have := hr.lim _ (.inl (hr.lt_blk h2 h4))
        omega
      · rename_i e1 e2
        subst e2
        rw [hφν, hpl] at h4; cases h4
        have hA := (hr.st n q h1).1
        rw [hφ n hA] at h3
        have := hr.lim _ (.inl (hr.lt_blk h1 h3))
        omega
      · rw [hφ n (hr.st n q h1).1] at h3
        rw [hφ n' (hr.st n' q' h2).1] at h4
        exact hr.inj n n' q q' b h1 h2 h3 h4
    · have hsz : (w.alloc ob).heap.size = w.heap.size + 1 := by simp
      rw [hsz]
      rcases hb with (hb | hb) | hb
      · have := hr.lim b (.inl hb); omega
      · omega
      · have := hr.lim b (.inr hb); omega
    · rcases hb with hb | hb
      · exact hr.dis b hb hn
      · have := hr.lim b (.inr hn); omega
  refine ⟨fun b => M b ∨ b = w.heap.size, φ', .of_below hbel, fun b hb h => h.resolve_right (by omega), ?_⟩
  have h9 := rel_dst (nx := nx) hgrow (hv φ' hφν) hd
  refine (h9.wider fun n h => h.imp id fun h => by simpa using h).as (fun t => ?_) (fun n => rfl) rfl
  cases dst <;> rfl
theorem law_box {x : Operand} {v : V} {ν : Nat} (ho : o.op = .box T x) (hz : Nat.ble 1 v.cells.length = true) (h1 : v.cells.all V.one = true) :
    OpLaw P N o ⟨[(x, v)], []⟩ (.loc ν 0 0) [(ν, some (.els T v.cells.length [v]))] [ν] := fun s M A φ a w hh hr hν hd => by
  have hrep := hr.ev hh.a
  obtain ⟨g1, g2⟩ := rep_cells hrep h1
  have hrun : (execOp a.eval o).run P w = .ok (.value (.pointer (some ⟨w.heap.size, 0, none⟩))) (w.alloc (.cells (a.eval x).cells T)) := by
    unfold execOp; simp only [ho]; simp [Instr.box, newVar, newRow, go_sem]
  unfold Oper.wp
  rw [hrun]
  have hbel : Below w.heap.size w (w.alloc (.cells (a.eval x).cells T)) := (Below.refl _ w).alloc (Nat.le_refl _) _
  refine rel_new (pl := ⟨some w.heap.size, v.cells.length, 1⟩) hr (hν ν (by simp)) rfl (fun φ' hφ => ?_) (fun φ' hφ => ?_) hd
  · refine ⟨rfl, Nat.le_of_ble_eq_true hz, by simp [LIM], fun y hy => ?_, .inr ⟨_, (a.eval x).cells, rfl, .inr rfl, heap_alloc_new w _, by simp [g1], by simp, by simp [maxLen], fun i j y u hy hu => ?_⟩⟩
    · rw [List.mem_singleton] at hy
      subst hy
      exact ⟨rfl, fun u hu => List.all_eq_true.1 h1 u hu⟩
    · rcases i with _ | i
      · simp at hy; subst hy
        obtain ⟨c, h3, h4⟩ := g2 j u hu
        refine ⟨c, by simpa using h3, h4.mono (fun b hb h => ?_) (.of_below hbel) (fun _ h => .inl h) hφ⟩
        rcases h with (h | h) | h
        · exact .inl h
        · omega
        · exact .inr h
      · simp at hy
  · have := Rep.loc (X := fun b => (M b ∨ b = w.heap.size) ∨ N b) (A := fun n => A n ∨ n = ν) (φ := φ') (w := w.alloc (.cells (a.eval x).cells T)) (n := ν) (i := 0) (off := 0) (b := w.heap.size) (.inr rfl) (by rw [hφ])
    simpa using this
theorem rel_grow_dst {w' : World} {dst : Option Nat} {v : V} {x : Value} {nx : Nat} (hr : Rel N M A φ s a w) (hb : Below w.heap.size w w') (hv : Rep (fun b => M b ∨ N b) A φ w' v x) (hd : ∀ d, dst = some d → d < s.nt) :
    ∃ M' φ', Stays M w w' ∧ (∀ b, b < w.heap.size → M' b → M b) ∧ Rel N M' (fun n => A n ∨ n ∈ ([] : List Nat)) φ' (s.eff dst v [] nx) (a.put dst x) w' :=
  ⟨M, φ, .of_below hb, fun _ _ h => h, (rel_dst (hr.grow hb) hv hd).wider fun _ h => .inl h⟩
/-- A variable that is never written again. -/
theorem law_box_fz {x : Operand} {v : V} (ho : o.op = .box T x) (hn : v.names = []) (h1 : v.cells.all V.one = true) : OpLaw P N o ⟨[(x, v)], []⟩ (.fp v.cells 0) [] [] := fun s M A φ a w hh hr hν hd => by
  have hrep := hr.ev hh.a
  obtain ⟨g1, g2⟩ := rep_cells hrep h1
  have hrun : (execOp a.eval o).run P w = .ok (.value (.pointer (some ⟨w.heap.size, 0, none⟩))) (w.alloc (.cells (a.eval x).cells T)) := by
    unfold execOp; simp only [ho]; simp [Instr.box, newVar, newRow, go_sem]
  have hbel : Below w.heap.size w (w.alloc (.cells (a.eval x).cells T)) := (Below.refl _ w).alloc (Nat.le_refl _) _
  unfold Oper.wp
  rw [hrun]
  have hnn : ∀ u ∈ v.cells, u.names = [] := fun u hu => by
    cases v with
    | agg vs =>
      rw [V.names] at hn
      refine List.eq_nil_iff_forall_not_mem.2 fun m hm => ?_
      have := mem_namesL.2 ⟨u, hu, hm⟩
      have h9 : m ∈ V.namesL vs := this
      rw [hn] at h9; cases h9
    | _ => simp only [V.cells, List.mem_singleton] at hu; subst hu; exact hn
  refine rel_grow_dst hr hbel ?_ hd
  refine .fz (Fz.fp (o := 0) (fun j => ((a.eval x).cells[j]?).getD undef) (fun h => ?_) (by simp) (fun u hu => List.all_eq_true.1 h1 u hu) (fun j u hu => ?_) (fun j u hu => ?_))
  · have := hr.lim _ h; omega
  · obtain ⟨c, h3, _⟩ := g2 j u hu
    simp [World.cell?_alloc_new, h3]
  · obtain ⟨c, h3, h4⟩ := g2 j u hu
    rw [h3]
    exact (rep_fz h4 (hnn u (List.mem_of_getElem? hu))).mono (fun _ _ h => h) (.of_below hbel)
theorem zeros_rep {X A : Nat → Prop} {φ : Nat → Pl} {w : World} : ∀ {zs : List Zc} {vs : List Value}, zerosOk zs vs = true → zs.length = vs.length ∧ ∀ (i : Nat) z v, zs[i]? = some z → vs[i]? = some v → Rep X A φ w z.v v
  | [], [], _ => ⟨rfl, fun i z v h => by simp at h⟩
  | z :: r, v :: q, h => by
    rw [zerosOk, Bool.and_eq_true] at h
    obtain ⟨h1, h2⟩ := zeros_rep (X := X) (A := A) (φ := φ) (w := w) h.2
    refine ⟨by simp [h1], fun i y u hy hu => ?_⟩
    rcases i with _ | i
    · simp at hy hu
      subst hy hu
      have h3 := h.1
      unfold zcOk at h3
      split at h3 <;> first | (cases h3; done) | skip
      · simp at h3; obtain ⟨rfl, rfl⟩ := h3; exact .fz (.int (inR_zero _))
      · simp at h3; subst h3; exact .fz .bool
      · rename_i s
        have h4 : s.size = 0 := by simpa using h3
        have : s = ⟨#[]⟩ := ByteArray.ext (Array.eq_empty_of_size_eq_zero h4)
        subst this
        exact .fz (.str (by decide))
      · exact .fz .nilp
      · exact .fz .nils
      · exact .fz .nilm
      · exact .fz .nilf
      · exact .fz .nili
    · exact h2 i y u (by simpa using hy) (by simpa using hu)
  | [], _ :: _, h => by simp [zerosOk] at h
  | _ :: _, [], h => by simp [zerosOk] at h
/-- The zero of a type. -/
def Ty.zeroV (e : Ty) : Option V := match e.agg, e.zero with
  | true, [] => none
  | true, z :: r => some (.agg ((z :: r).map Zc.v))
  | false, [z] => some z.v
  | false, _ => none
theorem zc_one (z : Zc) : z.v.one = true := by cases z <;> rfl
theorem zc_names (z : Zc) : z.v.names = [] := by cases z <;> rfl
theorem run_zero {v : V} (htb : TbOk P tb) (hT : nth tb T = some e) (hv : e.zeroV = some v) : ∃ z, (∀ w, (zeroValue T).run P w = .ok z w) ∧ (∀ X A φ w, Rep X A φ w v z) ∧ v.cells.all V.one = true ∧ 0 < v.cells.length ∧ v.names = [] := by
  obtain ⟨i, d, ht⟩ := ty_at htb hT
  rcases ht.zero with h0 | ⟨z, h1, h2, h3⟩
  · unfold Ty.zeroV at hv; rw [h0] at hv; cases ha : e.agg <;> simp [ha] at hv
  · refine ⟨z, fun w => by simp [zeroValue, typeInfo, ht.info, h1], ?_⟩
    unfold Ty.zeroV at hv
    cases ha : e.agg with
    | true =>
      cases hz : e.zero with
      | nil => rw [ha, hz] at hv; simp at hv
      | cons z0 r =>
        rw [ha, hz] at hv
        simp only [Option.some.injEq] at hv
        subst hv
        rw [ha] at h2
        cases z <;> simp only [isAggV] at h2 <;> try (cases h2)
        rename_i cs
        rw [hz] at h3
        refine ⟨fun X A φ w => ?_, ?_, by simp [V.cells], ?_⟩
        · obtain ⟨g1, g2⟩ := zeros_rep (X := X) (A := A) (φ := φ) (w := w) h3
          refine .agg (by simpa [Value.cells] using g1) (fun v hv => ?_) (fun i v c hv hc => ?_)
          · obtain ⟨z, _, rfl⟩ := List.mem_map.1 hv; exact zc_one z
          · rw [List.getElem?_map, Option.map_eq_some_iff] at hv
            obtain ⟨z, hz, rfl⟩ := hv
            exact g2 i z c hz (by simpa [Value.cells] using hc)
        · rw [List.all_eq_true]
          intro v hv
          obtain ⟨z, _, rfl⟩ := List.mem_map.1 hv; exact zc_one z
        · rw [V.names]
          refine List.eq_nil_iff_forall_not_mem.2 fun m hm => ?_
          obtain ⟨v, hv, hm⟩ := mem_namesL.1 hm
          obtain ⟨z, _, rfl⟩ := List.mem_map.1 hv
          rw [zc_names] at hm; cases hm
    | false =>
      cases hz : e.zero with
      | nil => rw [ha, hz] at hv; simp at hv
      | cons z0 r =>
        cases r with
        | cons z1 r => rw [ha, hz] at hv; simp at hv
        | nil =>
          rw [ha, hz] at hv
          simp only [Option.some.injEq] at hv
          subst hv
          rw [ha] at h2
          rw [hz] at h3
          have hzc : z.cells = #[z] := by cases z <;> first | rfl | (simp [isAggV] at h2)
          have hcs : z0.v.cells = [z0.v] := by cases z0 <;> rfl
          refine ⟨fun X A φ w => ?_, by rw [hcs]; simp [zc_one], by rw [hcs]; simp, zc_names z0⟩
          obtain ⟨g1, g2⟩ := zeros_rep (X := X) (A := A) (φ := φ) (w := w) h3
          exact g2 0 z0 z rfl (by rw [hzc]; rfl)
theorem law_alloc {v : V} {ν : Nat} (htb : TbOk P tb) (ho : o.op = .alloc T) (hT : nth tb T = some e) (hv : e.zeroV = some v) :
    OpLaw P N o ⟨[], []⟩ (.loc ν 0 0) [(ν, some (.els T v.cells.length [v]))] [ν] := fun s M A φ a w hh hr hν hd => by
  obtain ⟨z, hz, hrep, h1, h0, _⟩ := run_zero htb hT hv
  obtain ⟨g1, g2⟩ := rep_cells (hrep (fun b => M b ∨ N b) A φ w) h1
  have hrun : (execOp a.eval o).run P w = .ok (.value (.pointer (some ⟨w.heap.size, 0, none⟩))) (w.alloc (.cells z.cells T)) := by
    unfold execOp; simp only [ho]; simp [Instr.alloc, newVar, newRow, go_sem, hz]
  unfold Oper.wp
  rw [hrun]
  have hbel : Below w.heap.size w (w.alloc (.cells z.cells T)) := (Below.refl _ w).alloc (Nat.le_refl _) _
  refine rel_new (pl := ⟨some w.heap.size, v.cells.length, 1⟩) hr (hν ν (by simp)) rfl (fun φ' hφ => ?_) (fun φ' hφ => ?_) hd
  · refine ⟨rfl, h0, by simp [LIM], fun y hy => ?_, .inr ⟨_, z.cells, rfl, .inr rfl, heap_alloc_new w _, by simp [g1], by simp, by simp [maxLen], fun i j y u hy hu => ?_⟩⟩
    · rw [List.mem_singleton] at hy
      subst hy
      exact ⟨rfl, fun u hu => List.all_eq_true.1 h1 u hu⟩
    · rcases i with _ | i
      · simp at hy; subst hy
        obtain ⟨c, h3, h4⟩ := g2 j u hu
        refine ⟨c, by simpa using h3, h4.mono (fun b hb h => ?_) (.of_below hbel) (fun _ h => .inl h) hφ⟩
        rcases h with (h | h) | h
        · exact .inl h
        · omega
        · exact .inr h
      · simp at hy
  · have := Rep.loc (X := fun b => (M b ∨ b = w.heap.size) ∨ N b) (A := fun n => A n ∨ n = ν) (φ := φ') (w := w.alloc (.cells z.cells T)) (n := ν) (i := 0) (off := 0) (b := w.heap.size) (.inr rfl) (by rw [hφ])
    simpa using this
/-- A row's element, changed in part. -/
theorem putV_cells {el v el' : V} {off : Nat} (h : putV el off v = some el') (hel : ¬ el.one = true ∨ v.cells.length = 1) (hel2 : el.one = true ∨ ∃ vs, el = .agg vs) : off + v.cells.length ≤ el.cells.length ∧ el'.cells = el.cells.take off ++ v.cells ++ el.cells.drop (off + v.cells.length) := by
  unfold putV at h
  split at h
  · rename_i vs
    cases hs : setC vs off v.cells with
    | none => rw [hs] at h; cases h
    | some q =>
      rw [hs] at h; cases h
      obtain ⟨h1, rfl⟩ := setC_some hs
      exact ⟨h1, rfl⟩
  · rename_i hne
    have h1 : el.one = true := hel2.resolve_right fun ⟨vs, e⟩ => hne vs e
    have hl : v.cells.length = 1 := hel.resolve_left (fun h => h h1)
    have hc : el.cells = [el] := by cases el <;> first | rfl | (simp [V.one] at h1)
    cases off with
    | zero => cases h; rw [hc]; simp [hl]
    | succ n => cases h
theorem run_store_at {b o : Nat} {cur : Array Value} {T' : Nat} {v : Value} {i : TypeInfo} (hi : P.info? T = some i) (hs : v.cells.size = i.size) (hb : w.heap[b]? = some (.cells cur T' (0, 0))) (hn : o + v.cells.size ≤ cur.size) (h1 : ∀ c ∈ v.cells.toList, c.oneCell' = true) :
    (Instr.storeAt T (.pointer (some ⟨b, o, none⟩)) v).run P w = .ok () (w.setRow b (cur.toList.take o ++ v.cells.toList ++ cur.toList.drop (o + v.cells.toList.length)).toArray) := by
  have := run_storeCells_at (P := P) b o T' v.cells.toList 0 cur w hb (by simpa using hn) h1
  unfold Instr.storeAt Instr.sureAddr storeVar
  simp only [Sem.run_bind, Sem.run_pure, Result.andThen_ok, run_sizeOf' hi, hs, ne_eq, not_true_eq_false, if_false]
  rw [this]
  simp
theorem rel_set {n T' sz : Nat} {xs xs' : List V} {b : Nat} {cur cur' : Array Value} {dst : Option Nat} {nx : Nat} {v : V} {x : Value} (hr : Rel N M A φ s a w) (hk : s.blk n = some (.els T' sz xs)) (hb : (φ n).blk = some b) (hc : w.heap[b]? = some (.cells cur T' (0, 0))) (hsz : cur'.size = cur.size) (hlen : xs'.length = xs.length)
    (h1 : ∀ x ∈ xs', x.cells.length = sz ∧ ∀ u ∈ x.cells, u.one = true) (h2 : ∀ (i j : Nat) x u, xs'[i]? = some x → x.cells[j]? = some u → ∃ c, cur'[i * sz + j]? = some c ∧ Rep (fun b => M b ∨ N b) A φ w u c) (hv : Rep (fun b => M b ∨ N b) A φ w v x) (hd : ∀ d, dst = some d → d < s.nt) :
    ∃ M' φ', Stays M w (w.setRow b cur') ∧ (∀ b, b < w.heap.size → M' b → M b) ∧ Rel N M' (fun n => A n ∨ n ∈ ([] : List Nat)) φ' (s.eff dst v [(n, some (.els T' sz xs'))] nx) (a.put dst x) (w.setRow b cur') := by
  have hM : M b := hr.lt_blk hk hb
  have hst : ∀ Q : Nat → Prop, Q b → Stays Q w (w.setRow b cur') := fun Q hQ => ⟨rfl, rfl, rfl, by simp, fun b' _ hb' => setRow_other w b b' cur' fun e => hb' (e ▸ hQ)⟩
  have hs := hst (fun b => M b ∨ N b) (.inl hM)
  refine ⟨M, φ, hst M hM, fun _ _ h => h, ?_⟩
  have hgrow : Rel N M A φ (s.eff none .und [(n, some (.els T' sz xs'))] nx) a (w.setRow b cur') := by
    have eb : ∀ m, (s.eff none .und [(n, some (.els T' sz xs'))] nx).blk m = if n = m then some (.els T' sz xs') else s.blk m := fun m => by
      unfold S.blk S.eff
      simp only [List.cons_append, List.nil_append, lk_put]
      by_cases e : n = m <;> simp [e]
    have name : ∀ m k, (s.eff none .und [(n, some (.els T' sz xs'))] nx).blk m = some k → ∃ k', s.blk m = some k' := fun m k h => by
      rw [eb] at h
      split at h
      · rename_i e; subst e; exact ⟨_, hk⟩
      · exact ⟨_, h⟩
    refine ⟨fun t u ht => ?_, hr.nt, fun m q hq => ?_, fun m m' q q' b' g1 g2 g3 g4 => ?_, fun b' hb' => ?_, hr.dis, hr.df, hr.pin, hr.gl.stays hs fun _ _ h => h⟩
    · obtain ⟨g1, g2⟩ := hr.tm t u ht
      exact ⟨g1, g2.mono (fun _ _ h => h) hs (fun _ h => h) fun _ _ => rfl⟩
    · rw [eb] at hq
      split at hq
      · rename_i e; subst e; cases hq
        obtain ⟨g0, g1, g2, g3, _, g5⟩ := hr.st n _ hk
        refine ⟨g0, g1, g2, by rw [hlen]; exact g3, h1, ?_⟩
        rcases g5 with ⟨k1, _⟩ | ⟨b', cur0, k1, k2, k3, k4, k5, k6, _⟩
        · rw [hb] at k1; cases k1
        · rw [hb] at k1; cases k1
          rw [hc] at k3; cases k3
          refine .inr ⟨b, cur', hb, k2, setRow_heap w b cur cur' T' (0, 0) hc, by rw [hsz]; exact k4, by rw [hlen]; exact k5, k6, fun i j x u hx hu => ?_⟩
          obtain ⟨c, k7, k8⟩ := h2 i j x u hx hu
          exact ⟨c, k7, k8.mono (fun _ _ h => h) hs (fun _ h => h) fun _ _ => rfl⟩
      · rename_i e
        obtain ⟨g0, g1⟩ := hr.st m q hq
        exact ⟨g0, g1.mono (fun _ _ h => h) hs (fun _ h => h) (fun _ _ => rfl) (fun _ h => h) fun b' hb' => setRow_other w b b' cur' fun e2 => e (hr.inj n m _ _ b hk hq hb (by rw [hb', e2]))⟩
    · obtain ⟨k1, f1⟩ := name m q g1
      obtain ⟨k2, f2⟩ := name m' q' g2
      exact hr.inj m m' k1 k2 b' f1 f2 g3 g4
    · have := hr.lim b' hb'; simpa using this
  have h9 := rel_dst (nx := nx) hgrow (hv.mono (fun _ _ h => h) hs (fun _ h => h) fun _ _ => rfl) hd
  refine (h9.wider fun n h => .inl h).as (fun t => ?_) (fun n => rfl) rfl
  cases dst <;> rfl
theorem law_store {x y : Operand} {n i off T' sz : Nat} {xs xs' : List V} {el v el' : V} (htb : TbOk P tb) (ho : o.op = .store T x y) (hT : nth tb T = some e) (he : xs[i]? = some el) (hv1 : v.cells.all V.one = true) (hvs : v.cells.length = e.size) (hp : putV el off v = some el') (hel : (!el.one || Nat.beq v.cells.length 1) = true)
    (hxs : xs.set i el' = xs') : OpLaw P N o ⟨[(x, .loc n i off), (y, v)], [(n, .els T' sz xs)]⟩ .und [(n, some (.els T' sz xs'))] [] := fun s M A φ a w hh hr _ hd => by
  subst hxs
  obtain ⟨b, h1, h2⟩ := rep_loc (hr.ev hh.a)
  have hrep := hr.ev hh.b
  obtain ⟨ti, d, ht⟩ := ty_at htb hT
  obtain ⟨g0, g1, g2, g3, g4, g5⟩ := hr.st n _ hh.n
  rcases g5 with ⟨k1, _⟩ | ⟨b', cur, k1, k2, k3, k4, k5, k6, k7⟩
  · rw [h1] at k1; cases k1
  rw [h1] at k1; cases k1
  rw [g1] at h2
  obtain ⟨c1, c2⟩ := rep_cells hrep hv1
  obtain ⟨el1, el2⟩ := g4 el (List.mem_of_getElem? he)
  have hil : i < xs.length := (List.getElem?_eq_some_iff.1 he).1
  have hagg : el.one = true ∨ ∃ vs, el = .agg vs := by
    cases el with
    | agg vs => exact .inr ⟨vs, rfl⟩
    | tup vs => have := el2 (.tup vs) (by simp [V.cells]); simp [V.one] at this
    | und => have := el2 .und (by simp [V.cells]); simp [V.one] at this
    | _ => exact .inl rfl
  obtain ⟨p1, p2⟩ := putV_cells hp (by
    rw [Bool.or_eq_true] at hel
    rcases hel with h | h
    · exact .inl (by simpa using h)
    · exact .inr (Nat.eq_of_beq_eq_true h)) hagg
  have hfit : i * sz + off + (a.eval y).cells.size ≤ cur.size := by
    rw [← c1, k4]
    have : (i + 1) * sz ≤ (φ n).cap * sz := Nat.mul_le_mul_right _ (by omega)
    rw [Nat.add_mul] at this
    omega
  have hrun : (execOp a.eval o).run P w = .ok .skip (w.setRow b (cur.toList.take (i * sz + off) ++ (a.eval y).cells.toList ++ cur.toList.drop (i * sz + off + (a.eval y).cells.toList.length)).toArray) := by
    unfold execOp
    simp only [ho, h2]
    have := run_store_at (P := P) (T := T) ht.info (by rw [← c1, hvs, ht.size]) k3 hfit (cells_one hrep hv1)
    simp only [Sem.run_bind, this, Result.andThen_ok, Sem.run_pure]
  unfold Oper.wp
  rw [hrun]
  refine rel_set hr hh.n h1 k3 ?_ (by simp) ?_ ?_ (.fz .und) hd
  · simp; omega
  · intro y' hy'
    rcases List.mem_or_eq_of_mem_set hy' with h | h
    · exact g4 y' h
    · subst h
      refine ⟨by rw [p2, ← el1]; simp; omega, fun u hu => ?_⟩
      rw [p2] at hu
      simp only [List.mem_append] at hu
      rcases hu with (hu | hu) | hu
      · exact el2 u (List.mem_of_mem_take hu)
      · exact List.all_eq_true.1 hv1 u hu
      · exact el2 u (List.mem_of_mem_drop hu)
  · intro i' j x' u hx' hu
    have cell : ∀ q, (cur.toList.take (i * sz + off) ++ (a.eval y).cells.toList ++ cur.toList.drop (i * sz + off + (a.eval y).cells.toList.length)).toArray[q]? = if q < i * sz + off then cur[q]? else if q < i * sz + off + (a.eval y).cells.size then (a.eval y).cells[q - (i * sz + off)]? else cur[q]? := fun q => by
      simp only [List.getElem?_toArray]
      by_cases q1 : q < i * sz + off
      · rw [if_pos q1, List.append_assoc, List.getElem?_append_left (by simp; omega), List.getElem?_take_of_lt q1]; simp
      · rw [if_neg q1]
        by_cases q2 : q < i * sz + off + (a.eval y).cells.size
        · rw [if_pos q2, List.getElem?_append_left (by simp; omega), List.getElem?_append_right (by simp; omega)]
          simp
          congr 1
          omega
        · rw [if_neg q2, List.getElem?_append_right (by simp; omega), List.getElem?_drop]
          simp
          congr 1
          omega
    rw [List.getElem?_set] at hx'
    split at hx'
    · rename_i e1
      subst e1
      first
        | rw [if_pos hil] at hx'
        | skip
      cases hx'
      have hj : j < sz := by
        have := (List.getElem?_eq_some_iff.1 hu).1
        rw [p2] at this
        simp at this; omega
      rw [cell]
      rw [p2] at hu
      by_cases j1 : j < off
      · rw [if_pos (by omega)]
        rw [List.append_assoc, List.getElem?_append_left (by simp; omega), List.getElem?_take_of_lt j1] at hu
        exact k7 i j el u he hu
      · rw [if_neg (by omega)]
        by_cases j2 : j < off + v.cells.length
        · rw [if_pos (by omega)]
          rw [List.getElem?_append_left (by simp; omega), List.getElem?_append_right (by simp; omega)] at hu
          obtain ⟨c, c3, c4⟩ := c2 _ u hu
          refine ⟨c, ?_, c4⟩
          rw [← c3]
          congr 1
          simp; omega
        · rw [if_neg (by omega)]
          rw [List.getElem?_append_right (by simp; omega), List.getElem?_drop] at hu
          refine k7 i j el u he ?_
          rw [← hu]
          congr 1
          simp; omega
    · rename_i e1
      have hi' : i' < xs.length := (List.getElem?_eq_some_iff.1 hx').1
      have hj : j < sz := by
        have := (List.getElem?_eq_some_iff.1 hu).1
        rw [(g4 x' (List.mem_of_getElem? hx')).1] at this
        exact this
      rw [cell]
      have : ¬ (i * sz + off ≤ i' * sz + j ∧ i' * sz + j < i * sz + off + (a.eval y).cells.size) := by
        rw [← c1]
        rintro ⟨q1, q2⟩
        rcases Nat.lt_or_gt_of_ne e1 with h | h
        · have : (i + 1) * sz ≤ i' * sz := Nat.mul_le_mul_right _ h
          rw [Nat.add_mul] at this; omega
        · have : (i' + 1) * sz ≤ i * sz := Nat.mul_le_mul_right _ h
          rw [Nat.add_mul] at this; omega
      obtain ⟨c, q3, q4⟩ := k7 i' j x' u hx' hu
      refine ⟨c, ?_, q4⟩
      split
      · exact q3
      · rw [if_neg (by omega)]; exact q3
end
end Go.Proofs.YtefcfickggnmjaaDoor.Abs
