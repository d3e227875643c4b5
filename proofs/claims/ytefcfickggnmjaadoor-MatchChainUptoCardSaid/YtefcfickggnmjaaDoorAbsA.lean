/- The laws of building, making and appending over named trees. Over any program. -/
import Derived.Test.YtefcfickggnmjaaDoorAbsG
import Derived.Laws.Tables
import Derived.Laws.OwnMore
namespace Go.Proofs.YtefcfickggnmjaaDoor.Abs
open Go.RowKit Mem Facts

section
variable {X A : Nat → Prop} {φ : Nat → Pl} {w w' : World} {P : Program} {tb : List Ty} {T : Nat} {e ee : Ty} {N : Env} {M : Nat → Prop} {o : Oper} {s : S} {a : Act}

/-- Cells, one by one. -/
def Reps (X A : Nat → Prop) (φ : Nat → Pl) (w : World) (cs : List V) (xs : List Value) : Prop := cs.length = xs.length ∧ ∀ (j : Nat) u, cs[j]? = some u → ∃ c, xs[j]? = some c ∧ Rep X A φ w u c
theorem Reps.at {cs : List V} {xs : List Value} (h : Reps X A φ w cs xs) {j : Nat} {u : V} {c : Value} (hu : cs[j]? = some u) (hc : xs[j]? = some c) : Rep X A φ w u c := by
  obtain ⟨c', h1, h2⟩ := h.2 j u hu
  rw [hc] at h1; cases h1; exact h2
theorem Reps.mk' {cs : List V} {xs : List Value} (hl : cs.length = xs.length) (h : ∀ (j : Nat) u c, cs[j]? = some u → xs[j]? = some c → Rep X A φ w u c) : Reps X A φ w cs xs := ⟨hl, fun j u hu => by
  have hj : j < xs.length := by rw [← hl]; exact (List.getElem?_eq_some_iff.1 hu).1
  exact ⟨xs[j], by simp [hj], h j u _ hu (by simp [hj])⟩⟩
theorem Reps.append {cs ds : List V} {xs ys : List Value} (h : Reps X A φ w cs xs) (k : Reps X A φ w ds ys) : Reps X A φ w (cs ++ ds) (xs ++ ys) := by
  refine .mk' (by simp [h.1, k.1]) fun j u c hu hc => ?_
  by_cases hj : j < cs.length
  · rw [List.getElem?_append_left hj] at hu
    rw [List.getElem?_append_left (by rw [← h.1]; exact hj)] at hc
    exact h.at hu hc
  · rw [List.getElem?_append_right (by omega)] at hu
    rw [List.getElem?_append_right (by rw [← h.1]; omega), ← h.1] at hc
    exact k.at hu hc
theorem Reps.take {cs : List V} {xs : List Value} (h : Reps X A φ w cs xs) (n : Nat) : Reps X A φ w (cs.take n) (xs.take n) := by
  refine .mk' (by simp [h.1]) fun j u c hu hc => ?_
  rw [List.getElem?_take] at hu hc
  split at hu
  · rename_i hj; rw [if_pos hj] at hc; exact h.at hu hc
  · cases hu
theorem Reps.drop {cs : List V} {xs : List Value} (h : Reps X A φ w cs xs) (n : Nat) : Reps X A φ w (cs.drop n) (xs.drop n) := by
  refine .mk' (by simp [h.1]) fun j u c hu hc => ?_
  rw [List.getElem?_drop] at hu hc
  exact h.at hu hc
theorem rep_reps {v : V} {x : Value} (h : Rep X A φ w v x) (h1 : v.cells.all V.one = true) : Reps X A φ w v.cells x.cells.toList := by
  obtain ⟨h2, h3⟩ := rep_cells h h1
  exact ⟨by simpa using h2, fun j u hu => by
    obtain ⟨c, h4, h5⟩ := h3 j u hu
    exact ⟨c, by simpa using h4, h5⟩⟩

/-! ### Building a struct or an array -/
theorem fold_set : ∀ (vs : List Value) (off k : Nat) (cur : Array Value), off + k + vs.length ≤ cur.size →
    (((vs.zipIdx k).foldl (fun cs p => cs.setIfInBounds (off + p.2) p.1) cur).toList = cur.toList.take (off + k) ++ vs ++ cur.toList.drop (off + k + vs.length))
  | [], off, k, cur, _ => by simp
  | v :: r, off, k, cur, h => by
    simp only [List.length_cons] at h
    rw [List.zipIdx_cons, List.foldl_cons, fold_set r off (k + 1) _ (by simp; omega)]
    simp only [Array.toList_setIfInBounds]
    have e1 : (cur.toList.set (off + k) v).take (off + (k + 1)) = cur.toList.take (off + k) ++ [v] := by
      rw [show off + (k + 1) = off + k + 1 from by omega, List.take_add_one, List.take_set_of_le (Nat.le_refl _), List.getElem?_set_self (by simp; omega)]
      rfl
    have e2 : (cur.toList.set (off + k) v).drop (off + (k + 1) + r.length) = cur.toList.drop (off + k + (r.length + 1)) := by
      rw [List.drop_set_of_lt (by omega)]
      congr 1; omega
    rw [e1, e2]
    simp
def fillV (pl : Nat → Option (Nat × Nat)) : List V → List (Nat × V) → Option (List V)
  | cs, [] => some cs
  | cs, (i, v) :: r => match pl i with
    | none => none
    | some (off, sz) => bif Nat.beq v.cells.length sz then (match setC cs off v.cells with
      | none => none
      | some cs' => fillV pl cs' r) else none
theorem fill_reps {pl : Nat → Option (Nat × Nat)} : ∀ {ps : List (Nat × V)} {qs : List (Nat × Value)} {cs cs' : List V} {cur : Array Value}, ps.map (·.1) = qs.map (·.1) → (∀ p ∈ ps, p.2.cells.all V.one = true) → Reps X A φ w cs cur.toList →
      (∀ (i : Nat) p q, ps[i]? = some p → qs[i]? = some q → Rep X A φ w p.2 q.2) → fillV pl cs ps = some cs' → ∃ out, Instr.fill pl cur qs = some out ∧ Reps X A φ w cs' out.toList
  | [], [], cs, cs', cur, _, _, hr, _, h => by
    rw [fillV] at h; cases h
    exact ⟨cur, rfl, hr⟩
  | [], _ :: _, _, _, _, h, _, _, _, _ => by simp at h
  | _ :: _, [], _, _, _, h, _, _, _, _ => by simp at h
  | (i, v) :: ps, (i', x) :: qs, cs, cs', cur, hi, h1, hr, hp, h => by
    simp only [List.map_cons, List.cons.injEq] at hi
    obtain ⟨rfl, hi⟩ := hi
    rw [fillV] at h
    cases hpl : pl i with
    | none => rw [hpl] at h; cases h
    | some q =>
      obtain ⟨off, sz⟩ := q
      rw [hpl] at h
      simp only at h
      cases hb : Nat.beq v.cells.length sz with
      | false => rw [hb] at h; cases h
      | true =>
        rw [hb] at h
        simp only [cond_true] at h
        have hsz := Nat.eq_of_beq_eq_true hb
        have hv1 := h1 (i, v) List.mem_cons_self
        have hvx := rep_reps (hp 0 _ _ rfl rfl) hv1
        simp only at hvx
        cases hs : setC cs off v.cells with
        | none => rw [hs] at h; cases h
        | some ds =>
          rw [hs] at h
          simp only at h
          obtain ⟨g1, rfl⟩ := setC_some hs
          have hxs : x.cells.size = v.cells.length := by have := hvx.1; simpa using this.symm
          have hcur : cs.length = cur.size := by have := hr.1; simpa using this
          have hfold := fold_set x.cells.toList off 0 cur (by simp [hxs]; omega)
          have hz : x.cells.zipIdx.foldl (fun cs p => cs.setIfInBounds (off + p.2) p.1) cur = (x.cells.toList.zipIdx 0).foldl (fun cs p => cs.setIfInBounds (off + p.2) p.1) cur := by
            rw [← Array.foldl_toList, Array.toList_zipIdx]
          have hrep' : Reps X A φ w (cs.take off ++ v.cells ++ cs.drop (off + v.cells.length)) (x.cells.zipIdx.foldl (fun cs p => cs.setIfInBounds (off + p.2) p.1) cur).toList := by
            rw [hz, hfold]
            rw [show off + 0 = off from rfl, show off + x.cells.toList.length = off + v.cells.length from by simp [hxs]]
            exact ((hr.take off).append hvx).append (hr.drop _)
          obtain ⟨out, g2, g3⟩ := fill_reps (pl := pl) hi (fun p hp' => h1 p (List.mem_cons_of_mem _ hp')) hrep' (fun j p q hj hq => hp (j + 1) p q (by simpa using hj) (by simpa using hq)) h
          refine ⟨out, ?_, g3⟩
          rw [Instr.fill, hpl]
          simp only
          rw [if_neg (by rw [hxs, ← hcur]; simp; omega)]
          exact g2
theorem setC_one : ∀ {l : List V} {n : Nat} {us q : List V}, setC l n us = some q → (∀ u ∈ l, u.one = true) → (∀ u ∈ us, u.one = true) → ∀ u ∈ q, u.one = true := fun {l n us q} h h1 h2 u hu => by
  obtain ⟨_, rfl⟩ := setC_some h
  simp only [List.mem_append] at hu
  rcases hu with (hu | hu) | hu
  · exact h1 u (List.mem_of_mem_take hu)
  · exact h2 u hu
  · exact h1 u (List.mem_of_mem_drop hu)
theorem fillV_one {pl : Nat → Option (Nat × Nat)} : ∀ {ps : List (Nat × V)} {cs cs' : List V}, (∀ p ∈ ps, p.2.cells.all V.one = true) → (∀ u ∈ cs, u.one = true) → fillV pl cs ps = some cs' → ∀ u ∈ cs', u.one = true
  | [], cs, cs', _, hc, h => by rw [fillV] at h; cases h; exact hc
  | (i, v) :: ps, cs, cs', h1, hc, h => by
    rw [fillV] at h
    cases hpl : pl i with
    | none => rw [hpl] at h; cases h
    | some q =>
      obtain ⟨off, sz⟩ := q
      rw [hpl] at h
      simp only at h
      cases hb : Nat.beq v.cells.length sz with
      | false => rw [hb] at h; cases h
      | true =>
        rw [hb] at h
        simp only [cond_true] at h
        cases hs : setC cs off v.cells with
        | none => rw [hs] at h; cases h
        | some ds =>
          rw [hs] at h
          exact fillV_one (fun p hp => h1 p (List.mem_cons_of_mem _ hp)) (setC_one hs hc fun u hu => List.all_eq_true.1 (h1 (i, v) List.mem_cons_self) u hu) h
/-- Where a part lies. -/
def Ty.place (tb : List Ty) (e : Ty) (i : Nat) : Option (Nat × Nat) := match e.arr with
  | some (_, el) => (match nth tb el with
    | some ee => some (i * ee.size, ee.size)
    | none => none)
  | none => (match nth e.flds i with
    | some (off, ft) => (match nth tb ft with
      | some ef => some (off, ef.size)
      | none => none)
    | none => none)
def Ty.placeOk (tb : List Ty) (e : Ty) : Bool := match e.arr with
  | some (_, el) => (nth tb el).isSome
  | none => e.flds.all fun p => (nth tb p.2).isSome
theorem fill_congr {pl pl' : Nat → Option (Nat × Nat)} (h : ∀ i, pl i = pl' i) : pl = pl' := funext h
theorem mapM_places {tb : List Ty} (htb : TbOk P tb) : ∀ (fs : List Field), (∀ f ∈ fs, (nth tb f.type).isSome = true) → ∃ q, fs.mapM (fun f => (P.info? f.type).map fun i => (f.offset, i.size)) = some q ∧ ∀ i : Nat, q[i]? = (match (fs.map fun f => (f.offset, f.type))[i]? with
      | some (off, ft) => (match nth tb ft with
        | some ef => some (off, ef.size)
        | none => none)
      | none => none)
  | [], _ => ⟨[], rfl, fun i => by simp⟩
  | f :: fs, h => by
    obtain ⟨q, h1, h2⟩ := mapM_places htb fs fun g hg => h g (List.mem_cons_of_mem _ hg)
    obtain ⟨ef, hef⟩ := Option.isSome_iff_exists.1 (h f List.mem_cons_self)
    obtain ⟨ti, d, ht⟩ := ty_at htb hef
    refine ⟨(f.offset, ef.size) :: q, by simp [List.mapM_cons, ht.info, h1, ht.size], fun i => ?_⟩
    rcases i with _ | i
    · simp [hef]
    · simpa using h2 i
def zipP : List (Nat × Operand) → List V → List (Nat × V)
  | (i, _) :: r, v :: q => (i, v) :: zipP r q
  | _, _ => []
theorem zipP_map : ∀ (ps : List (Nat × Operand)) (vs : List V), vs.length = ps.length → zipP ps vs = (ps.map (·.1)).zip vs
  | [], vs, h => by have : vs = [] := List.eq_nil_of_length_eq_zero h; subst this; rfl
  | (i, x) :: r, v :: q, h => by rw [zipP, zipP_map r q (by simpa using h)]; rfl
  | _ :: _, [], h => by simp at h
theorem law_build {ps : Array (Nat × Operand)} {vs cs : List V} {z : V} (htb : TbOk P tb) (ho : o.op = .build T ps) (hl : Nat.beq vs.length ps.size = true) (hT : nth tb T = some e) (hpl : e.placeOk tb = true) (hz : e.zeroV = some z) (hag : e.agg = true) (h1 : (vs.all fun v => v.cells.all V.one) = true) (hf : fillV (e.place tb) z.cells (zipP ps.toList vs) = some cs) :
    OpLaw P N o ⟨(ps.toList.map (·.2)).zip vs, []⟩ (.agg cs) [] [] := law_pure fun s M A φ a w hh hr => by
  have hlen : vs.length = ps.toList.length := by simpa using Nat.eq_of_beq_eq_true hl
  obtain ⟨ti, d, ht⟩ := ty_at htb hT
  obtain ⟨zv, hzv, hrep, hz1, hz0, _⟩ := run_zero htb hT hz
  have hzi : ti.zero = some zv := by
    have := hzv default
    unfold zeroValue typeInfo at this
    simp [ht.info] at this
    cases h : ti.zero with
    | none => simp [h] at this
    | some q => simp [h] at this; rw [this]
  have hzr := rep_reps (hrep (fun b => M b ∨ N b) A φ w) hz1
  rw [zipP_map _ _ hlen] at hf
  have hps : ∀ p ∈ (ps.toList.map (·.1)).zip vs, p.2.cells.all V.one = true := fun p hp => List.all_eq_true.1 h1 _ (List.of_mem_zip hp).2
  have hat : ∀ (i : Nat) p q, ((ps.toList.map (·.1)).zip vs)[i]? = some p → ((ps.map fun (i, x) => (i, a.eval x)).toList)[i]? = some q → Rep (fun b => M b ∨ N b) A φ w p.2 q.2 := fun i p q hp hq => by
    rw [List.getElem?_zip_eq_some] at hp
    obtain ⟨hp1, hp2⟩ := hp
    simp only [Array.toList_map, List.getElem?_map, Option.map_eq_some_iff] at hq hp1
    obtain ⟨q0, hq0, rfl⟩ := hq
    refine hr.ev (hh.1 (q0.2, p.2) ?_)
    exact List.mem_of_getElem? (i := i) (by rw [List.getElem?_zip_eq_some]; exact ⟨by simp [hq0], hp2⟩)
  obtain ⟨out, g1, g2⟩ := fill_reps (pl := e.place tb) (by rw [List.map_fst_zip (by simp [hlen])]; simp) hps hzr hat hf
  have hone : ∀ u ∈ cs, u.one = true := fillV_one hps (fun u hu => List.all_eq_true.1 hz1 u hu) hf
  have hb : P.built T (ps.map fun (i, x) => (i, a.eval x)).toList = some out := by
    unfold Program.built
    rw [ht.info, ht.und]
    have hag' := ht.agg
    rw [hag] at hag'
    have ha := ht.arr
    have hfl := ht.flds
    cases d <;> simp only [aggOf] at hag' <;> try (cases hag')
    · rename_i n el
      simp only [hzi]
      unfold Ty.placeOk at hpl
      rw [ha] at hpl
      simp only [arrOf] at hpl
      obtain ⟨ee, hee⟩ := Option.isSome_iff_exists.1 hpl
      obtain ⟨ti', d', ht'⟩ := ty_at htb hee
      rw [ht'.info]
      simp only
      have : (fun i => some (i * ti'.size, ti'.size)) = e.place tb := fill_congr fun i => by
        unfold Ty.place
        rw [ha]
        simp only [arrOf]
        rw [hee, ht'.size]
      rw [this]; exact g1
    · rename_i fs
      simp only [hzi]
      unfold Ty.placeOk at hpl
      rw [ha] at hpl
      simp only [arrOf] at hpl
      rw [hfl] at hpl
      simp only [fldsOf, List.all_map, List.all_eq_true, Function.comp] at hpl
      obtain ⟨q, k1, k2⟩ := mapM_places (P := P) htb fs.toList hpl
      rw [k1]
      simp only
      have : (fun i => q.toArray[i]?) = e.place tb := fill_congr fun i => by
        rw [List.getElem?_toArray, k2]
        unfold Ty.place
        rw [ha]
        simp only [arrOf]
        rw [nth_eq, hfl]
        rfl
      rw [this]; exact g1
  refine ⟨.agg out, ?_, .agg (by simpa using g2.1) hone fun i x c hx hc => g2.at hx (by simpa using hc)⟩
  unfold execOp
  simp only [ho, Sem.run_bind, run_build w T _ out hb, Result.andThen_ok, Sem.run_pure]
/-! ### Rows that grow -/
def flat (xs : List V) : List V := xs.flatMap V.cells
theorem flat_app (xs ys : List V) : flat (xs ++ ys) = flat xs ++ flat ys := by simp [flat]
theorem flat_len {sz : Nat} : ∀ {xs : List V}, (∀ x ∈ xs, x.cells.length = sz) → (flat xs).length = xs.length * sz
  | [], _ => by simp [flat]
  | x :: r, h => by
    have := flat_len (xs := r) fun y hy => h y (List.mem_cons_of_mem _ hy)
    unfold flat at this ⊢
    rw [List.flatMap_cons, List.length_append, this, h x List.mem_cons_self, List.length_cons, Nat.add_mul]
    omega
theorem flat_at {sz : Nat} : ∀ {xs : List V}, (∀ x ∈ xs, x.cells.length = sz) → ∀ {i j : Nat} {x u : V}, xs[i]? = some x → x.cells[j]? = some u → (flat xs)[i * sz + j]? = some u
  | [], _, i, j, x, u, hx, _ => by simp at hx
  | y :: r, h, i, j, x, u, hx, hu => by
    have hy := h y List.mem_cons_self
    unfold flat
    rw [List.flatMap_cons]
    rcases i with _ | i
    · simp at hx; subst hx
      have hj := (List.getElem?_eq_some_iff.1 hu).1
      rw [Nat.zero_mul, Nat.zero_add, List.getElem?_append_left hj]
      exact hu
    · have := flat_at (xs := r) (fun z hz => h z (List.mem_cons_of_mem _ hz)) (i := i) (by simpa using hx) hu
      rw [List.getElem?_append_right (by rw [hy, Nat.add_mul]; omega)]
      rw [hy, show (i + 1) * sz + j - sz = i * sz + j from by rw [Nat.add_mul]; omega]
      exact this
theorem flat_of {sz : Nat} : ∀ {xs : List V}, (∀ x ∈ xs, x.cells.length = sz) → ∀ {q : Nat} {u : V}, (flat xs)[q]? = some u → ∃ i j x, q = i * sz + j ∧ xs[i]? = some x ∧ x.cells[j]? = some u
  | [], _, q, u, hu => by simp [flat] at hu
  | y :: r, h, q, u, hu => by
    have hy := h y List.mem_cons_self
    unfold flat at hu
    rw [List.flatMap_cons] at hu
    by_cases hq : q < y.cells.length
    · rw [List.getElem?_append_left hq] at hu
      exact ⟨0, q, y, by simp, rfl, hu⟩
    · rw [List.getElem?_append_right (by omega)] at hu
      obtain ⟨i, j, x, h1, h2, h3⟩ := flat_of (xs := r) (fun z hz => h z (List.mem_cons_of_mem _ hz)) hu
      exact ⟨i + 1, j, x, by rw [Nat.add_mul]; omega, by simpa using h2, h3⟩
theorem flat_one {xs : List V} (h : ∀ x ∈ xs, ∀ u ∈ x.cells, u.one = true) : ∀ u ∈ flat xs, u.one = true := fun u hu => by
  obtain ⟨x, hx, hu⟩ := List.mem_flatMap.1 hu
  exact h x hx u hu
theorem Reps.one {cs : List V} {xs : List Value} (h : Reps X A φ w cs xs) (h1 : ∀ u ∈ cs, u.one = true) : ∀ c ∈ xs, c.oneCell' = true := fun c hc => by
  obtain ⟨j, hj⟩ := List.mem_iff_getElem?.1 hc
  have hjl : j < cs.length := by rw [h.1]; exact (List.getElem?_eq_some_iff.1 hj).1
  have hu : cs[j]? = some cs[j] := by simp [hjl]
  exact (h.at hu hj).one (h1 _ (List.getElem_mem hjl))
/-- A row that is another's place from now on: the elder one goes, this one comes; or a new one altogether. -/
theorem rel_append {el sz m ν nx : Nat} {zs : List V} {vals : List Value} {vx v' : Value} {kill : Option Nat} {dst : Option Nat} (hr : Rel N M A φ s a w) (hν : ¬ A ν) (hkill : ∀ n, kill = some n → ∃ k, s.blk n = some k) (hx : ∀ b, vx.ownBlock = some b → ∃ n, kill = some n ∧ (φ n).blk = some b)
    (how : w'.ownsRow 0 el sz v' m vals) (hg : w.grownBy w' vx.ownBlock) (hat : v'.ownBlock = vx.ownBlock ∨ v'.ownBlock = some w.heap.size) (h0 : 0 < sz) (hz : zs.length = m) (hl : m ≤ LIM) (hzs : ∀ x ∈ zs, x.cells.length = sz ∧ ∀ u ∈ x.cells, u.one = true) (hrep : Reps (fun b => M b ∨ N b) A φ w (flat zs) vals)
    (hd : ∀ d, dst = some d → d < s.nt) :
    ∃ M' φ', Stays M w w' ∧ (∀ b, b < w.heap.size → M' b → M b) ∧ Rel N M' (fun n => A n ∨ n ∈ [ν]) φ' (s.eff dst (.own ν 0 m) ((kill.map fun n => (n, none)).toList ++ [(ν, some (.els el sz zs))]) nx) (a.put dst v') w' := by
  have hxM : ∀ b, vx.ownBlock = some b → M b := fun b hb => by
    obtain ⟨n, h1, h2⟩ := hx b hb
    obtain ⟨k, hk⟩ := hkill n h1
    exact hr.lt_blk hk h2
  have hst : ∀ Q : Nat → Prop, (∀ b, vx.ownBlock = some b → Q b) → Stays Q w w' := fun Q hQ => ⟨hg.os, hg.tape, hg.output, hg.size, fun b hb hq => hg.block b hb fun e => hq (hQ b e.symm)⟩
  have hs : Stays (fun b => M b ∨ N b) w w' := hst _ fun b hb => .inl (hxM b hb)
  let bl : Option Nat := v'.ownBlock
  obtain ⟨cap, hcap⟩ : ∃ cap, v' = .slice none 0 0 ∧ cap = 0 ∧ m = 0 ∨ ∃ g, v' = .slice (some ⟨g, 0, none⟩) m cap ∧ m ≤ cap ∧ cap ≤ maxLen := by
    rcases how.2 with ⟨h1, h2⟩ | ⟨g, cap, cur, h1, _, _, h3, h4, _⟩
    · exact ⟨0, .inl ⟨h1, rfl, h2⟩⟩
    · exact ⟨cap, .inr ⟨g, h1, h3, h4⟩⟩
  let pl : Pl := ⟨bl, sz, cap⟩
  let φ' : Nat → Pl := fun n => if n = ν then pl else φ n
  have hφ : ∀ n, A n → φ' n = φ n := fun n hn => if_neg fun (e : n = ν) => hν (e ▸ hn)
  have hφν : φ' ν = pl := if_pos rfl
  let M' : Nat → Prop := fun b => M b ∨ bl = some b
  have hMb : ∀ b, b < w.heap.size → M' b → M b := fun b hb h => h.elim id fun h => by
    rcases hat with e | e
    · exact hxM b (e ▸ h)
    · have : some b = some w.heap.size := h ▸ e
      injection this; omega
  have hX : ∀ b, b < w.heap.size → (M' b ∨ N b) → M b ∨ N b := fun b hb h => h.imp (hMb b hb) id
  have hbl : ∀ b, bl = some b → b < w'.heap.size := fun b h => by
    rcases how.2 with ⟨h1, _⟩ | ⟨g, cap, cur, h1, _, h2, _⟩
    · have : v'.ownBlock = some b := h
      rw [h1] at this; cases this
    · have : v'.ownBlock = some b := h
      rw [h1] at this; cases this
      exact block_lt h2
  have hmono : ∀ {v : V} {x : Value}, Rep (fun b => M b ∨ N b) A φ w v x → Rep (fun b => M' b ∨ N b) (fun n => A n ∨ n = ν) φ' w' v x := fun h => h.mono hX hs (fun _ h => .inl h) hφ
  have eb : ∀ n, (s.eff none .und ((kill.map fun n => (n, none)).toList ++ [(ν, some (.els el sz zs))]) nx).blk n = if kill = some n then none else if ν = n then some (.els el sz zs) else s.blk n := fun n => by
    unfold S.blk S.eff
    cases kill with
    | none =>
      simp only [Option.map_none, Option.toList_none, List.nil_append, List.cons_append, lk_put]
      by_cases e : ν = n <;> simp [e]
    | some k =>
      simp only [Option.map_some, Option.toList_some, List.nil_append, List.cons_append, lk_put, Option.some.injEq]
      by_cases e : k = n
      · simp [e]
      · by_cases e2 : ν = n <;> simp [e, e2]
  have hrow : BlkAt (fun b => M' b ∨ N b) M' (fun n => A n ∨ n = ν) φ' w' pl (.els el sz zs) := by
    refine ⟨rfl, h0, by rw [hz]; exact hl, hzs, ?_⟩
    rcases how.2 with ⟨h1, h2⟩ | ⟨g, cap', cur, h1, _, h2, h3, h4, h5, h6⟩
    · refine .inl ⟨?_, ?_, ?_⟩
      · show v'.ownBlock = none; rw [h1]; rfl
      · exact List.eq_nil_of_length_eq_zero (by rw [hz, h2])
      · rcases hcap with ⟨_, h, _⟩ | ⟨g, h, _⟩
        · exact h
        · rw [h1] at h; cases h
    · have hc : cap' = cap := by
        rcases hcap with ⟨h, _⟩ | ⟨g', h, _⟩
        · rw [h1] at h; cases h
        · rw [h1] at h; cases h; rfl
      subst hc
      have hb : bl = some g := by show v'.ownBlock = some g; rw [h1]; rfl
      refine .inr ⟨g, cur, hb, .inr hb, h2, h5, by rw [hz]; exact h3, h4, fun i j x u hx' hu => ?_⟩
      have hf := flat_at (fun x hx => (hzs x hx).1) hx' hu
      obtain ⟨c, hc1, hc2⟩ := hrep.2 _ _ hf
      refine ⟨c, ?_, hmono hc2⟩
      rw [← h6] at hc1
      have : i * sz + j < m * sz := by
        have := (List.getElem?_eq_some_iff.1 hf).1
        rwa [flat_len (fun x hx => (hzs x hx).1), hz] at this
      rw [List.getElem?_take_of_lt this] at hc1
      simpa using hc1
  have hnew : Rel N M' (fun n => A n ∨ n = ν) φ' (s.eff none .und ((kill.map fun n => (n, none)).toList ++ [(ν, some (.els el sz zs))]) nx) a w' := by
    have old : ∀ m q, s.blk m = some q → kill ≠ some m → ∀ b, (φ m).blk = some b → b < w.heap.size ∧ vx.ownBlock ≠ some b := fun m q hq hk b hb => by
      refine ⟨hr.lim b (.inl (hr.lt_blk hq hb)), fun e => ?_⟩
      obtain ⟨n, h1, h2⟩ := hx b e
      obtain ⟨k, hk'⟩ := hkill n h1
      exact hk (by rw [hr.inj m n q k b hq hk' hb h2]; exact h1)
    have sep : ∀ m q, s.blk m = some q → kill ≠ some m → ∀ b, (φ m).blk = some b → bl ≠ some b := fun m q hq hk b hb e => by
      obtain ⟨h1, h2⟩ := old m q hq hk b hb
      rcases hat with h | h
      · exact h2 (h ▸ e)
      · have : some b = some w.heap.size := e ▸ h
        injection this; omega
    refine ⟨fun t u ht => ?_, hr.nt, fun n q hq => ?_, fun n n' q q' b g1 g2 g3 g4 => ?_, fun b hb => ?_, fun b hb hn => ?_, hr.df, fun n hn => ⟨.inl (hr.pin n hn).1, (hφ n (hr.pin n hn).1).trans (hr.pin n hn).2⟩, hr.gl.stays hs hX⟩
    · obtain ⟨g1, g2⟩ := hr.tm t u ht
      exact ⟨g1, hmono g2⟩
    · rw [eb] at hq
      split at hq
      · cases hq
      · split at hq
        · rename_i e1 e2; subst e2; cases hq
          exact ⟨.inr rfl, by rw [hφν]; exact hrow⟩
        · rename_i e1 e2
          obtain ⟨g0, g1⟩ := hr.st n q hq
          refine ⟨.inl g0, ?_⟩
          rw [hφ n g0]
          exact g1.mono hX hs (fun _ h => .inl h) hφ (fun _ h => .inl h) fun b hb => hg.block b (old n q hq e1 b hb).1 fun e => (old n q hq e1 b hb).2 e.symm
    · rw [eb] at g1 g2
      split at g1
      · cases g1
      · split at g2
        · cases g2
        · split at g1 <;> split at g2
          · rename_i e1 e2; rw [← e1, ← e2]
          · rename_i e1 e2 e3 e4
            subst e3
            rw [hφν] at g3
            rw [hφ n' (hr.st n' q' g2).1] at g4
            exact absurd g3 (sep n' q' g2 e2 b g4)
          · rename_i e1 e2 e3 e4
            subst e4
            rw [hφν] at g4
            rw [hφ n (hr.st n q g1).1] at g3
            exact absurd g4 (sep n q g1 e1 b g3)
          · rw [hφ n (hr.st n q g1).1] at g3
            rw [hφ n' (hr.st n' q' g2).1] at g4
            exact hr.inj n n' q q' b g1 g2 g3 g4
    · rcases hb with (hb | hb) | hb
      · exact Nat.lt_of_lt_of_le (hr.lim b (.inl hb)) hg.size
      · exact hbl b hb
      · exact Nat.lt_of_lt_of_le (hr.lim b (.inr hb)) hg.size
    · have := hr.lim b (.inr hn)
      exact hr.dis b (hMb b this hb) hn
  refine ⟨M', φ', hst M hxM, hMb, ?_⟩
  have hv : Rep (fun b => M' b ∨ N b) (fun n => A n ∨ n = ν) φ' w' (.own ν 0 m) v' := by
    rcases hcap with ⟨h1, h2, h3⟩ | ⟨g, h1, h2, h3⟩
    · subst h1 h3
      exact .own0 (.inr rfl) (by rw [hφν]; rfl)
    · have hb : bl = some g := by show v'.ownBlock = some g; rw [h1]; rfl
      have := Rep.own (X := fun b => M' b ∨ N b) (A := fun n => A n ∨ n = ν) (φ := φ') (w := w') (n := ν) (i := 0) (len := m) (b := g) (.inr rfl) (by rw [hφν]; exact hb) (by rw [hφν]; simpa using h2) (by rw [hφν]; exact h3)
      rw [hφν] at this
      rw [h1]
      simpa using this
  have h9 := rel_dst (nx := nx) hnew hv hd
  refine (h9.wider fun n h => h.imp id fun h => by simpa using h).as (fun t => ?_) (fun n => rfl) rfl
  cases dst <;> rfl
/-! ### A nil slice is an empty one -/
def V.nf1 : V → V
  | .nils => .fro []
  | v => v
def V.nf : V → V
  | .nils => .fro []
  | .agg vs => .agg (vs.map V.nf1)
  | v => v
theorem Fz.nf1 {v : V} {x : Value} (h : Fz X w v x) : Fz X w v.nf1 x := by
  cases h with
  | nils => exact .fro0 (fun _ => rfl)
  | int h => exact .int h
  | bool => exact .bool
  | str h => exact .str h
  | agg h1 h2 h3 => exact .agg h1 h2 h3
  | tup h1 h2 => exact .tup h1 h2
  | fro0 h => exact .fro0 h
  | fro c h1 h2 h3 h4 h5 h6 h7 h8 => exact .fro c h1 h2 h3 h4 h5 h6 h7 h8
  | fp c h1 h2 h3 h4 h5 => exact .fp c h1 h2 h3 h4 h5
  | nilp => exact .nilp
  | fn h1 h2 h3 h4 => exact .fn h1 h2 h3 h4
  | nilf => exact .nilf
  | ifc h => exact .ifc h
  | nili => exact .nili
  | nilm => exact .nilm
  | und => exact .und
theorem Fz.nf {v : V} {x : Value} (h : Fz X w v x) : Fz X w v.nf x := by
  cases h with
  | nils => exact .fro0 (fun _ => rfl)
  | @agg vs cs h1 h2 h3 =>
    refine .agg (by simpa using h1) (fun v hv => ?_) fun i x c hx hc => ?_
    · obtain ⟨u, hu, rfl⟩ := List.mem_map.1 hv
      have := h2 u hu
      cases u <;> first | rfl | exact this
    · rw [List.getElem?_map, Option.map_eq_some_iff] at hx
      obtain ⟨u, hu, rfl⟩ := hx
      exact (h3 i u c hu hc).nf1
  | int h => exact .int h
  | bool => exact .bool
  | str h => exact .str h
  | tup h1 h2 => exact .tup h1 h2
  | fro0 h => exact .fro0 h
  | fro c h1 h2 h3 h4 h5 h6 h7 h8 => exact .fro c h1 h2 h3 h4 h5 h6 h7 h8
  | fp c h1 h2 h3 h4 h5 => exact .fp c h1 h2 h3 h4 h5
  | nilp => exact .nilp
  | fn h1 h2 h3 h4 => exact .fn h1 h2 h3 h4
  | nilf => exact .nilf
  | ifc h => exact .ifc h
  | nili => exact .nili
  | nilm => exact .nilm
  | und => exact .und
theorem ACallsG.nf {g : Glob} {f : FuncId} {args args' : List V} {r : V} (h : ACallsG P g f args' r) (e : args.map V.nf = args') : ACallsG P g f args r := fun N w vs hG hN hl hv => by
  subst e
  refine h N w vs hG hN (by simpa using hl) fun i x c hx hc => ?_
  rw [List.getElem?_map, Option.map_eq_some_iff] at hx
  obtain ⟨u, hu, rfl⟩ := hx
  exact (hv i u c hu hc).nf
theorem ACallsG.nfr {g : Glob} {f : FuncId} {args : List V} {r : V} (h : ACallsG P g f args r) : ACallsG P g f args r.nf := fun N w vs hG hN hl hv => (h N w vs hG hN hl hv).mono fun e w' ⟨x, h1, h2, h3⟩ => ⟨x, h1, h2, h3.nf⟩
theorem ACalls.nfr {f : FuncId} {args : List V} {r : V} (h : ACalls P f args r) : ACalls P f args r.nf := fun g => (h g).nfr
theorem ACalls.nf {f : FuncId} {args args' : List V} {r : V} (h : ACalls P f args' r) (e : args.map V.nf = args') : ACalls P f args r := fun g => (h g).nf e
end
end Go.Proofs.YtefcfickggnmjaaDoor.Abs
