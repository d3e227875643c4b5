/- The laws of appending, and of making slices, over named trees. Over any program. -/
import Derived.Test.YtefcfickggnmjaaDoorAbsA
import Derived.Laws.OwnMore
namespace Go.Proofs.YtefcfickggnmjaaDoor.Abs
open Go.RowKit Mem Facts

section
variable {X A : Nat → Prop} {φ : Nat → Pl} {w w' : World} {P : Program} {tb : List Ty} {T : Nat} {e ee : Ty} {N : Env} {M : Nat → Prop} {o : Oper} {s : S} {a : Act}

/-- What is appended: a row of cells, read. -/
structure Src (X A : Nat → Prop) (φ : Nat → Pl) (w : World) (ys : List V) (sz : Nat) (x : Value) : Prop where
  ex : ∃ B cap news, x = .slice B ys.length cap ∧ Row w w.heap.size B news ∧ (B = none → cap = 0) ∧ Reps X A φ w (flat ys) news
  len : ys.length ≤ maxLen
theorem maxLen_ge {n : Nat} (h : n ≤ LIM) : n ≤ maxLen := Nat.le_trans h (by simp [LIM, maxLen])
theorem src_fro {ys : List V} {sz : Nat} {x : Value} (h : Rep X A φ w (.fro ys) x) (hs : ∀ y ∈ ys, y.cells.length = sz) : Src X A φ w ys sz x := by
  obtain ⟨hl, ⟨rfl, B, cap, rfl, hn⟩ | ⟨b, o, sz', cap, c, rfl, hX, hb, hsz, hcap, hcs, hcell, hrep⟩⟩ := rep_fro h
  · exact ⟨⟨B, cap, [], rfl, Row.nil _ _ _, hn, ⟨rfl, fun j u hu => by simp [flat] at hu⟩⟩, Nat.zero_le _⟩
  · refine ⟨?_, maxLen_ge hl⟩
    by_cases hy : ys = []
    · subst hy
      exact ⟨_, cap, [], rfl, Row.nil _ _ _, (fun h => by cases h), ⟨rfl, fun j u hu => by simp [flat] at hu⟩⟩
    · have hsz' : sz' = sz := by
        obtain ⟨y, r, rfl⟩ := List.exists_cons_of_ne_nil hy
        rw [← (hcs y List.mem_cons_self).1, hs y List.mem_cons_self]
      subst hsz'
      refine ⟨_, cap, (List.range (ys.length * sz')).map fun q => c (q / sz') (q % sz'), rfl, fun _ => ⟨b, o, rfl, hb, fun j hj => ?_⟩, (fun h => by cases h), .mk' (by simp [flat_len hs]) fun j u v hu hv => ?_⟩
      · simp only [List.length_map, List.length_range] at hj
        have hf : j < (flat ys).length := by rw [flat_len hs]; exact hj
        obtain ⟨i, k, y, h1, h2, h3⟩ := flat_of hs (List.getElem?_eq_getElem hf)
        have hk : k < sz' := by rw [← hs y (List.mem_of_getElem? h2)]; exact (List.getElem?_eq_some_iff.1 h3).1
        have e1 : j / sz' = i := by rw [h1, Nat.mul_comm, Nat.mul_add_div hsz, Nat.div_eq_of_lt hk]; omega
        have e2 : j % sz' = k := by rw [h1, Nat.mul_comm, Nat.mul_add_mod]; exact Nat.mod_eq_of_lt hk
        simp only [List.getElem_map, List.getElem_range, e1, e2]
        rw [h1, ← Nat.add_assoc]
        exact hcell i k y _ h2 h3
      · obtain ⟨i, k, y, h1, h2, h3⟩ := flat_of hs hu
        have hk : k < sz' := by rw [← hs y (List.mem_of_getElem? h2)]; exact (List.getElem?_eq_some_iff.1 h3).1
        have e1 : j / sz' = i := by rw [h1, Nat.mul_comm, Nat.mul_add_div hsz, Nat.div_eq_of_lt hk]; omega
        have e2 : j % sz' = k := by rw [h1, Nat.mul_comm, Nat.mul_add_mod]; exact Nat.mod_eq_of_lt hk
        rw [List.getElem?_map, Option.map_eq_some_iff] at hv
        obtain ⟨q, hq, rfl⟩ := hv
        obtain ⟨_, rfl⟩ := List.getElem?_eq_some_iff.1 hq
        simp only [List.getElem_range, e1, e2]
        exact .fz (hrep i k y u h2 h3)
/-- A row of one's own, from its beginning, as the law on append wants it. -/
theorem own_src {n el sz k : Nat} {xs : List V} {x : Value} (hr : Rel N M A φ s a w) (hk : s.blk n = some (.els el sz xs)) (h : Rep X A φ w (.own n 0 k) x) (hl : xs.length = k) :
    ∃ vals, w.ownsRow 0 el sz x k vals ∧ Reps (fun b => M b ∨ N b) A φ w (flat xs) vals ∧ (∀ b, x.ownBlock = some b → (φ n).blk = some b) := by
  obtain ⟨g0, g1, g2, g3, g4, g5⟩ := hr.st n _ hk
  cases h with
  | fz h => cases h
  | own0 h1 h2 =>
    have : xs = [] := List.eq_nil_of_length_eq_zero hl
    subst this
    exact ⟨[], World.ownsRow_nil _ _ _ _, ⟨rfl, fun j u hu => by simp [flat] at hu⟩, fun b hb => by simp [Value.ownBlock] at hb⟩
  | @own _ _ _ b h1 h2 h3 h4 =>
    rcases g5 with ⟨k1, _⟩ | ⟨b', cur, k1, k2, k3, k4, k5, k6, k7⟩
    · rw [h2] at k1; cases k1
    rw [h2] at k1; cases k1
    have hlen : (cur.toList.take (k * sz)).length = k * sz := by
      have : k * sz ≤ (φ n).cap * sz := Nat.mul_le_mul_right _ (by omega)
      simp; omega
    refine ⟨cur.toList.take (k * sz), ⟨hlen, .inr ⟨b, (φ n).cap, cur, by simp, Nat.zero_le _, k3, by omega, k6, k4, rfl⟩⟩, ?_, fun b' hb' => by simp [Value.ownBlock] at hb'; rw [h2, hb']⟩
    have hf : ∀ x ∈ xs, x.cells.length = sz := fun x hx => (g4 x hx).1
    refine .mk' (by rw [hlen, flat_len hf, hl]) fun j u c hu hc => ?_
    obtain ⟨i, q, y, e1, e2, e3⟩ := flat_of hf hu
    obtain ⟨c', e4, e5⟩ := k7 i q y u e2 e3
    have hj : j < k * sz := by rw [← hlen]; exact (List.getElem?_eq_some_iff.1 hc).1
    rw [List.getElem?_take_of_lt hj, e1] at hc
    rw [Array.getElem?_toList, e4] at hc
    cases hc; exact e5
/-- A part of a row of one's own, as a source. -/
theorem src_own {n el sz i len : Nat} {xs : List V} {x : Value} (hr : Rel N M A φ s a w) (hk : s.blk n = some (.els el sz xs)) (h : Rep (fun b => M b ∨ N b) A φ w (.own n i len) x) (hl : i + len ≤ xs.length) :
    Src (fun b => M b ∨ N b) A φ w ((xs.drop i).take len) sz x := by
  obtain ⟨g0, g1, g2, g3, g4, g5⟩ := hr.st n _ hk
  have hf : ∀ x ∈ xs, x.cells.length = sz := fun x hx => (g4 x hx).1
  have hf' : ∀ x ∈ (xs.drop i).take len, x.cells.length = sz := fun x hx => hf x (List.mem_of_mem_drop (List.mem_of_mem_take hx))
  have hlen : ((xs.drop i).take len).length = len := by simp; omega
  refine ⟨?_, by rw [hlen]; exact own_len h⟩
  rw [hlen]
  cases h with
  | fz h => cases h
  | own0 h1 h2 => exact ⟨none, 0, [], rfl, Row.nil _ _ _, fun _ => rfl, ⟨by simp [flat], fun j u hu => by simp [flat] at hu⟩⟩
  | @own _ _ _ b h1 h2 h3 h4 =>
    rcases g5 with ⟨k1, _⟩ | ⟨b', cur, k1, k2, k3, k4, k5, k6, k7⟩
    · rw [h2] at k1; cases k1
    rw [h2] at k1; cases k1
    rw [g1] at *
    have hfit : i * sz + len * sz ≤ cur.size := by
      rw [k4, ← Nat.add_mul]; exact Nat.mul_le_mul_right _ (by omega)
    refine ⟨_, _, (cur.toList.drop (i * sz)).take (len * sz), rfl, fun _ => ⟨b, i * sz, rfl, block_lt k3, fun j hj => ?_⟩, (fun h => by cases h), .mk' (by rw [flat_len hf', hlen]; simp; omega) fun j u c hu hc => ?_⟩
    · simp only [List.length_take, List.length_drop, Array.length_toList] at hj
      simp only [List.getElem_take, List.getElem_drop, Array.getElem_toList]
      simp [World.cell?, k3]
    · obtain ⟨i', q, y, e1, e2, e3⟩ := flat_of hf' hu
      have hi' : i' < len := by have := (List.getElem?_eq_some_iff.1 e2).1; omega
      rw [List.getElem?_take_of_lt hi', List.getElem?_drop] at e2
      obtain ⟨c', e4, e5⟩ := k7 (i + i') q y u e2 e3
      have hj : j < len * sz := by
        have := (List.getElem?_eq_some_iff.1 hu).1
        rwa [flat_len hf', hlen] at this
      rw [List.getElem?_take_of_lt hj, List.getElem?_drop, e1, ← Nat.add_assoc, ← Nat.add_mul, Array.getElem?_toList, e4] at hc
      cases hc; exact e5

theorem slOf_und {ti : TypeInfo} {d : TypeDesc} {el : Nat} (ht : TyIs P T e ti d) (hs : e.sl = some el) : P.underlying T = some (.slice el) := by
  have := ht.sl; rw [hs] at this
  have hu := ht.und
  cases d <;> simp [slOf] at this
  rw [hu, this]
/-- The append itself, on values. -/
theorem run_append_src {el sz k bytes : Nat} {ys : List V} {x y : Value} {vals : List Value} {ty : TypeId} (hu : P.underlying T = some (.slice el)) {i : TypeInfo} {z : Value} (hi : P.info? el = some i) (hz : i.zero = some z) (hsize : i.size = sz) (hby : i.bytes = bytes) (hzs : z.cells.size = sz) (h0 : 0 < sz)
    (how : w.ownsRow 0 el sz x k vals) (hy : Src X A φ w ys sz y) (hys : ∀ y ∈ ys, y.cells.length = sz ∧ ∀ u ∈ y.cells, u.one = true) (hb : (k + ys.length) * bytes ≤ 140737488355328) (hm : k + ys.length ≤ maxLen) :
    ∃ v' w' news, (Builtin.append_ #[T, T] ty #[x, y]).run P w = .ok v' w' ∧ w'.ownsRow 0 el sz v' (k + ys.length) (vals ++ news) ∧ Reps X A φ w (flat ys) news ∧ w.grownBy w' x.ownBlock ∧ (v'.ownBlock = x.ownBlock ∨ v'.ownBlock = some w.heap.size) := by
  obtain ⟨B, cap, news, rfl, hrow, hn, hrep⟩ := hy.ex
  have hl : news.length = ys.length * sz := by rw [← hrep.1, flat_len fun y hy => (hys y hy).1]
  have h1 := hrep.one (flat_one fun y hy => (hys y hy).2)
  cases B with
  | none =>
    have hn0 : news = [] := by
      rcases news with _ | ⟨q, l⟩
      · rfl
      · obtain ⟨_, _, e, _⟩ := hrow (by simp); cases e
    subst hn0
    have hm0 : ys.length = 0 := by
      rcases Nat.mul_eq_zero.1 (show ys.length * sz = 0 from hl.symm) with h | h
      · exact h
      · omega
    have hrun := run_append_owned_none (P := P) (w := w) 0 T ty el i sz hu hi x k vals how
    rw [hn rfl, hm0]
    refine ⟨x, w, [], hrun, by simpa using how, hrep, ⟨rfl, rfl, rfl, Nat.le_refl _, fun _ _ _ => rfl⟩, .inl rfl⟩
  | some ad =>
    obtain ⟨v', w', g1, g2, g3, _, g5⟩ := run_append_own_at (P := P) w 0 T ty el i z sz bytes hu hi hz hsize hby hzs h0 x k vals how ad ys.length cap news hl (fun j u hj => by
      obtain ⟨hjl, rfl⟩ := List.getElem?_eq_some_iff.1 hj
      obtain ⟨b, o', e', _, hc⟩ := hrow (by omega)
      cases e'
      have := hc j hjl
      unfold Addr.add
      split
      · subst_vars; simpa using this
      · exact this) h1 hm hb (Nat.zero_le _)
    exact ⟨v', w', news, g1, g2, hrep, g3, g5⟩
/-- What the element's type gives. -/
theorem elem_parts (w : World) {el sz : Nat} {z : V} (htb : TbOk P tb) (hE : nth tb el = some ee) (hz : ee.zeroV = some z) (hsz : ee.size = sz) (hzl : z.cells.length = sz) : ∃ i zv, P.info? el = some i ∧ i.zero = some zv ∧ i.size = sz ∧ i.bytes = ee.bytes ∧ zv.cells.size = sz ∧ (∀ X A φ w, Rep X A φ w z zv) ∧ z.cells.all V.one = true := by
  obtain ⟨ti, d, ht⟩ := ty_at htb hE
  obtain ⟨zv, hzv, hrep, hz1, hz0, _⟩ := run_zero htb hE hz
  have hzi : ti.zero = some zv := by
    have := hzv w
    unfold zeroValue typeInfo at this
    simp [ht.info] at this
    cases h : ti.zero with
    | none => simp [h] at this
    | some q => simp [h] at this; rw [this]
  have := (rep_cells (hrep (fun _ => False) (fun _ => True) (fun _ => ⟨none, 0, 0⟩) w) hz1).1
  exact ⟨ti, zv, ht.info, hzi, by rw [ht.size, hsz], ht.bytes, by rw [← this, hzl], hrep, hz1⟩
theorem exec_append {x y : Operand} {v : Value} (ho : o.op = .call { callee := .builtin .append, args := #[x, y], argTypes := #[T, T] }) (h : (Builtin.append_ #[T, T] o.type #[a.eval x, a.eval y]).run P w = .ok v w') : (execOp a.eval o).run P w = .ok (.value v) w' := by
  unfold execOp
  simp only [ho, resolve, invoke, builtin, Sem.run_bind, Sem.run_pure, Result.andThen_ok, List.map_toArray, List.map_cons, List.map_nil, h]
/-- append onto a row of one's own. -/
theorem law_append {x y : Operand} {n ν el sz k m : Nat} {xs ys zs : List V} {z : V} (htb : TbOk P tb) (ho : o.op = .call { callee := .builtin .append, args := #[x, y], argTypes := #[T, T] }) (hT : nth tb T = some e) (hs : e.sl = some el) (hE : nth tb el = some ee) (hz : ee.zeroV = some z) (hsz : ee.size = sz) (hzl : z.cells.length = sz)
    (hys : ∀ y ∈ ys, y.cells.length = sz ∧ ∀ u ∈ y.cells, u.one = true) (hk : xs.length = k) (hcat : xs ++ ys = zs) (hm : zs.length = m) (hlim : m ≤ LIM) (hby : m * ee.bytes ≤ 140737488355328) :
    OpLaw P N o ⟨[(x, .own n 0 k), (y, .fro ys)], [(n, .els el sz xs)]⟩ (.own ν 0 m) [(n, none), (ν, some (.els el sz zs))] [ν] := fun s M A φ a w hh hr hν hd => by
  obtain ⟨ti, d, ht⟩ := ty_at htb hT
  obtain ⟨i, zv, e1, e2, e3, e4, e5, _, _⟩ := elem_parts w htb hE hz hsz hzl
  obtain ⟨g0, g1, g2, g3, g4, g5⟩ := hr.st n _ hh.n
  obtain ⟨vals, h1, h2, h3⟩ := own_src hr hh.n (hr.ev hh.a) hk
  have hmk : k + ys.length = m := by rw [← hm, ← hcat, List.length_append, hk]
  obtain ⟨v', w', news, h4, h5, h6, h7, h8⟩ := run_append_src (P := P) (ty := o.type) (slOf_und ht hs) e1 e2 e3 e4 e5 g2 h1 (src_fro (hr.ev hh.b) fun y hy => (hys y hy).1) hys (by rw [hmk]; exact hby) (by rw [hmk]; exact maxLen_ge hlim)
  unfold Oper.wp
  rw [exec_append ho h4]
  rw [hmk] at h5
  refine rel_append (kill := some n) hr (hν ν (by simp)) (fun n' hn => by cases hn; exact ⟨_, hh.n⟩) (fun b hb => ⟨n, rfl, h3 b hb⟩) h5 h7 h8 g2 hm hlim (fun q hq => ?_) (by rw [← hcat, flat_app]; exact h2.append h6) hd
  rw [← hcat, List.mem_append] at hq
  exact hq.elim (g4 q) (hys q)
/-- append onto nothing. -/
theorem law_append_nil {x y : Operand} {ν el sz m : Nat} {ys : List V} {z : V} (htb : TbOk P tb) (ho : o.op = .call { callee := .builtin .append, args := #[x, y], argTypes := #[T, T] }) (hT : nth tb T = some e) (hs : e.sl = some el) (hE : nth tb el = some ee) (hz : ee.zeroV = some z) (hsz : ee.size = sz) (hzl : z.cells.length = sz) (h0 : Nat.ble 1 sz = true)
    (hys : ∀ y ∈ ys, y.cells.length = sz ∧ ∀ u ∈ y.cells, u.one = true) (hm : ys.length = m) (hlim : m ≤ LIM) (hby : m * ee.bytes ≤ 140737488355328) :
    OpLaw P N o ⟨[(x, .nils), (y, .fro ys)], []⟩ (.own ν 0 m) [(ν, some (.els el sz ys))] [ν] := fun s M A φ a w hh hr hν hd => by
  obtain ⟨ti, d, ht⟩ := ty_at htb hT
  obtain ⟨i, zv, e1, e2, e3, e4, e5, _, _⟩ := elem_parts w htb hE hz hsz hzl
  have hx : a.eval x = .slice none 0 0 := by
    have h : ∀ q, Rep (fun b => M b ∨ N b) A φ w .nils q → q = .slice none 0 0 := fun q h => by
      cases h with
      | fz h => cases h; rfl
    exact h _ (hr.ev hh.a)
  obtain ⟨v', w', news, h4, h5, h6, h7, h8⟩ := run_append_src (P := P) (w := w) (ty := o.type) (slOf_und ht hs) e1 e2 e3 e4 e5 (Nat.le_of_ble_eq_true h0) (World.ownsRow_nil w 0 el sz) (src_fro (hr.ev hh.b) fun y hy => (hys y hy).1) hys (by rw [Nat.zero_add, hm]; exact hby) (by rw [Nat.zero_add, hm]; exact maxLen_ge hlim)
  unfold Oper.wp
  rw [exec_append ho (by rw [hx]; exact h4)]
  rw [Nat.zero_add, hm] at h5
  refine rel_append (kill := none) (vx := .slice none 0 0) hr (hν ν (by simp)) (fun n' hn => by cases hn) (fun b hb => by simp [Value.ownBlock] at hb) h5 h7 h8 (Nat.le_of_ble_eq_true h0) hm hlim hys (by simpa using h6) hd
/-- append of one's own onto one's own. -/
theorem law_append_own {x y : Operand} {n q ν el sz sz' el' k m i len : Nat} {xs qs zs : List V} {z : V} (htb : TbOk P tb) (ho : o.op = .call { callee := .builtin .append, args := #[x, y], argTypes := #[T, T] }) (hT : nth tb T = some e) (hs : e.sl = some el) (hE : nth tb el = some ee) (hz : ee.zeroV = some z) (hsz : ee.size = sz) (hzl : z.cells.length = sz)
    (hse : sz' = sz) (hk : xs.length = k) (hil : i + len ≤ qs.length) (hcat : xs ++ (qs.drop i).take len = zs) (hm : zs.length = m) (hlim : m ≤ LIM) (hby : m * ee.bytes ≤ 140737488355328) :
    OpLaw P N o ⟨[(x, .own n 0 k), (y, .own q i len)], [(n, .els el sz xs), (q, .els el' sz' qs)]⟩ (.own ν 0 m) [(n, none), (ν, some (.els el sz zs))] [ν] := fun s M A φ a w hh hr hν hd => by
  subst hse
  obtain ⟨ti, d, ht⟩ := ty_at htb hT
  obtain ⟨i', zv, e1, e2, e3, e4, e5, _, _⟩ := elem_parts w htb hE hz hsz hzl
  obtain ⟨g0, g1, g2, g3, g4, g5⟩ := hr.st n _ hh.n
  have hq : s.blk q = some (.els el' sz' qs) := hh.2 (q, .els el' sz' qs) (by simp)
  have gq := (hr.st q _ hq).2.2.2.2.1
  have hys : ∀ y ∈ (qs.drop i).take len, y.cells.length = sz' ∧ ∀ u ∈ y.cells, u.one = true := fun y hy => gq y (List.mem_of_mem_drop (List.mem_of_mem_take hy))
  obtain ⟨vals, h1, h2, h3⟩ := own_src hr hh.n (hr.ev hh.a) hk
  have hmk : k + ((qs.drop i).take len).length = m := by rw [← hm, ← hcat, List.length_append, hk]
  obtain ⟨v', w', news, h4, h5, h6, h7, h8⟩ := run_append_src (P := P) (ty := o.type) (slOf_und ht hs) e1 e2 e3 e4 e5 g2 h1 (src_own hr hq (hr.ev hh.b) hil) hys (by rw [hmk]; exact hby) (by rw [hmk]; exact maxLen_ge hlim)
  unfold Oper.wp
  rw [exec_append ho h4]
  rw [hmk] at h5
  refine rel_append (kill := some n) hr (hν ν (by simp)) (fun n' hn => by cases hn; exact ⟨_, hh.n⟩) (fun b hb => ⟨n, rfl, h3 b hb⟩) h5 h7 h8 g2 hm hlim (fun q hq => ?_) (by rw [← hcat, flat_app]; exact h2.append h6) hd
  rw [← hcat, List.mem_append] at hq
  exact hq.elim (g4 q) (hys q)

/-! ### Slices that are made -/
theorem made_reps {z : V} {zv : Value} {sz : Nat} (hz : ∀ X A φ w, Rep X A φ w z zv) (h1 : z.cells.all V.one = true) (hl : z.cells.length = sz) (h0 : 0 < sz) (n : Nat) : Reps X A φ w (flat (List.replicate n z)) (madeCells zv.cells (n * sz)).toList := by
  have hf : ∀ x ∈ List.replicate n z, x.cells.length = sz := fun x hx => by rw [List.eq_of_mem_replicate hx, hl]
  have hr := rep_reps (hz X A φ w) h1
  refine .mk' (by rw [flat_len hf]; simp [size_madeCells]) fun j u c hu hc => ?_
  obtain ⟨i, k, x, e1, e2, e3⟩ := flat_of hf hu
  have hx := List.eq_of_mem_replicate (List.mem_of_getElem? e2)
  subst hx
  have hk : k < sz := by rw [← hl]; exact (List.getElem?_eq_some_iff.1 e3).1
  have hzs : zv.cells.size = sz := by have := hr.1; simp only [Array.length_toList] at this; omega
  unfold madeCells at hc
  rw [Array.getElem?_toList, Array.getElem?_map, Option.map_eq_some_iff] at hc
  obtain ⟨q, hq, rfl⟩ := hc
  obtain ⟨hq1, rfl⟩ := Array.getElem?_eq_some_iff.1 hq
  simp only [Array.getElem_range]
  have : j % zv.cells.size = k := by rw [hzs, e1, Nat.mul_comm, Nat.mul_add_mod]; exact Nat.mod_eq_of_lt hk
  rw [this]
  refine hr.at e3 ?_
  rw [Array.getElem?_toList, getElem!_pos zv.cells k (by omega)]
  simp [hzs, hk]
theorem law_makeSlice {x y : Operand} {ν el sz n : Nat} {kl kc : IntKind} {c : Int} {z : V} (htb : TbOk P tb) (ho : o.op = .makeSlice T x y) (hT : nth tb T = some e) (hs : e.sl = some el) (hE : nth tb el = some ee) (hz : ee.zeroV = some z) (hsz : ee.size = sz) (hzl : z.cells.length = sz) (h0 : Nat.ble 1 sz = true) (hn : c = (n : Int)) (hlim : n ≤ LIM) (hby : ee.bytes * n ≤ 281474976710656) :
    OpLaw P N o ⟨[(x, .int kl c), (y, .int kc c)], []⟩ (.own ν 0 n) [(ν, some (.els el sz (List.replicate n z)))] [ν] := fun s M A φ a w hh hr hν hd => by
  subst hn
  have h0 := Nat.le_of_ble_eq_true h0
  obtain ⟨ti, d, ht⟩ := ty_at htb hT
  obtain ⟨i, zv, e1, e2, e3, e4, e5, e6, e7⟩ := elem_parts w htb hE hz hsz hzl
  obtain ⟨w', h1, h2, h3⟩ := run_make_full (P := P) w 0 T el i zv sz (slOf_und ht hs) e1 e2 e3 kl kc n (by rw [e4]; exact hby) (maxLen_ge hlim) (Nat.zero_le _)
  unfold Oper.wp
  have hrun : (execOp a.eval o).run P w = .ok (.value (.slice (some ⟨w.heap.size, 0, none⟩) n n)) w' := by
    unfold execOp
    simp only [ho, hr.int hh.a, hr.int hh.b, Sem.run_bind, h1, Result.andThen_ok, Sem.run_pure]
  rw [hrun]
  exact rel_append (kill := none) (vx := .slice none 0 0) hr (hν ν (by simp)) (fun n' hn => by cases hn) (fun b hb => by simp [Value.ownBlock] at hb) h2 h3 (.inr rfl) h0 (by simp) hlim (fun x hx => by rw [List.eq_of_mem_replicate hx]; exact ⟨hzl, fun u hu => List.all_eq_true.1 e7 u hu⟩) (made_reps e6 e7 hzl h0 n) hd
/-- make([]T, 0, c). -/
theorem law_makeSlice0 {x y : Operand} {ν el sz n : Nat} {kl kc : IntKind} {c : Int} {z : V} (htb : TbOk P tb) (ho : o.op = .makeSlice T x y) (hT : nth tb T = some e) (hs : e.sl = some el) (hE : nth tb el = some ee) (hz : ee.zeroV = some z) (hsz : ee.size = sz) (hzl : z.cells.length = sz) (h0 : Nat.ble 1 sz = true) (hn : c = (n : Int)) (hlim : n ≤ LIM) (hby : ee.bytes * n ≤ 281474976710656) :
    OpLaw P N o ⟨[(x, .int kl 0), (y, .int kc c)], []⟩ (.own ν 0 0) [(ν, some (.els el sz []))] [ν] := fun s M A φ a w hh hr hν hd => by
  subst hn
  have h0 := Nat.le_of_ble_eq_true h0
  obtain ⟨ti, d, ht⟩ := ty_at htb hT
  obtain ⟨i, zv, e1, e2, e3, e4, e5, e6, e7⟩ := elem_parts w htb hE hz hsz hzl
  obtain ⟨w', h1, h2, h3⟩ := run_make_own (P := P) w 0 T el i zv sz (slOf_und ht hs) e1 e2 e3 kl kc n (by rw [e4]; exact hby) (maxLen_ge hlim) (Nat.zero_le _)
  unfold Oper.wp
  have hrun : (execOp a.eval o).run P w = .ok (.value (.slice (some ⟨w.heap.size, 0, none⟩) 0 n)) w' := by
    unfold execOp
    simp only [ho, hr.int hh.a, hr.int hh.b, Sem.run_bind, h1, Result.andThen_ok, Sem.run_pure]
  rw [hrun]
  exact rel_append (kill := none) (vx := .slice none 0 0) hr (hν ν (by simp)) (fun n' hn => by cases hn) (fun b hb => by simp [Value.ownBlock] at hb) h2 h3 (.inr rfl) h0 rfl (by simp [LIM]) (fun x hx => by cases hx) ⟨rfl, fun j u hu => by simp [flat] at hu⟩ hd
end
end Go.Proofs.YtefcfickggnmjaaDoor.Abs
