/- Straight pieces of code, step by step, structs as they come: no cell is named. -/
import Derived.Test.YtnjaepdlfnidfaaFacts
import Derived.Test.YtnjaepdlfnidfaaMem
import Derived.Test.YtnjaepdlfnidfaaSeq
import Derived.WalkKit
import Derived.Laws.Small
namespace Go.Proofs.Ytnjaepdlfnidfaa.Glue
open Go.RowKit Facts Mem

section
variable {P : Program} {Q : Exit → Act → World → Prop} {ops : Array Oper} {rest : List Oper} {o : Oper} {a : Act} {w w' : World} {v : Value}
theorem l0_val (hg : o.guard = none) (h : (execOp a.eval o).run P w = .ok (.value v) w') (k : wpList P ops Q rest (a.put o.dst v) w') : wpList P ops Q (o :: rest) a w :=
  wpList_plain hg fun K hK => by unfold Oper.wp; rw [h]; exact hK _ _ k
theorem l0_skip (hg : o.guard = none) (h : (execOp a.eval o).run P w = .ok .skip w') (k : wpList P ops Q rest (a.put o.dst undef) w') : wpList P ops Q (o :: rest) a w :=
  wpList_plain hg fun K hK => by unfold Oper.wp; rw [h]; exact hK _ _ k
theorem l0_call {f : Nat} {args : Array Value} {R : Ending → World → Prop} (hg : o.guard = none) (h : (execOp a.eval o).run P w = .ok (.enter f args) w) (c : Calls P f args w R) (k : ∀ e w', R e w' → ∃ v, e = .returned v ∧ wpList P ops Q rest (a.put o.dst v) w') : wpList P ops Q (o :: rest) a w :=
  wpList_plain hg fun K hK => by
    unfold Oper.wp; rw [h]
    refine Calls.mono c fun e w' he => ?_
    obtain ⟨v, rfl, h2⟩ := k e w' he
    exact hK _ _ h2
theorem g0_val (hg : Region.wanted o (yielded ops a.tmps) = true) (h : (execOp a.eval o).run P w = .ok (.value v) w') (k : wpList P ops Q rest (a.put o.dst v) w') : wpList P ops Q (o :: rest) a w :=
  wpList_step fun K hK => by rw [if_pos hg]; unfold Oper.wp; rw [h]; exact hK _ _ k
theorem g0_call {f : Nat} {args : Array Value} {R : Ending → World → Prop} (hg : Region.wanted o (yielded ops a.tmps) = true) (h : (execOp a.eval o).run P w = .ok (.enter f args) w) (c : Calls P f args w R) (k : ∀ e w', R e w' → ∃ v, e = .returned v ∧ wpList P ops Q rest (a.put o.dst v) w') : wpList P ops Q (o :: rest) a w :=
  wpList_step fun K hK => by
    rw [if_pos hg]
    unfold Oper.wp; rw [h]
    refine Calls.mono c fun e w' he => ?_
    obtain ⟨v, rfl, h2⟩ := k e w' he
    exact hK _ _ h2
theorem g0_off (hg : Region.wanted o (yielded ops a.tmps) = false) (k : wpList P ops Q rest (a.put o.dst undef) w) : wpList P ops Q (o :: rest) a w :=
  wpList_step fun K hK => by rw [if_neg (by rw [hg]; decide)]; exact hK _ _ k
theorem l0_nil (h : Q .normal a w) : wpList P ops Q [] a w := h

/-- The list of operations that is left, not to be looked into. -/
structure WL (P : Program) (ops : Array Oper) (Q : Exit → Act → World → Prop) (rest : List Oper) (a : Act) (w : World) : Prop where
  out : wpList P ops Q rest a w
theorem ls_val (hg : o.guard = none) (h : (execOp a.eval o).run P w = .ok (.value v) w') (k : WL P ops Q rest (a.put o.dst v) w') : WL P ops Q (o :: rest) a w := ⟨l0_val hg h k.out⟩
theorem ls_skip (hg : o.guard = none) (h : (execOp a.eval o).run P w = .ok .skip w') (k : WL P ops Q rest (a.put o.dst undef) w') : WL P ops Q (o :: rest) a w := ⟨l0_skip hg h k.out⟩
theorem ls_call {f : Nat} {args : Array Value} {R : Ending → World → Prop} (hg : o.guard = none) (h : (execOp a.eval o).run P w = .ok (.enter f args) w) (c : Calls P f args w R) (k : ∀ e w', R e w' → ∃ v, e = .returned v ∧ WL P ops Q rest (a.put o.dst v) w') : WL P ops Q (o :: rest) a w :=
  ⟨l0_call hg h c fun e w' he => let ⟨v, h1, h2⟩ := k e w' he; ⟨v, h1, h2.out⟩⟩
theorem lg_val (hg : Region.wanted o (yielded ops a.tmps) = true) (h : (execOp a.eval o).run P w = .ok (.value v) w') (k : WL P ops Q rest (a.put o.dst v) w') : WL P ops Q (o :: rest) a w := ⟨g0_val hg h k.out⟩
theorem lg_call {f : Nat} {args : Array Value} {R : Ending → World → Prop} (hg : Region.wanted o (yielded ops a.tmps) = true) (h : (execOp a.eval o).run P w = .ok (.enter f args) w) (c : Calls P f args w R) (k : ∀ e w', R e w' → ∃ v, e = .returned v ∧ WL P ops Q rest (a.put o.dst v) w') : WL P ops Q (o :: rest) a w :=
  ⟨g0_call hg h c fun e w' he => let ⟨v, h1, h2⟩ := k e w' he; ⟨v, h1, h2.out⟩⟩
theorem lg_off (hg : Region.wanted o (yielded ops a.tmps) = false) (k : WL P ops Q rest (a.put o.dst undef) w) : WL P ops Q (o :: rest) a w := ⟨g0_off hg k.out⟩
theorem ls_nil (h : Q .normal a w) : WL P ops Q [] a w := ⟨h⟩
theorem ls_begin {id : Nat} {l : List Oper} (h : WL P l.toArray Q l a w) : (Code.region id l.toArray false).wp P Q a w := wp_region_lit h.out
/-- The order that is left of a region that draws, not to be looked into. -/
structure WS (P : Program) (ops : Array Oper) (Q : Exit → Act → World → Prop) (S : World → Prop) (E : Act → World → Prop) (l : List (Oper × Bool)) (a : Act) (w : World) : Prop where
  out : Seq.wpSeq P ops Q S E l a w
theorem ws_nil {S : World → Prop} {E : Act → World → Prop} (h : E a w) : WS P ops Q S E [] a w := ⟨h⟩
theorem ws_skip {S : World → Prop} {E : Act → World → Prop} {r : List (Oper × Bool)} (hw : Region.wanted o (yielded ops a.tmps) = false) (h : WS P ops Q S E r (a.put o.dst undef) w) : WS P ops Q S E ((o, false) :: r) a w := ⟨Seq.seq_skip hw h.out⟩
theorem ws_read {S : World → Prop} {E : Act → World → Prop} {r : List (Oper × Bool)} (hw : Region.wanted o (yielded ops a.tmps) = true) (hy : ∀ w', S w' → (execOp a.eval o).run P w' = .ok (.value v) w') (h : WS P ops Q S E r (a.put o.dst v) w) : WS P ops Q S E ((o, false) :: r) a w := ⟨Seq.seq_read hw hy h.out⟩
theorem ws_off {S : World → Prop} {E : Act → World → Prop} {r : List (Oper × Bool)} (hw : Region.wanted o (yielded ops a.tmps) = false) (hS : S w) (h : WS P ops Q S E r (a.put o.dst undef) w) : WS P ops Q S E ((o, true) :: r) a w := ⟨Seq.seq_off hw hS h.out⟩
theorem ws_do {S : World → Prop} {E : Act → World → Prop} {r : List (Oper × Bool)} (hw : Region.wanted o (yielded ops a.tmps) = true) (h : ∀ K : Act → World → Prop, (∀ a' w', S w' → WS P ops Q S E r a' w' → K a' w') → o.wp P a w K Q) : WS P ops Q S E ((o, true) :: r) a w := ⟨Seq.seq_do hw fun K hK => h K fun a' w' h1 h2 => hK a' w' h1 h2.out⟩
theorem ws_begin {S : World → Prop} (plan : List (Nat × Bool)) {id : Nat} (hm : P.follows .mixedOrders = true) (hok : (Region.noSelect ops && (plan.length == ops.size && Seq.planOk ops plan (Array.replicate ops.size false))) = true)
    (hQ : ∀ c a d v w, Q (.panic c) (a.put d v) w → Q (.panic c) a w) (hS : S w.drew) (h : ∀ w1, S w1 → WS P ops Q S (Q .normal) (Seq.lay ops.toList plan) a w1) : (Code.region id ops true).wp P Q a w := Seq.region_any plan hm hok hQ hS fun w1 h1 => (h w1 h1).out
def Calm (Q : Exit → Act → World → Prop) : Prop := ∀ c a d v w, Q (.panic c) (a.put d v) w → Q (.panic c) a w
theorem calm_then {K : Act → World → Prop} (h : Calm Q) : Calm (Exit.then K Q) := fun c a d v w h1 => h c a d v w h1
theorem calm_body {fn : Func} {R : Ending → World → Prop} : Calm (bodyPost P fn R) := fun _ _ d _ _ h => by cases d <;> exact h
variable {ρ : Operand → Value}
theorem ex_mv {x : Operand} (ho : o.op = .move x) (hx : ρ x = v) : (execOp ρ o).run P w = .ok (.value v) w := hx ▸ ex_move ho
theorem ex_as {x : Operand} (ho : o.op = .assign x) (hx : ρ x = v) : (execOp ρ o).run P w = .ok (.value v) w := hx ▸ ex_assign ho
theorem ex_box {t : TypeId} {x : Operand} {cs : Array Value} (ho : o.op = .box t x) (hx : ρ x = .agg cs) : (execOp ρ o).run P w = .ok (.value (.pointer (some ⟨w.heap.size, 0, none⟩))) (w.alloc (.cells cs t)) := by
  unfold execOp; simp only [ho, hx]; simp [Instr.box, newVar, newRow, go_sem, Value.cells]
theorem ex_alloc {t : TypeId} {z : Array Value} (ho : o.op = .alloc t) (hz : ∀ w, (zeroValue t).run P w = .ok (.agg z) w) : (execOp ρ o).run P w = .ok (.value (.pointer (some ⟨w.heap.size, 0, none⟩))) (w.alloc (.cells z t)) := by
  unfold execOp; simp only [ho]; simp [Instr.alloc, newVar, newRow, go_sem, Value.cells, hz]
theorem ex_build {t : TypeId} {parts : Array (Nat × Operand)} {ps : Array (Nat × Value)} {cs : Array Value} (ho : o.op = .build t parts) (hp : (parts.map fun (i, x) => (i, ρ x)) = ps) (h : P.built t ps.toList = some cs) : (execOp ρ o).run P w = .ok (.value (.agg cs)) w := by
  unfold execOp
  simp only [ho, hp, Sem.run_bind, run_build w t ps cs h, Result.andThen_ok, Sem.run_pure]
section
variable {f : Nat} {ts : Array TypeId} {x0 x1 x2 x3 : Operand} {v0 v1 v2 v3 : Value}
theorem ex_call0 (ho : o.op = .call { callee := .value (.func f), args := #[], argTypes := ts }) (hf : ρ (.func f) = .func (.func f) #[] #[]) (hc : ∀ (as : Array Value) (w : World), (callFunc f as).run P w = .ok (.enter f as) w) : (execOp ρ o).run P w = .ok (.enter f #[]) w := by
  have := ex_call (w := w) ho hf (fun as => hc as w); simpa using this
theorem ex_call1 (ho : o.op = .call { callee := .value (.func f), args := #[x0], argTypes := ts }) (hf : ρ (.func f) = .func (.func f) #[] #[]) (hc : ∀ (as : Array Value) (w : World), (callFunc f as).run P w = .ok (.enter f as) w) (h0 : ρ x0 = v0) : (execOp ρ o).run P w = .ok (.enter f #[v0]) w := by
  have := ex_call (w := w) ho hf (fun as => hc as w); simpa [h0] using this
theorem ex_call2 (ho : o.op = .call { callee := .value (.func f), args := #[x0, x1], argTypes := ts }) (hf : ρ (.func f) = .func (.func f) #[] #[]) (hc : ∀ (as : Array Value) (w : World), (callFunc f as).run P w = .ok (.enter f as) w) (h0 : ρ x0 = v0) (h1 : ρ x1 = v1) : (execOp ρ o).run P w = .ok (.enter f #[v0, v1]) w := by
  have := ex_call (w := w) ho hf (fun as => hc as w); simpa [h0, h1] using this
theorem ex_call3 (ho : o.op = .call { callee := .value (.func f), args := #[x0, x1, x2], argTypes := ts }) (hf : ρ (.func f) = .func (.func f) #[] #[]) (hc : ∀ (as : Array Value) (w : World), (callFunc f as).run P w = .ok (.enter f as) w) (h0 : ρ x0 = v0) (h1 : ρ x1 = v1) (h2 : ρ x2 = v2) : (execOp ρ o).run P w = .ok (.enter f #[v0, v1, v2]) w := by
  have := ex_call (w := w) ho hf (fun as => hc as w); simpa [h0, h1, h2] using this
theorem ex_call4 (ho : o.op = .call { callee := .value (.func f), args := #[x0, x1, x2, x3], argTypes := ts }) (hf : ρ (.func f) = .func (.func f) #[] #[]) (hc : ∀ (as : Array Value) (w : World), (callFunc f as).run P w = .ok (.enter f as) w) (h0 : ρ x0 = v0) (h1 : ρ x1 = v1) (h2 : ρ x2 = v2) (h3 : ρ x3 = v3) : (execOp ρ o).run P w = .ok (.enter f #[v0, v1, v2, v3]) w := by
  have := ex_call (w := w) ho hf (fun as => hc as w); simpa [h0, h1, h2, h3] using this
end
theorem ex_not {t : TypeId} {x : Operand} {b : Bool} (ho : o.op = .unOp .not t x) (hx : ρ x = .bool b) : (execOp ρ o).run P w = .ok (.value (.bool !b)) w := by
  unfold execOp; simp only [ho, hx]; simp [go_sem]
theorem ex_pk {c x y : Operand} {b : Bool} (ho : o.op = .pick c x y) (hc : ρ c = .bool b) (hv : (if b then ρ x else ρ y) = v) : (execOp ρ o).run P w = .ok (.value v) w := hv ▸ ex_pick ho hc
theorem ex_eql_bool {t t' : TypeId} {p q : Operand} {x y : Bool} (ht : P.underlying t = some .bool) (ho : o.op = .binOp .eql t p q t') (hp : ρ p = .bool x) (hq : ρ q = .bool y) : (execOp ρ o).run P w = .ok (.value (.bool (x == y))) w := by
  unfold execOp; simp only [ho, hp, hq]; simp [go_sem, run_eql_bool _ t x y ht]
theorem ex_neq_bool {t t' : TypeId} {p q : Operand} {x y : Bool} (ht : P.underlying t = some .bool) (ho : o.op = .binOp .neq t p q t') (hp : ρ p = .bool x) (hq : ρ q = .bool y) : (execOp ρ o).run P w = .ok (.value (.bool (x != y))) w := by
  unfold execOp; simp only [ho, hp, hq]; simp [go_sem, run_neq_bool _ t x y ht]; cases x <;> cases y <;> rfl
theorem ex_eql_int {t t' : TypeId} {p q : Operand} {k : IntKind} {x y : Int} {b : Bool} (ho : o.op = .binOp .eql t p q t') (hp : ρ p = .int k x) (hq : ρ q = .int k y) (h : (x == y) = b) : (execOp ρ o).run P w = .ok (.value (.bool b)) w := by
  subst h; unfold execOp; simp only [ho, hp, hq]; simp [go_sem]
theorem ex_neq_int {t t' : TypeId} {p q : Operand} {k : IntKind} {x y : Int} {b : Bool} (ho : o.op = .binOp .neq t p q t') (hp : ρ p = .int k x) (hq : ρ q = .int k y) (h : (x != y) = b) : (execOp ρ o).run P w = .ok (.value (.bool b)) w := by
  subst h; unfold execOp; simp only [ho, hp, hq]; simp [go_sem]
theorem ex_eql_self {t t' : TypeId} {p q : Operand} {k : IntKind} {x : Int} (ho : o.op = .binOp .eql t p q t') (hp : ρ p = .int k x) (hq : ρ q = .int k x) : (execOp ρ o).run P w = .ok (.value (.bool true)) w := ex_eql_int ho hp hq (by simp)
theorem ex_neq_self {t t' : TypeId} {p q : Operand} {k : IntKind} {x : Int} (ho : o.op = .binOp .neq t p q t') (hp : ρ p = .int k x) (hq : ρ q = .int k x) : (execOp ρ o).run P w = .ok (.value (.bool false)) w := ex_neq_int ho hp hq (by simp)
theorem wp_call {K : Act → World → Prop} {f : Nat} {args : Array Value} {R : Ending → World → Prop} (h : (execOp a.eval o).run P w = .ok (.enter f args) w) (c : Calls P f args w R) (k : ∀ e w', R e w' → ∃ v, e = .returned v ∧ K (a.put o.dst v) w') : o.wp P a w K Q := by
  unfold Oper.wp; rw [h]
  refine Calls.mono c fun e w' he => ?_
  obtain ⟨v, rfl, h2⟩ := k e w' he
  exact h2
/-- The end of 'x, e := f(..)'  where x is a struct: its home is new and holds what the call gave. -/
theorem home_new (w : World) (t : TypeId) (cs : Array Value) : Home (w.alloc (.cells cs t)) w.heap.size t cs := heap_alloc_new w _
theorem alloc_setRow (w : World) (t : TypeId) (zs cs : Array Value) : (w.alloc (.cells zs t)).setRow w.heap.size cs = w.alloc (.cells cs t) := by
  unfold World.setRow World.alloc
  simp only
  congr 1
  apply Array.ext
  · simp
  · intro i h1 h2
    simp only [Array.getElem_modify, Array.getElem_push]
    by_cases e : w.heap.size = i
    · subst e; simp
    · have hlt : i < w.heap.size := by simp at h2; omega
      simp [e, hlt]
theorem ls_home {o1 o2 : Oper} {t : TypeId} {x y : Operand} {z cs : Array Value} (hg1 : o1.guard = none) (hg2 : o2.guard = none) (h1 : o1.op = .alloc t) (h2 : o2.op = .store t x y) (hd : o2.dst = none)
    (hz : ∀ w, (zeroValue t).run P w = .ok (.agg z) w) (hx : (a.put o1.dst (.pointer (some ⟨w.heap.size, 0, none⟩))).eval x = .pointer (some ⟨w.heap.size, 0, none⟩)) (hy : (a.put o1.dst (.pointer (some ⟨w.heap.size, 0, none⟩))).eval y = .agg cs)
    (hi : (P.info? t).map (·.size) = some cs.size) (hs : z.size = cs.size) (h1c : cs.all (·.oneCell') = true) (k : WL P ops Q rest (a.put o1.dst (.pointer (some ⟨w.heap.size, 0, none⟩))) (w.alloc (.cells cs t))) : WL P ops Q (o1 :: o2 :: rest) a w := by
  refine ls_val hg1 (ex_alloc h1 hz) (ls_skip hg2 (ex_store h2 hx hy (home_new w t z) hi hs h1c) ?_)
  rw [hd, alloc_setRow]
  exact k
end
end Go.Proofs.Ytnjaepdlfnidfaa.Glue
