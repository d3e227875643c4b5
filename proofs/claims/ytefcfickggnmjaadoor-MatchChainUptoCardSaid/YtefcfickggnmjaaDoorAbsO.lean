/- The laws of the plain operations over named trees. Over any program. -/
import Derived.Test.YtefcfickggnmjaaDoorAbsR
import Derived.WalkKit
import Derived.Laws.Small
import Derived.Deep.MidRow
import Derived.Handy
namespace Go.Proofs.YtefcfickggnmjaaDoor.Abs
open Go.RowKit Mem Facts

section
variable {P : Program} {N : Env} {o : Oper}
theorem law_pure {fp : Fp} {v : V} (h : ∀ s M A φ a w, Holds fp s → Rel N M A φ s a w → ∃ x, (execOp a.eval o).run P w = .ok (.value x) w ∧ Rep (fun b => M b ∨ N b) A φ w v x) : OpLaw P N o fp v [] [] := fun s M A φ a w hh hr _ hd => by
  obtain ⟨x, h1, h2⟩ := h s M A φ a w hh hr
  unfold Oper.wp
  rw [h1]
  exact ⟨M, φ, .refl _ w, fun _ _ h => h, (rel_dst hr h2 hd).wider fun _ h => .inl h⟩
section
variable {s : S} {l : List (Operand × V)} {ns : List (Nat × Blk)} {x y z : Operand} {u v t : V}
theorem Holds.a (h : Holds ⟨(x, u) :: l, ns⟩ s) : s.ev x = some u := h.1 (x, u) (by simp)
theorem Holds.b (h : Holds ⟨(x, u) :: (y, v) :: l, ns⟩ s) : s.ev y = some v := h.1 (y, v) (by simp)
theorem Holds.c (h : Holds ⟨(x, u) :: (y, v) :: (z, t) :: l, ns⟩ s) : s.ev z = some t := h.1 (z, t) (by simp)
theorem Holds.n {n : Nat} {k : Blk} {l : List (Operand × V)} (h : Holds ⟨l, (n, k) :: ns⟩ s) : s.blk n = some k := h.2 (n, k) (by simp)
end
/-! ### What only moves -/
theorem law_move {x : Operand} {v : V} (ho : o.op = .move x) : OpLaw P N o ⟨[(x, v)], []⟩ v [] [] := law_pure fun s M A φ a w hh hr => ⟨_, by unfold execOp; simp only [ho]; rfl, hr.ev hh.a⟩
theorem law_assign {x : Operand} {v : V} (ho : o.op = .assign x) : OpLaw P N o ⟨[(x, v)], []⟩ v [] [] := law_pure fun s M A φ a w hh hr => ⟨_, by unfold execOp; simp only [ho]; rfl, hr.ev hh.a⟩
theorem law_pick_true {c x y : Operand} {v : V} (ho : o.op = .pick c x y) : OpLaw P N o ⟨[(c, .bool true), (x, v)], []⟩ v [] [] := law_pure fun s M A φ a w hh hr => ⟨_, by unfold execOp; simp only [ho, hr.bool hh.a]; rfl, hr.ev hh.b⟩
theorem law_pick_false {c x y : Operand} {v : V} (ho : o.op = .pick c x y) : OpLaw P N o ⟨[(c, .bool false), (y, v)], []⟩ v [] [] := law_pure fun s M A φ a w hh hr => ⟨_, by unfold execOp; simp only [ho, hr.bool hh.a]; rfl, hr.ev hh.b⟩
theorem rep_tup {X A : Nat → Prop} {φ : Nat → Pl} {w : World} {vs : List V} {x : Value} (h : Rep X A φ w (.tup vs) x) : ∃ cs, x = .tuple cs ∧ vs.length = cs.size ∧ ∀ (i : Nat) v c, vs[i]? = some v → cs[i]? = some c → Rep X A φ w v c := by
  cases h with
  | fz h => cases h with | tup h1 h2 => exact ⟨_, rfl, h1, fun i v c hv hc => .fz (h2 i v c hv hc)⟩
  | tup h1 h2 => exact ⟨_, rfl, h1, h2⟩
theorem rep_agg {X A : Nat → Prop} {φ : Nat → Pl} {w : World} {vs : List V} {x : Value} (h : Rep X A φ w (.agg vs) x) : ∃ cs, x = .agg cs ∧ vs.length = cs.size ∧ (∀ v ∈ vs, v.one = true) ∧ ∀ (i : Nat) v c, vs[i]? = some v → cs[i]? = some c → Rep X A φ w v c := by
  cases h with
  | fz h => cases h with | agg h1 h2 h3 => exact ⟨_, rfl, h1, h2, fun i v c hv hc => .fz (h3 i v c hv hc)⟩
  | agg h1 h2 h3 => exact ⟨_, rfl, h1, h2, h3⟩
theorem law_extract {x : Operand} {i : Nat} {vs : List V} {v : V} (ho : o.op = .extract x i) (hv : nth vs i = some v) : OpLaw P N o ⟨[(x, .tup vs)], []⟩ v [] [] := law_pure fun s M A φ a w hh hr => by
  obtain ⟨cs, h1, h2, h3⟩ := rep_tup (hr.ev hh.a)
  rw [nth_eq] at hv
  have hi : i < cs.size := by rw [← h2]; exact (List.getElem?_eq_some_iff.1 hv).1
  have hc : cs[i]? = some cs[i] := by simp [hi]
  exact ⟨cs[i], by unfold execOp; simp only [ho, h1, Instr.extract, hc]; rfl, h3 i v _ hv hc⟩
theorem law_not {t : TypeId} {x : Operand} {b : Bool} (ho : o.op = .unOp .not t x) : OpLaw P N o ⟨[(x, .bool b)], []⟩ (.bool (!b)) [] [] := law_pure fun s M A φ a w hh hr =>
  ⟨.bool (!b), by unfold execOp; simp only [ho, hr.bool hh.a]; simp [go_sem], .fz .bool⟩
theorem law_nilCheck {x : Operand} {v : V} (ho : o.op = .nilCheck x) (hv : (match v with
    | .loc _ _ _ | .fp _ _ | .ifc _ _ | .fn (.func _) _ _ => true
    | _ => false) = true) : OpLaw P N o ⟨[(x, v)], []⟩ v [] [] := law_pure fun s M A φ a w hh hr => by
  refine ⟨_, ?_, hr.ev hh.a⟩
  have h := hr.ev hh.a
  unfold execOp
  simp only [ho]
  generalize a.eval x = c at h ⊢
  cases h with
  | fz h => cases h with
    | @fn f _ _ _ _ => cases f <;> first | rfl | (simp at hv; done)
    | _ => first | rfl | (simp at hv; done)
  | @fn f _ _ _ _ => cases f <;> first | rfl | (simp at hv; done)
  | _ => first | rfl | (simp at hv; done)
theorem law_makeFunc {f : Fn} {xs ys : Array Operand} {us vs : List V} (ho : o.op = .makeFunc f xs ys) (hu : us.length = xs.size) (hv : vs.length = ys.size) : OpLaw P N o ⟨xs.toList.zip us ++ ys.toList.zip vs, []⟩ (.fn f us vs) [] [] := law_pure fun s M A φ a w hh hr => by
  refine ⟨_, by unfold execOp; simp only [ho]; rfl, .fn (by simpa using hu) (by simpa using hv) (fun i x c hx hc => ?_) (fun i x c hx hc => ?_)⟩
  · simp only [Array.getElem?_map, Option.map_eq_some_iff] at hc
    obtain ⟨p, hp, rfl⟩ := hc
    exact hr.ev (hh.1 (p, x) (List.mem_append_left _ (List.mem_iff_getElem?.2 ⟨i, by simp [List.getElem?_zip_eq_some, hp, hx]⟩)))
  · simp only [Array.getElem?_map, Option.map_eq_some_iff] at hc
    obtain ⟨p, hp, rfl⟩ := hc
    exact hr.ev (hh.1 (p, x) (List.mem_append_right _ (List.mem_iff_getElem?.2 ⟨i, by simp [List.getElem?_zip_eq_some, hp, hx]⟩)))
theorem law_makeInterface {t : TypeId} {x : Operand} {v : V} {d : TypeDesc} (ho : o.op = .makeInterface t x) (ht : P.underlying t = some d) (hd : (match d with | .interface _ => false | _ => true) = true) : OpLaw P N o ⟨[(x, v)], []⟩ (.ifc t v) [] [] := law_pure fun s M A φ a w hh hr => by
  refine ⟨.iface t (a.eval x), ?_, .ifc (hr.ev hh.a)⟩
  unfold execOp
  simp only [ho, Instr.makeInterface, Sem.run_bind, run_underlying ht, Result.andThen_ok]
  cases d <;> first | rfl | (simp at hd; done)
/-! ### Numbers -/
section
variable {t t' : TypeId} {x y : Operand} {k : IntKind} {a b : Int}
theorem law_int2 {op : BinOp} {v : Value} (ho : o.op = .binOp op t x y t') (hop : (op matches .eql | .neq) = false) {u : V} (hu : ∀ X A φ w, Rep X A φ w u v) (h : ∀ w, (binOp op t (.int k a) (.int k b)).run P w = .ok v w) : OpLaw P N o ⟨[(x, .int k a), (y, .int k b)], []⟩ u [] [] := law_pure fun s M A φ ac w hh hr => by
  refine ⟨v, ?_, hu _ _ _ _⟩
  unfold execOp
  have e : (eqGuard op t x y (.int k a) (.int k b)).run P w = .ok () w := by
    unfold eqGuard
    cases op <;> first | (simp at hop; done) | rfl
  simp only [ho, hr.int hh.a, hr.int hh.b, Sem.run_bind, e, Result.andThen_ok, h w, Sem.run_pure]
theorem law_add (ho : o.op = .binOp .add t x y t') : OpLaw P N o ⟨[(x, .int k a), (y, .int k b)], []⟩ (.int k (k.wrap (a + b))) [] [] := law_int2 (v := .int k (k.wrap (a + b))) ho rfl (fun _ _ _ _ => .fz (.int (inR_wrap _ _))) fun w => by simp [go_sem]
theorem law_sub (ho : o.op = .binOp .sub t x y t') : OpLaw P N o ⟨[(x, .int k a), (y, .int k b)], []⟩ (.int k (k.wrap (a - b))) [] [] := law_int2 (v := .int k (k.wrap (a - b))) ho rfl (fun _ _ _ _ => .fz (.int (inR_wrap _ _))) fun w => by simp [go_sem]
theorem law_mul (ho : o.op = .binOp .mul t x y t') : OpLaw P N o ⟨[(x, .int k a), (y, .int k b)], []⟩ (.int k (k.wrap (a * b))) [] [] := law_int2 (v := .int k (k.wrap (a * b))) ho rfl (fun _ _ _ _ => .fz (.int (inR_wrap _ _))) fun w => by simp [go_sem]
theorem law_add' {n : Int} (ho : o.op = .binOp .add t x y t') (h : k.wrap (a + b) = n) : OpLaw P N o ⟨[(x, .int k a), (y, .int k b)], []⟩ (.int k n) [] [] := h ▸ law_add ho
theorem law_sub' {n : Int} (ho : o.op = .binOp .sub t x y t') (h : k.wrap (a - b) = n) : OpLaw P N o ⟨[(x, .int k a), (y, .int k b)], []⟩ (.int k n) [] [] := h ▸ law_sub ho
theorem law_mul' {n : Int} (ho : o.op = .binOp .mul t x y t') (h : k.wrap (a * b) = n) : OpLaw P N o ⟨[(x, .int k a), (y, .int k b)], []⟩ (.int k n) [] [] := h ▸ law_mul ho
theorem law_lss {r : Bool} (ho : o.op = .binOp .lss t x y t') (h : decide (a < b) = r) : OpLaw P N o ⟨[(x, .int k a), (y, .int k b)], []⟩ (.bool r) [] [] := law_int2 (v := .bool r) ho rfl (fun _ _ _ _ => .fz .bool) fun w => by subst h; simp [go_sem]
theorem law_leq {r : Bool} (ho : o.op = .binOp .leq t x y t') (h : decide (a ≤ b) = r) : OpLaw P N o ⟨[(x, .int k a), (y, .int k b)], []⟩ (.bool r) [] [] := law_int2 (v := .bool r) ho rfl (fun _ _ _ _ => .fz .bool) fun w => by subst h; simp [go_sem]
theorem law_gtr {r : Bool} (ho : o.op = .binOp .gtr t x y t') (h : decide (b < a) = r) : OpLaw P N o ⟨[(x, .int k a), (y, .int k b)], []⟩ (.bool r) [] [] := law_int2 (v := .bool r) ho rfl (fun _ _ _ _ => .fz .bool) fun w => by subst h; simp [go_sem]
theorem law_geq {r : Bool} (ho : o.op = .binOp .geq t x y t') (h : decide (b ≤ a) = r) : OpLaw P N o ⟨[(x, .int k a), (y, .int k b)], []⟩ (.bool r) [] [] := law_int2 (v := .bool r) ho rfl (fun _ _ _ _ => .fz .bool) fun w => by subst h; simp [go_sem]
theorem law_eql {r : Bool} (ho : o.op = .binOp .eql t x y t') (h : decide (a = b) = r) : OpLaw P N o ⟨[(x, .int k a), (y, .int k b)], []⟩ (.bool r) [] [] := law_pure fun s M A φ ac w hh hr => by
  refine ⟨.bool r, ?_, .fz .bool⟩
  have e : (a == b) = r := by rw [← h]; rfl
  unfold execOp
  simp only [ho, hr.int hh.a, hr.int hh.b]
  subst e
  simp [go_sem]
theorem law_neq {r : Bool} (ho : o.op = .binOp .neq t x y t') (h : decide (a ≠ b) = r) : OpLaw P N o ⟨[(x, .int k a), (y, .int k b)], []⟩ (.bool r) [] [] := law_pure fun s M A φ ac w hh hr => by
  refine ⟨.bool r, ?_, .fz .bool⟩
  have e : (a != b) = r := by rw [← h]; by_cases e : a = b <;> simp [e]
  unfold execOp
  simp only [ho, hr.int hh.a, hr.int hh.b]
  subst e
  simp [go_sem]
end
section
variable {t t' : TypeId} {x y : Operand} {a b r : Bool}
theorem law_eql_bool (ho : o.op = .binOp .eql t x y t') (ht : P.underlying t = some .bool) (h : (a == b) = r) : OpLaw P N o ⟨[(x, .bool a), (y, .bool b)], []⟩ (.bool r) [] [] := law_pure fun s M A φ ac w hh hr => by
  refine ⟨.bool r, ?_, .fz .bool⟩
  subst h
  unfold execOp
  simp only [ho, hr.bool hh.a, hr.bool hh.b]
  simp [go_sem, run_eql_bool _ t a b ht]
theorem law_neq_bool (ho : o.op = .binOp .neq t x y t') (ht : P.underlying t = some .bool) (h : (a != b) = r) : OpLaw P N o ⟨[(x, .bool a), (y, .bool b)], []⟩ (.bool r) [] [] := law_pure fun s M A φ ac w hh hr => by
  refine ⟨.bool r, ?_, .fz .bool⟩
  subst h
  unfold execOp
  simp only [ho, hr.bool hh.a, hr.bool hh.b]
  simp [go_sem, run_neq_bool _ t a b ht]; cases a <;> cases b <;> rfl
end
/-! ### Texts -/
section
variable {t t' : TypeId} {x y : Operand} {a b : ByteArray} {r : Bool}
theorem toList_beq (a b : ByteArray) : (a.toList == b.toList) = decide (a = b) := by
  by_cases h : a = b
  · subst h; simp
  · have : a.toList ≠ b.toList := fun e => h (by
      have e2 : a.data = b.data := by
        have := congrArg List.toArray e
        simpa [ByteArray.toList_eq] using this
      exact ByteArray.ext e2)
    simp [h, this]
theorem law_eql_str (ho : o.op = .binOp .eql t x y t') (h : decide (a = b) = r) : OpLaw P N o ⟨[(x, .str a), (y, .str b)], []⟩ (.bool r) [] [] := law_pure fun s M A φ ac w hh hr => by
  refine ⟨.bool r, ?_, .fz .bool⟩
  subst h
  unfold execOp
  simp only [ho, (hr.str hh.a).1, (hr.str hh.b).1]
  rw [← toList_beq]
  simp [go_sem]
theorem law_neq_str (ho : o.op = .binOp .neq t x y t') (h : decide (a ≠ b) = r) : OpLaw P N o ⟨[(x, .str a), (y, .str b)], []⟩ (.bool r) [] [] := law_pure fun s M A φ ac w hh hr => by
  refine ⟨.bool r, ?_, .fz .bool⟩
  subst h
  unfold execOp
  simp only [ho, (hr.str hh.a).1, (hr.str hh.b).1]
  have e : decide (a ≠ b) = !(a.toList == b.toList) := by rw [toList_beq]; by_cases h : a = b <;> simp [h]
  rw [e]
  simp [go_sem]
theorem law_cat (ho : o.op = .binOp .add t x y t') (h : a.size + b.size ≤ SLIM) : OpLaw P N o ⟨[(x, .str a), (y, .str b)], []⟩ (.str (a ++ b)) [] [] := law_pure fun s M A φ ac w hh hr => by
  refine ⟨.string (a ++ b), ?_, .fz (.str (by simpa using h))⟩
  unfold execOp
  simp only [ho, (hr.str hh.a).1, (hr.str hh.b).1]
  have e : ¬ (((a.size + b.size : Nat) : Int) > IntKind.i64.max) := by
    have : IntKind.i64.max = 9223372036854775807 := rfl
    rw [this]; simp only [SLIM] at h; omega
  have e2 : ¬ ((9223372036854775807 : Int) < (a.size : Int) + (b.size : Int)) := by simp only [SLIM] at h; omega
  simp [go_sem, Go.binOp, eqGuard, Op.stringOp, e, e2]
theorem law_len_str (ho : o.op = .call { callee := .builtin .len, args := #[x], argTypes := #[t] }) (ht : P.underlying t = some .string) : OpLaw P N o ⟨[(x, .str a)], []⟩ (.int .i64 a.size) [] [] := law_pure fun s M A φ ac w hh hr => by
  refine ⟨.int .i64 a.size, ?_, .fz (.int ⟨by simp only [rng]; omega, by have := (hr.str hh.a).2; simp only [rng, SLIM] at this ⊢; omega⟩)⟩
  unfold execOp
  simp only [ho, resolve, Sem.run_bind, Sem.run_pure, Result.andThen_ok, invoke, builtin, List.map_toArray, List.map_cons, List.map_nil, (hr.str hh.a).1]
  simp [Builtin.len_, run_underlying ht]
  rfl
end
end
end Go.Proofs.YtefcfickggnmjaaDoor.Abs
