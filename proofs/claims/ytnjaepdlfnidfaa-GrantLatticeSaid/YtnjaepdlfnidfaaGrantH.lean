/- 'out.Vendors = append(out.Vendors, c.Vendors[i])', whatever the order. -/
import Derived.Test.YtnjaepdlfnidfaaGrantE
namespace Go.Proofs.Ytnjaepdlfnidfaa.GrantH
open Go.RowKit Go.Maps Mem Scan GrantP GrantW GrantX GrantY GrantZ GrantM GrantB GrantC GrantD GrantE Facts Glue

/-- Behind an append to the vendors of the consent in block O: what it has; all else is as it was. -/
def Pushed (W5 : World) (O : Nat) (m : Int) (R : Nat → Bool) (vv v : Value) (n : Nat) (l : List Int) (W : World) : Prop := ConAt W O m R vv ∧ W.ownsRow W5.heap.size 3 1 v n (intV l) ∧ Kept (· ≠ O) W5 W
theorem Pushed.below {W5 : World} {O : Nat} {m : Int} {R : Nat → Bool} {vv v : Value} {n : Nat} {l : List Int} {W W' : World} (h : Pushed W5 O m R vv v n l W) (hb : Below W.heap.size W W') : Pushed W5 O m R vv v n l W' :=
  ⟨h.1.below hb, own_below h.2.1 hb, h.2.2.trans (Kept.of_below hb)⟩
theorem intV_snoc (l : List Int) (x : Int) : intV (l ++ [x]) = intV l ++ [.int .i64 x] := by simp [intV]
def tell (p : World → Prop) : Fact := ⟨[], fun _ w => p w⟩
def val' (p : Value → World → Prop) : Fact := ⟨[], fun l w => ∃ v, l = [v] ∧ p v w⟩
theorem sure_val {p : Value → World → Prop} (h : ∀ v w w', Below w.heap.size w w' → p v w → p v w') : FSure (val' p) := fun _ _ _ hb ⟨v, e, hp⟩ => ⟨v, e, h _ _ _ hb hp⟩
theorem sure_tell {p : World → Prop} (h : ∀ w w', Below w.heap.size w w' → p w → p w') : FSure (tell p) := fun _ _ _ hb hp => h _ _ hb hp
theorem ex_field {o : Oper} {ρ : Operand → Value} {w : World} {x : Operand} {b : Nat} (ho : o.op = .fieldAddr 25 x 2) (hx : ρ x = .pointer (some ⟨b, 0, none⟩)) : (execOp ρ o).run Try.prog w = .ok (.value (.pointer (some ⟨b, 11, none⟩))) w := by
  unfold execOp; simp only [ho, hx]; simp [go_sem, run_underlying Try.underlying25]
theorem ex_cell {o : Oper} {ρ : Operand → Value} {w : World} {x : Operand} {t : TypeId} {ad : Addr} {v : Value} (ha : ∀ w, (isAgg t).run Try.prog w = .ok false w) (ho : o.op = .load t x) (hx : ρ x = .pointer (some ad)) (hc : w.cell? ad = some v) : (execOp ρ o).run Try.prog w = .ok (.value v) w := by
  unfold execOp; simp only [ho, hx]; simp [go_sem, ha, hc]
set_option maxHeartbeats 1000000 in
theorem push_con {rid : Nat} {o0 o1 o2 o3 o4 o5 o6 o7 o8 o9 o10 : Oper} {s0 s1 s2 s3 s4 s5 s6 s7 s8 s9 X Y Kt : Nat} {a : Act} {W0 W5 : World} {Q : Exit → Act → World → Prop} {O sA k n : Nat} {m : Int} {R : Nat → Bool} {vv : Value} {l : List Int} {A : Option Addr} {c : Nat} {V : List Int} {x : Int}
    (h0 : o0.op = .fieldAddr 25 (.tmp X) 2) (h1 : o1.op = .load 23 (.tmp s0)) (h2 : o2.op = .fieldAddr 25 (.tmp Y) 2) (h3 : o3.op = .load 23 (.tmp s2)) (h4 : o4.op = .move (.tmp Kt)) (h5 : o5.op = .indexAddr 23 (.tmp s3) (.tmp s4)) (h6 : o6.op = .load 3 (.tmp s5))
    (h7 : o7.op = .buildSlice 23 1 #[(0, .tmp s6)]) (h8 : o8.op = .call { callee := .builtin .append, args := #[.tmp s1, .tmp s7], argTypes := #[23, 23] }) (h9 : o9.op = .fieldAddr 25 (.tmp X) 2) (h10 : o10.op = .store 23 (.tmp s9) (.tmp s8))
    (hg : ([o0, o1, o2, o3, o4, o5, o6, o7, o8, o9, o10].all fun o => o.guard == none) = true)
    (hok : ((okDeps #[o0, o1, o2, o3, o4, o5, o6, o7, o8, o9, o10] (deps #[o0, o1, o2, o3, o4, o5, o6, o7, o8, o9, o10]) && okDst [o0, o1, o2, o3, o4, o5, o6, o7, o8, o9, o10]) && okNeeds (deps #[o0, o1, o2, o3, o4, o5, o6, o7, o8, o9, o10]) [[], [], [], [], [], [], [], [], [7, 11], [], [7, 8, 11]] [[], [0, 11], [], [2, 11], [], [3, 4], [5, 11], [6], [1, 7, 11], [], [8, 9]] [[], [], [], [], [], [], [], [], [0, 1, 2, 3, 4, 5, 6, 9], [], [0, 1, 2, 3, 4, 5, 6, 9]] [10] 11 1) = true)
    (ev : ∀ vs : Nat → Value, let ρ := (fill vs [o0, o1, o2, o3, o4, o5, o6, o7, o8, o9, o10] 0 a).eval; ρ (.tmp X) = .pointer (some ⟨O, 0, none⟩) ∧ ρ (.tmp Y) = .pointer (some ⟨sA, 0, none⟩) ∧ ρ (.tmp Kt) = .int .i64 k ∧ ρ (.tmp s0) = vs 0 ∧ ρ (.tmp s1) = vs 1 ∧ ρ (.tmp s2) = vs 2 ∧ ρ (.tmp s3) = vs 3 ∧ ρ (.tmp s4) = vs 4 ∧ ρ (.tmp s5) = vs 5 ∧ ρ (.tmp s6) = vs 6 ∧ ρ (.tmp s7) = vs 7 ∧ ρ (.tmp s8) = vs 8 ∧ ρ (.tmp s9) = vs 9)
    (hp : Pushed W5 O m R vv vv n l W0) (hO : O < W5.heap.size) (cA : W0.cell? ⟨sA, 11, none⟩ = some (.slice A V.length c)) (hAO : sA < W5.heap.size) (hr : Row W0 W0.heap.size A (intV V)) (hk : k < V.length) (hx : V.getD k 0 = x) (hn : n ≤ 1152921504606)
    (h : ∀ vs W v, Pushed W5 O m R v v (n + 1) (l ++ [x]) W → Q .normal (fill vs [o0, o1, o2, o3, o4, o5, o6, o7, o8, o9, o10] 0 a) W) : (Code.region rid #[o0, o1, o2, o3, o4, o5, o6, o7, o8, o9, o10] true).wp Try.prog Q a W0 := by
  simp only [List.all_cons, List.all_nil, Bool.and_true, Bool.and_eq_true, beq_iff_eq] at hg
  obtain ⟨g0, g1, g2, g3, g4, g5, g6, g7, g8, g9, g10⟩ := hg
  obtain ⟨b, o, rfl, hbB, hcs⟩ := ints_open hr (by omega)
  have c0 := hcs k hk
  rw [hx] at c0
  obtain ⟨hcon, hown, hkept⟩ := hp
  have lO := hcon.lt
  have cO := hcon.at' 11 _ rfl
  have hsz := hkept.size
  refine region_facts (I := fun _ => True)
    (F := [is (.pointer (some ⟨O, 11, none⟩)), is vv, is (.pointer (some ⟨sA, 11, none⟩)), is (.slice (some ⟨b, o, none⟩) V.length c), is (.int .i64 k), is (.pointer (some ⟨b, o + k, none⟩)), is (.int .i64 x), val' (fun v w => ∃ q, v = .slice (some ⟨q, 0, none⟩) 1 1 ∧ Row w w.heap.size (some ⟨q, 0, none⟩) [.int .i64 x]), val' (fun v w => Pushed W5 O m R vv v (n + 1) (l ++ [x]) w), is (.pointer (some ⟨O, 11, none⟩)), tell (fun w => ∃ v, Pushed W5 O m R v v (n + 1) (l ++ [x]) w), tell (fun w => Below W0.heap.size W0 w)])
    1 [[], [], [], [], [], [], [], [], [7, 11], [], [7, 8, 11]] [[], [0, 11], [], [2, 11], [], [3, 4], [5, 11], [6], [1, 7, 11], [], [8, 9]] [[], [], [], [], [], [], [], [], [0, 1, 2, 3, 4, 5, 6, 9], [], [0, 1, 2, 3, 4, 5, 6, 9]] [10]
    (by kernel_rfl) hok (by rfl) (allS ⟨sure_is _, sure_is _, sure_is _, sure_is _, sure_is _, sure_is _, sure_is _, sure_val (fun v w w' hb ⟨q, e, hq⟩ => ⟨q, e, hq.at' hb⟩), sure_val (fun v w w' hb h => h.below hb), sure_is _, sure_tell (fun w w' hb ⟨v, h⟩ => ⟨v, h.below hb⟩), sure_tell (fun w w' hb h => below_cat h hb), trivial⟩) trivial
    (fun j vs h1 h2 => by
      obtain rfl : j = 11 := by simp at h1 h2; omega
      exact (Below.refl _ _).drew)
    ⟨?_, ?_, ?_, ?_, ?_, ?_, ?_, ?_, ?_, ?_, ?_, trivial⟩ ?_
  · exact st_val g0 fun vs w _ _ => ⟨_, ex_field h0 (ev vs).1, rfl⟩
  · refine st_val g1 fun vs w _ ⟨f0, f11, _⟩ => ?_
    have hb : Below W0.heap.size W0 w := f11
    have e0 : vs 0 = _ := List.head_eq_of_cons_eq f0
    exact ⟨_, ex_cell Try.isAgg23 h1 ((ev vs).2.2.2.1.trans e0) ((hb.cell (p := ⟨O, 11, none⟩) lO).trans cO), rfl⟩
  · exact st_val g2 fun vs w _ _ => ⟨_, ex_field h2 (ev vs).2.1, rfl⟩
  · refine st_val g3 fun vs w _ ⟨f2, f11, _⟩ => ?_
    have hb : Below W0.heap.size W0 w := f11
    have e2 : vs 2 = _ := List.head_eq_of_cons_eq f2
    exact ⟨_, ex_cell Try.isAgg23 h3 ((ev vs).2.2.2.2.2.1.trans e2) ((hb.cell (p := ⟨sA, 11, none⟩) (show sA < W0.heap.size by omega)).trans cA), rfl⟩
  · exact st_val g4 fun vs w _ _ => ⟨_, ex_mv h4 (ev vs).2.2.1, rfl⟩
  · refine st_val g5 fun vs w _ ⟨f3, f4, _⟩ => ?_
    have e3 : vs 3 = _ := List.head_eq_of_cons_eq f3
    have e4 : vs 4 = _ := List.head_eq_of_cons_eq f4
    obtain ⟨_, _, _, _, _, _, v3, v4, _⟩ := ev vs
    refine ⟨_, ?_, rfl⟩
    unfold execOp
    simp only [h5, v3, v4, e3, e4]
    have i1 : (k : Int) < (V.length : Int) := by omega
    simp [go_sem, Try.sizeOf3, i1]
  · refine st_val g6 fun vs w _ ⟨f5, f11, _⟩ => ?_
    have hb : Below W0.heap.size W0 w := f11
    have e5 : vs 5 = _ := List.head_eq_of_cons_eq f5
    exact ⟨_, ex_cell Try.isAgg3 h6 ((ev vs).2.2.2.2.2.2.2.2.1.trans e5) ((hb.cell (p := ⟨b, o + k, none⟩) hbB).trans c0), rfl⟩
  · refine st_grow g7 (fun _ _ _ _ => trivial) fun vs w _ ⟨f6, _⟩ => ?_
    have e6 : vs 6 = _ := List.head_eq_of_cons_eq f6
    obtain ⟨_, _, _, _, _, _, _, _, _, v6, _⟩ := ev vs
    refine ⟨.slice (some ⟨w.heap.size, 0, none⟩) 1 1, w.alloc (.cells #[.int .i64 x] 3), ?_, (Below.refl _ _).alloc (Nat.le_refl _) _, _, rfl, _, rfl, Row.lit w 3 [.int .i64 x] _ (by simp)⟩
    have v6' : (at_ #[o0, o1, o2, o3, o4, o5, o6, o7, o8, o9, o10] a vs).eval (.tmp s6) = .int .i64 x := v6.trans e6
    unfold execOp
    simp only [h7, List.map_toArray, List.map_cons, List.map_nil, v6']
    simp [go_sem, run_underlying Try.underlying23, Try.sizeOf3, Try.zeroValue3]
  · intro vs w _ ⟨f1, f7, f11, _⟩
    have hb : Below W0.heap.size W0 w := f11
    have e1 : vs 1 = _ := List.head_eq_of_cons_eq f1
    obtain ⟨v7', e7, q, rfl, hq⟩ := f7
    have e7 : vs 7 = _ := List.head_eq_of_cons_eq e7
    obtain ⟨_, _, _, _, v1, _, _, _, _, _, v7, _⟩ := ev vs
    refine .inl ⟨wanted_none g8, fun K hK => ?_⟩
    have ho := own_below hown hb
    refine wp_app elemI (.tmp s1) (.tmp s7) h8 W5.heap.size vv n _ (v1.trans e1) ho (some ⟨q, 0, none⟩) 1 1 [.int .i64 x] w.heap.size (v7.trans e7) rfl hq (by simp [Value.oneCell']) (fun e => by cases e) (by omega) (by omega) (by have := hb.size; omega) fun v' w' o' g' => ?_
    refine hK v' w' trivial ⟨v', rfl, (hcon.below hb).of (g'.block O (by have := hb.size; omega) (fun e => by have := (ho.lt O e.symm).1; omega)), by rw [intV_snoc]; exact o', (hkept.trans (Kept.of_below hb)).grown g' (fun j e _ => (ho.lt j e).1)⟩ (.inr ⟨by decide, fun us => ⟨id, id, id, id, id, id, id, id, trivial⟩⟩)
  · exact st_val g9 fun vs w _ _ => ⟨_, ex_field h9 (ev vs).1, rfl⟩
  · refine st_write g10 (by decide) fun vs w _ ⟨f8, f9, _⟩ => ?_
    obtain ⟨v8', e8, hc, ho, hkk⟩ := f8
    have e8 : vs 8 = _ := List.head_eq_of_cons_eq e8
    have e9 : vs 9 = _ := List.head_eq_of_cons_eq f9
    obtain ⟨_, _, _, _, _, _, _, _, _, _, _, v8, v9⟩ := ev vs
    obtain ⟨gq, cq, rfl⟩ := ownsRow_succ ho
    have fO := hc.free 11
    have cO' := hc.at' 11 _ rfl
    refine ⟨w.setCell ⟨O, 11, none⟩ (.slice (some ⟨gq, 0, none⟩) (n + 1) cq), ?_, trivial, ⟨_, hc.setV _, ownsRow_setCell_other ho (fun e => by
      have h9 : W5.heap.size ≤ O := (ho.lt O e).1
      omega) _, hkk.setCell (fun h => absurd rfl h) _⟩, fun us => ⟨id, id, id, id, id, id, id, id, trivial⟩⟩
    unfold execOp
    simp only [h10, v9, e9, v8, e8]
    simp [go_sem, cO', fO]
  rintro vs W _ ⟨f10, _⟩
  obtain ⟨v, hv⟩ := f10
  exact h vs W v hv
end Go.Proofs.Ytnjaepdlfnidfaa.GrantH
