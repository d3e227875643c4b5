/- The steps of a walk over named trees, as a walk takes them. Over any program. -/
import Derived.Test.YtefcfickggnmjaaDoorAbsC
namespace Go.Proofs.YtefcfickggnmjaaDoor.Abs
open Go.RowKit Mem Facts

section
variable {P : Program} {N : Env} {l r : List Oper} {o : Oper} {tm : List (Nat × V)} {st : List (Nat × Option Blk)} {nx nt : Nat} {tr : List Tr} {K : S → List Tr → Prop} {fp : Fp} {v : V} {s : S} {tb : List Ty}
theorem h0 : Holds ⟨[], []⟩ s := ⟨fun p h => by simp at h, fun p h => by simp at h⟩
theorem hT {x : Operand} {v : V} {ts : List (Operand × V)} {ns : List (Nat × Blk)} (h : s.ev x = some v) (k : Holds ⟨ts, ns⟩ s) : Holds ⟨(x, v) :: ts, ns⟩ s := ⟨fun p hp => by
  rcases List.mem_cons.1 hp with rfl | hp
  · exact h
  · exact k.1 p hp, k.2⟩
theorem hN {n : Nat} {b : Blk} {ts : List (Operand × V)} {ns : List (Nat × Blk)} (h : s.blk n = some b) (k : Holds ⟨ts, ns⟩ s) : Holds ⟨ts, (n, b) :: ns⟩ s := ⟨k.1, fun p hp => by
  rcases List.mem_cons.1 hp with rfl | hp
  · exact h
  · exact k.2 p hp⟩
theorem blt_lt {a b : Nat} (h : Nat.blt a b = true) : a < b := by simpa using h
theorem r_val {d : Nat} (hg : guardV l o ⟨tm, st, nx, nt⟩ = some true) (hd : o.dst = some d) (hlt : Nat.blt d nt = true) (law : OpLaw P N o fp v [] []) (hh : Holds fp ⟨tm, st, nx, nt⟩) (k : ARun P N l K r ⟨(d, v) :: tm, st, nx, nt⟩ (tr ++ [trOf l o fp []])) : ARun P N l K (o :: r) ⟨tm, st, nx, nt⟩ tr :=
  .on fp v [] [] nx hg law hh ⟨Nat.le_refl _, fun n h => by simp at h⟩ (fun d' h => by rw [hd] at h; cases h; exact blt_lt hlt) (by
    have e : S.eff ⟨tm, st, nx, nt⟩ o.dst v [] nx = ⟨(d, v) :: tm, st, nx, nt⟩ := by rw [hd]; rfl
    rw [e]; exact k)
theorem r_new {d ν : Nat} {b : Blk} (hν : ν = nx) (hg : guardV l o ⟨tm, st, nx, nt⟩ = some true) (hd : o.dst = some d) (hlt : Nat.blt d nt = true) (law : OpLaw P N o fp v [(ν, some b)] [ν]) (hh : Holds fp ⟨tm, st, nx, nt⟩) (k : ARun P N l K r ⟨(d, v) :: tm, (ν, some b) :: st, nx + 1, nt⟩ (tr ++ [trOf l o fp [(ν, some b)]])) : ARun P N l K (o :: r) ⟨tm, st, nx, nt⟩ tr :=
  .on fp v [(ν, some b)] [ν] (nx + 1) hg law hh ⟨Nat.le_succ _, fun n h => by rw [List.mem_singleton] at h; show nx ≤ n ∧ n < nx + 1; omega⟩ (fun d' h => by rw [hd] at h; cases h; exact blt_lt hlt) (by
    have e : S.eff ⟨tm, st, nx, nt⟩ o.dst v [(ν, some b)] (nx + 1) = ⟨(d, v) :: tm, (ν, some b) :: st, nx + 1, nt⟩ := by rw [hd]; rfl
    rw [e]; exact k)
/-- One row goes, a new one takes its place. -/
theorem r_turn {d ν n : Nat} {b : Blk} (hν : ν = nx) (hg : guardV l o ⟨tm, st, nx, nt⟩ = some true) (hd : o.dst = some d) (hlt : Nat.blt d nt = true) (law : OpLaw P N o fp v [(n, none), (ν, some b)] [ν]) (hh : Holds fp ⟨tm, st, nx, nt⟩) (k : ARun P N l K r ⟨(d, v) :: tm, (n, none) :: (ν, some b) :: st, nx + 1, nt⟩ (tr ++ [trOf l o fp [(n, none), (ν, some b)]])) : ARun P N l K (o :: r) ⟨tm, st, nx, nt⟩ tr :=
  .on fp v [(n, none), (ν, some b)] [ν] (nx + 1) hg law hh ⟨Nat.le_succ _, fun n h => by rw [List.mem_singleton] at h; show nx ≤ n ∧ n < nx + 1; omega⟩ (fun d' h => by rw [hd] at h; cases h; exact blt_lt hlt) (by
    have e : S.eff ⟨tm, st, nx, nt⟩ o.dst v [(n, none), (ν, some b)] (nx + 1) = ⟨(d, v) :: tm, (n, none) :: (ν, some b) :: st, nx + 1, nt⟩ := by rw [hd]; rfl
    rw [e]; exact k)
theorem r_set {n : Nat} {b : Blk} (hg : guardV l o ⟨tm, st, nx, nt⟩ = some true) (hd : o.dst = none) (law : OpLaw P N o fp v [(n, some b)] []) (hh : Holds fp ⟨tm, st, nx, nt⟩) (k : ARun P N l K r ⟨tm, (n, some b) :: st, nx, nt⟩ (tr ++ [trOf l o fp [(n, some b)]])) : ARun P N l K (o :: r) ⟨tm, st, nx, nt⟩ tr :=
  .on fp v [(n, some b)] [] nx hg law hh ⟨Nat.le_refl _, fun n h => by simp at h⟩ (fun d' h => by rw [hd] at h; cases h) (by
    have e : S.eff ⟨tm, st, nx, nt⟩ o.dst v [(n, some b)] nx = ⟨tm, (n, some b) :: st, nx, nt⟩ := by rw [hd]; rfl
    rw [e]; exact k)
theorem r_do (hg : guardV l o ⟨tm, st, nx, nt⟩ = some true) (hd : o.dst = none) (law : OpLaw P N o fp v [] []) (hh : Holds fp ⟨tm, st, nx, nt⟩) (k : ARun P N l K r ⟨tm, st, nx, nt⟩ (tr ++ [trOf l o fp []])) : ARun P N l K (o :: r) ⟨tm, st, nx, nt⟩ tr :=
  .on fp v [] [] nx hg law hh ⟨Nat.le_refl _, fun n h => by simp at h⟩ (fun d' h => by rw [hd] at h; cases h) (by
    have e : S.eff ⟨tm, st, nx, nt⟩ o.dst v [] nx = ⟨tm, st, nx, nt⟩ := by rw [hd]; rfl
    rw [e]; exact k)
theorem r_off {d : Nat} (hg : guardV l o ⟨tm, st, nx, nt⟩ = some false) (hd : o.dst = some d) (hlt : Nat.blt d nt = true) (k : ARun P N l K r ⟨(d, .und) :: tm, st, nx, nt⟩ (tr ++ [trOf l o ⟨[], []⟩ []])) : ARun P N l K (o :: r) ⟨tm, st, nx, nt⟩ tr :=
  .off hg (fun d' h => by rw [hd] at h; cases h; exact blt_lt hlt) (by
    have e : S.eff ⟨tm, st, nx, nt⟩ o.dst .und [] nx = ⟨(d, .und) :: tm, st, nx, nt⟩ := by rw [hd]; rfl
    rw [e]; exact k)
theorem r_off0 (hg : guardV l o ⟨tm, st, nx, nt⟩ = some false) (hd : o.dst = none) (k : ARun P N l K r ⟨tm, st, nx, nt⟩ (tr ++ [trOf l o ⟨[], []⟩ []])) : ARun P N l K (o :: r) ⟨tm, st, nx, nt⟩ tr :=
  .off hg (fun d' h => by rw [hd] at h; cases h) (by
    have e : S.eff ⟨tm, st, nx, nt⟩ o.dst .und [] nx = ⟨tm, st, nx, nt⟩ := by rw [hd]; rfl
    rw [e]; exact k)
theorem r_nil {Q : Exit → S → Prop} (h : Q .normal s) : ARun P N l (fun s _ => Q .normal s) [] s tr := .nil h
theorem r_nild {Q : Exit → S → Prop} (hc : check l tr = true) (h : Q .normal s) : ARun P N l (fun s tr => check l tr = true ∧ Q .normal s) [] s tr := .nil ⟨hc, h⟩
theorem then_n {Q : Exit → S → Prop} {y : Code} (h : AWp P N y Q s) : AThen (AWp P N y Q) Q .normal s := h
theorem then_exit {Q : Exit → S → Prop} {K : S → Prop} {id : Nat} (h : Q (.exit id) s) : AThen K Q (.exit id) s := h
theorem then_ret {Q : Exit → S → Prop} {K : S → Prop} (h : Q .ret s) : AThen K Q .ret s := h
theorem blk_n {Q : Exit → S → Prop} {id : Nat} (h : Q .normal s) : ABlock id Q .normal s := h
theorem blk_ret {Q : Exit → S → Prop} {id : Nat} (h : Q .ret s) : ABlock id Q .ret s := h
theorem blk_exit {Q : Exit → S → Prop} {id : Nat} (h : Q .normal s) : ABlock id Q (.exit id) s := by show (if id = id then Q .normal s else Q (.exit id) s); rw [if_pos rfl]; exact h
theorem blk_other {Q : Exit → S → Prop} {id id' : Nat} (hne : Nat.beq id' id = false) (h : Q (.exit id') s) : ABlock id Q (.exit id') s := by show (if id' = id then Q .normal s else Q (.exit id') s); rw [if_neg (fun e => by rw [e] at hne; simp at hne)]; exact h
theorem wrap64 {n : Int} (h1 : -9223372036854775808 ≤ n) (h2 : n ≤ 9223372036854775807) : IntKind.i64.wrap n = n := by
  have := IntWalk.i64_in n
  exact this ⟨h1, h2⟩

/-! ### Functions by the number of what they take -/
variable {f : FuncId} {fn : Func} {c : Code} {rs : List ResultVar} {w : V}
theorem awp_fun {args : List V} (htb : TbOk P tb) (hf : P.funcs[f]? = some fn) (hb : fn.body = some c) (hnt : fn.ntmps = nt) (hrs : fn.results = rs.toArray) (hn : Nat.ble args.length nt = true) (h : ∀ bg : Bg, AWp P ⟨bg, 0, fun _ => ⟨none, 0, 0⟩⟩ c (AEnd tb rs w) ⟨argTm args 0, [], 0, nt⟩) : ACalls P f args w :=
  acalls_of htb hf hb (by rw [hnt]; exact hn) fun bg => by rw [hnt, hrs]; exact h bg
theorem fun0 (htb : TbOk P tb) (hf : P.funcs[f]? = some fn) (hb : fn.body = some c) (hnt : fn.ntmps = nt) (hrs : fn.results = rs.toArray) (h : ∀ bg : Bg, AWp P ⟨bg, 0, fun _ => ⟨none, 0, 0⟩⟩ c (AEnd tb rs w) ⟨[], [], 0, nt⟩) : ACalls P f [] w := awp_fun htb hf hb hnt hrs (by cases nt <;> rfl) h
theorem fun1 {a : V} (htb : TbOk P tb) (hf : P.funcs[f]? = some fn) (hb : fn.body = some c) (hnt : fn.ntmps = nt) (hrs : fn.results = rs.toArray) (hn : Nat.ble 1 nt = true) (h : ∀ bg : Bg, AWp P ⟨bg, 0, fun _ => ⟨none, 0, 0⟩⟩ c (AEnd tb rs w) ⟨[(0, a)], [], 0, nt⟩) : ACalls P f [a] w := awp_fun htb hf hb hnt hrs hn h
theorem fun2 {a b : V} (htb : TbOk P tb) (hf : P.funcs[f]? = some fn) (hb : fn.body = some c) (hnt : fn.ntmps = nt) (hrs : fn.results = rs.toArray) (hn : Nat.ble 2 nt = true) (h : ∀ bg : Bg, AWp P ⟨bg, 0, fun _ => ⟨none, 0, 0⟩⟩ c (AEnd tb rs w) ⟨[(0, a), (1, b)], [], 0, nt⟩) : ACalls P f [a, b] w := awp_fun htb hf hb hnt hrs hn h
theorem fun3 {a b d : V} (htb : TbOk P tb) (hf : P.funcs[f]? = some fn) (hb : fn.body = some c) (hnt : fn.ntmps = nt) (hrs : fn.results = rs.toArray) (hn : Nat.ble 3 nt = true) (h : ∀ bg : Bg, AWp P ⟨bg, 0, fun _ => ⟨none, 0, 0⟩⟩ c (AEnd tb rs w) ⟨[(0, a), (1, b), (2, d)], [], 0, nt⟩) : ACalls P f [a, b, d] w := awp_fun htb hf hb hnt hrs hn h
theorem fun4 {a b d e : V} (htb : TbOk P tb) (hf : P.funcs[f]? = some fn) (hb : fn.body = some c) (hnt : fn.ntmps = nt) (hrs : fn.results = rs.toArray) (hn : Nat.ble 4 nt = true) (h : ∀ bg : Bg, AWp P ⟨bg, 0, fun _ => ⟨none, 0, 0⟩⟩ c (AEnd tb rs w) ⟨[(0, a), (1, b), (2, d), (3, e)], [], 0, nt⟩) : ACalls P f [a, b, d, e] w := awp_fun htb hf hb hnt hrs hn h
theorem fun5 {a b d e g : V} (htb : TbOk P tb) (hf : P.funcs[f]? = some fn) (hb : fn.body = some c) (hnt : fn.ntmps = nt) (hrs : fn.results = rs.toArray) (hn : Nat.ble 5 nt = true) (h : ∀ bg : Bg, AWp P ⟨bg, 0, fun _ => ⟨none, 0, 0⟩⟩ c (AEnd tb rs w) ⟨[(0, a), (1, b), (2, d), (3, e), (4, g)], [], 0, nt⟩) : ACalls P f [a, b, d, e, g] w := awp_fun htb hf hb hnt hrs hn h
theorem fun6 {a b d e g i : V} (htb : TbOk P tb) (hf : P.funcs[f]? = some fn) (hb : fn.body = some c) (hnt : fn.ntmps = nt) (hrs : fn.results = rs.toArray) (hn : Nat.ble 6 nt = true) (h : ∀ bg : Bg, AWp P ⟨bg, 0, fun _ => ⟨none, 0, 0⟩⟩ c (AEnd tb rs w) ⟨[(0, a), (1, b), (2, d), (3, e), (4, g), (5, i)], [], 0, nt⟩) : ACalls P f [a, b, d, e, g, i] w := awp_fun htb hf hb hnt hrs hn h
variable {gl : Glob}
theorem awp_funG {args : List V} (htb : TbOk P tb) (hf : P.funcs[f]? = some fn) (hb : fn.body = some c) (hnt : fn.ntmps = nt) (hrs : fn.results = rs.toArray) (hn : Nat.ble args.length nt = true) (h : ∀ bl : Nat → Prop, AWp P ⟨⟨bl, gl⟩, 0, fun _ => ⟨none, 0, 0⟩⟩ c (AEnd tb rs w) ⟨argTm args 0, [], 0, nt⟩) : ACallsG P gl f args w :=
  acallsG_of htb hf hb (by rw [hnt]; exact hn) fun bl => by rw [hnt, hrs]; exact h bl
theorem funG0 (htb : TbOk P tb) (hf : P.funcs[f]? = some fn) (hb : fn.body = some c) (hnt : fn.ntmps = nt) (hrs : fn.results = rs.toArray) (h : ∀ bl : Nat → Prop, AWp P ⟨⟨bl, gl⟩, 0, fun _ => ⟨none, 0, 0⟩⟩ c (AEnd tb rs w) ⟨[], [], 0, nt⟩) : ACallsG P gl f [] w := awp_funG htb hf hb hnt hrs (by cases nt <;> rfl) h
theorem funG1 {a : V} (htb : TbOk P tb) (hf : P.funcs[f]? = some fn) (hb : fn.body = some c) (hnt : fn.ntmps = nt) (hrs : fn.results = rs.toArray) (hn : Nat.ble 1 nt = true) (h : ∀ bl : Nat → Prop, AWp P ⟨⟨bl, gl⟩, 0, fun _ => ⟨none, 0, 0⟩⟩ c (AEnd tb rs w) ⟨[(0, a)], [], 0, nt⟩) : ACallsG P gl f [a] w := awp_funG htb hf hb hnt hrs hn h
theorem funG2 {a b : V} (htb : TbOk P tb) (hf : P.funcs[f]? = some fn) (hb : fn.body = some c) (hnt : fn.ntmps = nt) (hrs : fn.results = rs.toArray) (hn : Nat.ble 2 nt = true) (h : ∀ bl : Nat → Prop, AWp P ⟨⟨bl, gl⟩, 0, fun _ => ⟨none, 0, 0⟩⟩ c (AEnd tb rs w) ⟨[(0, a), (1, b)], [], 0, nt⟩) : ACallsG P gl f [a, b] w := awp_funG htb hf hb hnt hrs hn h
theorem funG3 {a b d : V} (htb : TbOk P tb) (hf : P.funcs[f]? = some fn) (hb : fn.body = some c) (hnt : fn.ntmps = nt) (hrs : fn.results = rs.toArray) (hn : Nat.ble 3 nt = true) (h : ∀ bl : Nat → Prop, AWp P ⟨⟨bl, gl⟩, 0, fun _ => ⟨none, 0, 0⟩⟩ c (AEnd tb rs w) ⟨[(0, a), (1, b), (2, d)], [], 0, nt⟩) : ACallsG P gl f [a, b, d] w := awp_funG htb hf hb hnt hrs hn h
theorem funG4 {a b d e : V} (htb : TbOk P tb) (hf : P.funcs[f]? = some fn) (hb : fn.body = some c) (hnt : fn.ntmps = nt) (hrs : fn.results = rs.toArray) (hn : Nat.ble 4 nt = true) (h : ∀ bl : Nat → Prop, AWp P ⟨⟨bl, gl⟩, 0, fun _ => ⟨none, 0, 0⟩⟩ c (AEnd tb rs w) ⟨[(0, a), (1, b), (2, d), (3, e)], [], 0, nt⟩) : ACallsG P gl f [a, b, d, e] w := awp_funG htb hf hb hnt hrs hn h
theorem funG5 {a b d e g : V} (htb : TbOk P tb) (hf : P.funcs[f]? = some fn) (hb : fn.body = some c) (hnt : fn.ntmps = nt) (hrs : fn.results = rs.toArray) (hn : Nat.ble 5 nt = true) (h : ∀ bl : Nat → Prop, AWp P ⟨⟨bl, gl⟩, 0, fun _ => ⟨none, 0, 0⟩⟩ c (AEnd tb rs w) ⟨[(0, a), (1, b), (2, d), (3, e), (4, g)], [], 0, nt⟩) : ACallsG P gl f [a, b, d, e, g] w := awp_funG htb hf hb hnt hrs hn h
theorem funG6 {a b d e g i : V} (htb : TbOk P tb) (hf : P.funcs[f]? = some fn) (hb : fn.body = some c) (hnt : fn.ntmps = nt) (hrs : fn.results = rs.toArray) (hn : Nat.ble 6 nt = true) (h : ∀ bl : Nat → Prop, AWp P ⟨⟨bl, gl⟩, 0, fun _ => ⟨none, 0, 0⟩⟩ c (AEnd tb rs w) ⟨[(0, a), (1, b), (2, d), (3, e), (4, g), (5, i)], [], 0, nt⟩) : ACallsG P gl f [a, b, d, e, g, i] w := awp_funG htb hf hb hnt hrs hn h
theorem end_ret {us vs : List V} (h1 : resVs tb s rs = some vs) (h2 : frzL s.blk vs = some us) (h3 : FrzOkL s.blk vs) (h4 : pack us = w) : AEnd tb rs w .ret s := ⟨vs, us, h1, h2, h3, h4⟩
theorem end_nor {us vs : List V} (h1 : resVs tb s rs = some vs) (h2 : frzL s.blk vs = some us) (h3 : FrzOkL s.blk vs) (h4 : pack us = w) : AEnd tb rs w .normal s := ⟨vs, us, h1, h2, h3, h4⟩
end
/-! ### Bounds -/
mutual
def V.Lim : V → Prop
  | .str s => s.size ≤ SLIM
  | .int k n => InR k n
  | .fro xs => xs.length ≤ LIM ∧ LimL xs
  | .fp cs _ => LimL cs
  | .agg vs => LimL vs
  | .tup vs => LimL vs
  | _ => True
def V.LimL : List V → Prop
  | [] => True
  | v :: r => v.Lim ∧ LimL r
end
theorem limL_iff : ∀ {l : List V}, V.LimL l ↔ ∀ v ∈ l, v.Lim
  | [] => by simp [V.LimL]
  | v :: r => by simp [V.LimL, limL_iff (l := r)]
theorem Fz.lim {X : Nat → Prop} {w : World} {v : V} {x : Value} (h : Fz X w v x) : v.Lim := by
  induction h with
  | str h => exact h
  | int h => exact h
  | @agg vs cs h1 h2 h3 ih =>
    rw [V.Lim, limL_iff]
    intro v hv
    obtain ⟨i, hi⟩ := List.mem_iff_getElem?.1 hv
    have hl : i < cs.size := by rw [← h1]; exact (List.getElem?_eq_some_iff.1 hi).1
    exact ih i v cs[i] hi (by simp [hl])
  | @tup vs cs h1 h3 ih =>
    rw [V.Lim, limL_iff]
    intro v hv
    obtain ⟨i, hi⟩ := List.mem_iff_getElem?.1 hv
    have hl : i < cs.size := by rw [← h1]; exact (List.getElem?_eq_some_iff.1 hi).1
    exact ih i v cs[i] hi (by simp [hl])
  | fro0 h => rw [V.Lim]; exact ⟨by simp [LIM], trivial⟩
  | @fro xs b o sz cap c h1 h2 h3 h4 h5 h6 h7 h8 ih =>
    rw [V.Lim, limL_iff]
    refine ⟨h5, fun x hx => ?_⟩
    obtain ⟨i, hi⟩ := List.mem_iff_getElem?.1 hx
    have key : ∀ u ∈ x.cells, u.Lim := fun u hu => by
      obtain ⟨j, hj⟩ := List.mem_iff_getElem?.1 hu
      exact ih i j x u hi hj
    cases x with
    | agg vs => rw [V.Lim, limL_iff]; exact key
    | _ => exact key _ (by simp [V.cells])
  | @fp cs b o off c h1 h2 h3 h4 h5 ih =>
    rw [V.Lim, limL_iff]
    intro v hv
    obtain ⟨i, hi⟩ := List.mem_iff_getElem?.1 hv
    exact ih i v hi
  | _ => simp [V.Lim]
/-- A contract may take the bounds on what is handed. -/
theorem ACallsG.lim {P : Program} {g : Glob} {f : FuncId} {args : List V} {r : V} (h : V.LimL args → ACallsG P g f args r) : ACallsG P g f args r := fun N w vs hG hN hl hv => h (limL_iff.2 fun v hv' => by
  obtain ⟨i, hi⟩ := List.mem_iff_getElem?.1 hv'
  have hil : i < vs.size := by rw [← hl]; exact (List.getElem?_eq_some_iff.1 hi).1
  exact (hv i v vs[i] hi (by simp [hil])).lim) N w vs hG hN hl hv
theorem ACalls.lim {P : Program} {f : FuncId} {args : List V} {r : V} (h : V.LimL args → ACalls P f args r) : ACalls P f args r := fun g => ACallsG.lim fun hl => h hl g
end Go.Proofs.YtefcfickggnmjaaDoor.Abs
