/- Many steps at once: what needs no proof is read off. Over any program. -/
import Derived.Test.YtefcfickggnmjaaDoorAbsP
namespace Go.Proofs.YtefcfickggnmjaaDoor.Abs
open Go.RowKit Mem Facts

def evL (s : S) : List Operand → Option (List V)
  | [] => some []
  | x :: r => match s.ev x, evL s r with
    | some v, some vs => some (v :: vs)
    | _, _ => none
def setNth : List V → Nat → V → Option (List V)
  | [], _, _ => none
  | _ :: r, 0, v => some (v :: r)
  | x :: r, n + 1, v => match setNth r n v with
    | some q => some (x :: q)
    | none => none
theorem setNth_some : ∀ {l : List V} {n : Nat} {v : V} {q : List V}, setNth l n v = some q → l.set n v = q
  | [], _, _, _, h => by simp [setNth] at h
  | x :: r, 0, v, q, h => by rw [setNth] at h; cases h; rfl
  | x :: r, n + 1, v, q, h => by
    rw [setNth] at h
    split at h <;> cases h
    rename_i q hq
    rw [List.set_cons_succ, setNth_some hq]
theorem evL_at {s : S} : ∀ {xs : List Operand} {vs : List V}, evL s xs = some vs → vs.length = xs.length ∧ ∀ p ∈ xs.zip vs, s.ev p.1 = some p.2
  | [], vs, h => by rw [evL] at h; cases h; exact ⟨rfl, fun p hp => by cases hp⟩
  | x :: r, vs, h => by
    rw [evL] at h
    split at h <;> cases h
    rename_i v q hv hq
    obtain ⟨h1, h2⟩ := evL_at hq
    refine ⟨by simp [h1], fun p hp => ?_⟩
    rcases List.mem_cons.1 hp with rfl | hp
    · exact hv
    · exact h2 p hp
abbrev Stp := V × Fp × List (Nat × Option Blk) × List Nat × Nat
/-- A step that needs no proof; ow: what is made is the walk's own. -/
def stp (tb : List Ty) (ow : Bool) (op : Op) (s : S) : Option Stp := match op with
  | .move x => match s.ev x with
    | some v => some (v, ⟨[(x, v)], []⟩, [], [], s.nx)
    | none => none
  | .assign x => match s.ev x with
    | some v => some (v, ⟨[(x, v)], []⟩, [], [], s.nx)
    | none => none
  | .pick c x y => match s.ev c with
    | some (.bool true) => (match s.ev x with
      | some v => some (v, ⟨[(c, .bool true), (x, v)], []⟩, [], [], s.nx)
      | none => none)
    | some (.bool false) => (match s.ev y with
      | some v => some (v, ⟨[(c, .bool false), (y, v)], []⟩, [], [], s.nx)
      | none => none)
    | _ => none
  | .extract x i => match s.ev x with
    | some (.tup vs) => (match nth vs i with
      | some v => some (v, ⟨[(x, .tup vs)], []⟩, [], [], s.nx)
      | none => none)
    | _ => none
  | .unOp .not _ x => match s.ev x with
    | some (.bool b) => some (.bool (!b), ⟨[(x, .bool b)], []⟩, [], [], s.nx)
    | _ => none
  | .nilCheck x => match s.ev x with
    | some (.loc n i k) => some (.loc n i k, ⟨[(x, .loc n i k)], []⟩, [], [], s.nx)
    | some (.fp cs k) => some (.fp cs k, ⟨[(x, .fp cs k)], []⟩, [], [], s.nx)
    | some (.ifc t v) => some (.ifc t v, ⟨[(x, .ifc t v)], []⟩, [], [], s.nx)
    | some (.fn (.func f) a b) => some (.fn (.func f) a b, ⟨[(x, .fn (.func f) a b)], []⟩, [], [], s.nx)
    | _ => none
  | .load T x => match nth tb T with
    | some e => (match s.ev x with
      | some (.loc n i off) => (match s.blk n with
        | some (.els T' sz xs) => (match nth xs i with
          | some el => (match subV el.cells off e.agg e.size with
            | some v => some (v, ⟨[(x, .loc n i off)], [(n, .els T' sz xs)]⟩, [], [], s.nx)
            | none => none)
          | none => none)
        | _ => none)
      | some (.fp cs off) => (match subV cs off e.agg e.size with
        | some v => some (v, ⟨[(x, .fp cs off)], []⟩, [], [], s.nx)
        | none => none)
      | _ => none)
    | none => none
  | .field T x f => match nth tb T with
    | some e => (match s.ev x with
      | some (.agg vs) => (match nth e.flds f with
        | some (off, ft) => (match nth tb ft with
          | some ef => (match subV vs off ef.agg ef.size with
            | some v => some (v, ⟨[(x, .agg vs)], []⟩, [], [], s.nx)
            | none => none)
          | none => none)
        | none => none)
      | _ => none)
    | none => none
  | .fieldAddr T x f => match nth tb T with
    | some e => (match nth e.flds f with
      | some (off, ft) => (match nth tb ft with
        | some ef => bif Nat.ble 1 ef.size then (match s.ev x with
          | some (.loc n i k) => some (.loc n i (k + off), ⟨[(x, .loc n i k)], []⟩, [], [], s.nx)
          | some (.fp cs k) => some (.fp cs (k + off), ⟨[(x, .fp cs k)], []⟩, [], [], s.nx)
          | _ => none) else none
        | none => none)
      | none => none)
    | none => none
  | .alloc T => match nth tb T with
    | some e => (match e.zeroV with
      | some v => some (.loc s.nx 0 0, ⟨[], []⟩, [(s.nx, some (.els T v.cells.length [v]))], [s.nx], s.nx + 1)
      | none => none)
    | none => none
  | .box T x => match s.ev x with
    | some v => bif v.cells.all V.one then (bif ow then (bif Nat.ble 1 v.cells.length then some (.loc s.nx 0 0, ⟨[(x, v)], []⟩, [(s.nx, some (.els T v.cells.length [v]))], [s.nx], s.nx + 1) else none)
      else (match v.names with
        | [] => some (.fp v.cells 0, ⟨[(x, v)], []⟩, [], [], s.nx)
        | _ => none)) else none
    | none => none
  | .store T x y => match nth tb T with
    | some e => (match s.ev x with
      | some (.loc n i off) => (match s.blk n with
        | some (.els T' sz xs) => (match nth xs i with
          | some el => (match s.ev y with
            | some v => bif v.cells.all V.one && Nat.beq v.cells.length e.size && (!el.one || Nat.beq v.cells.length 1) then (match putV el off v with
              | some el' => (match setNth xs i el' with
                | some xs' => some (.und, ⟨[(x, .loc n i off), (y, v)], [(n, .els T' sz xs)]⟩, [(n, some (.els T' sz xs'))], [], s.nx)
                | none => none)
              | none => none) else none
            | none => none)
          | none => none)
        | _ => none)
      | _ => none)
    | none => none
  | .makeFunc f xs ys => match evL s xs.toList, evL s ys.toList with
    | some us, some vs => some (.fn f us vs, ⟨xs.toList.zip us ++ ys.toList.zip vs, []⟩, [], [], s.nx)
    | _, _ => none
  | .makeInterface t x => match nth tb t with
    | some e => bif Nat.beq e.knd 7 then none else (match s.ev x with
      | some v => some (.ifc t v, ⟨[(x, v)], []⟩, [], [], s.nx)
      | none => none)
    | none => none
  | .build T ps => match nth tb T with
    | some e => bif e.agg && e.placeOk tb then (match e.zeroV with
      | some z => (match evL s (ps.toList.map (·.2)) with
        | some vs => bif (vs.all fun v => v.cells.all V.one) then (match fillV (e.place tb) z.cells (zipP ps.toList vs) with
          | some cs => some (.agg cs, ⟨(ps.toList.map (·.2)).zip vs, []⟩, [], [], s.nx)
          | none => none) else none
        | none => none)
      | none => none) else none
    | none => none
  | _ => none
section
variable {P : Program} {N : Env} {o : Oper} {tb : List Ty} {s : S}
theorem holds1 {x : Operand} {v : V} (h : s.ev x = some v) : Holds ⟨[(x, v)], []⟩ s := hT h h0
theorem holds2 {x y : Operand} {u v : V} (h : s.ev x = some u) (k : s.ev y = some v) : Holds ⟨[(x, u), (y, v)], []⟩ s := hT h (hT k h0)
theorem holdsL {l : List (Operand × V)} (h : ∀ p ∈ l, s.ev p.1 = some p.2) : Holds ⟨l, []⟩ s := ⟨h, fun p hp => by cases hp⟩
structure StpOk (P : Program) (N : Env) (o : Oper) (s : S) (v : V) (fp : Fp) (up : List (Nat × Option Blk)) (new : List Nat) (nx : Nat) : Prop where
  law : OpLaw P N o fp v up new
  hh : Holds fp s
  hn : s.nx ≤ nx ∧ ∀ n ∈ new, s.nx ≤ n ∧ n < nx
theorem stay0 : s.nx ≤ s.nx ∧ ∀ n ∈ ([] : List Nat), s.nx ≤ n ∧ n < s.nx := ⟨Nat.le_refl _, fun n h => by cases h⟩
theorem one_new : s.nx ≤ s.nx + 1 ∧ ∀ n ∈ [s.nx], s.nx ≤ n ∧ n < s.nx + 1 := ⟨Nat.le_succ _, fun n h => by rw [List.mem_singleton] at h; omega⟩
theorem cond_some {α : Type} {b : Bool} {x : Option α} {y : α} (h : (bif b then x else none) = some y) : b = true ∧ x = some y := by
  cases b with
  | true => exact ⟨rfl, h⟩
  | false => cases h
theorem stp_ok {ow : Bool} {op : Op} {v : V} {fp : Fp} {up : List (Nat × Option Blk)} {new : List Nat} {nx : Nat} (htb : TbOk P tb) (ho : o.op = op) (h : stp tb ow op s = some (v, fp, up, new, nx)) : StpOk P N o s v fp up new nx := by
  unfold stp at h
  split at h
  · split at h <;> cases h
    rename_i hx
    exact ⟨law_move ho, holds1 hx, stay0⟩
  · split at h <;> cases h
    rename_i hx
    exact ⟨law_assign ho, holds1 hx, stay0⟩
  · split at h
    · rename_i hc
      split at h <;> cases h
      rename_i hx
      exact ⟨law_pick_true ho, holds2 hc hx, stay0⟩
    · rename_i hc
      split at h <;> cases h
      rename_i hx
      exact ⟨law_pick_false ho, holds2 hc hx, stay0⟩
    · cases h
  · split at h
    · rename_i hx
      split at h <;> cases h
      rename_i hn
      exact ⟨law_extract ho hn, holds1 hx, stay0⟩
    · cases h
  · split at h <;> cases h
    rename_i hx
    exact ⟨law_not ho, holds1 hx, stay0⟩
  · split at h <;> cases h <;> (rename_i hx; exact ⟨law_nilCheck ho rfl, holds1 hx, stay0⟩)
  · split at h
    · rename_i e hT'
      split at h
      · rename_i hx
        split at h
        · rename_i hb
          split at h
          · rename_i el hel
            split at h <;> cases h
            rename_i hv
            rw [nth_eq] at hel
            exact ⟨law_load htb ho hT' hel hv, hT hx (hN hb h0), stay0⟩
          · cases h
        · cases h
      · rename_i hx
        split at h <;> cases h
        rename_i hv
        exact ⟨law_load_fp htb ho hT' hv, holds1 hx, stay0⟩
      · cases h
    · cases h
  · split at h
    · rename_i e hT'
      split at h
      · rename_i hx
        split at h
        · rename_i hf
          split at h
          · rename_i ef hF
            split at h <;> cases h
            rename_i hv
            exact ⟨law_field htb ho hT' hf hF hv, holds1 hx, stay0⟩
          · cases h
        · cases h
      · cases h
    · cases h
  · split at h
    · rename_i e hT'
      split at h
      · rename_i hf
        split at h
        · rename_i ef hF
          obtain ⟨hb, h⟩ := cond_some h
          split at h <;> cases h
          · rename_i hx
            exact ⟨law_fieldAddr htb ho hT' hf hF hb, holds1 hx, stay0⟩
          · rename_i hx
            exact ⟨law_fieldAddr_fp htb ho hT' hf hF hb, holds1 hx, stay0⟩
        · cases h
      · cases h
    · cases h
  · split at h
    · rename_i e hT'
      split at h <;> cases h
      rename_i hv
      exact ⟨law_alloc htb ho hT' hv, h0, one_new⟩
    · cases h
  · split at h
    · rename_i hx
      obtain ⟨h1, h⟩ := cond_some h
      cases ow with
      | true =>
        simp only [cond_true] at h
        obtain ⟨h2, h⟩ := cond_some h
        cases h
        exact ⟨law_box ho h2 h1, holds1 hx, one_new⟩
      | false =>
        simp only [cond_false] at h
        split at h <;> cases h
        rename_i hn
        exact ⟨law_box_fz ho hn h1, holds1 hx, stay0⟩
    · cases h
  · split at h
    · rename_i e hT'
      split at h
      · rename_i hx
        split at h
        · rename_i hb
          split at h
          · rename_i el hel
            split at h
            · rename_i hy
              obtain ⟨hb1, h⟩ := cond_some h
              simp only [Bool.and_eq_true] at hb1
              split at h
              · rename_i hp
                split at h <;> cases h
                rename_i hs
                rw [nth_eq] at hel
                exact ⟨law_store htb ho hT' hel hb1.1.1 (Nat.eq_of_beq_eq_true hb1.1.2) hp hb1.2 (setNth_some hs), hT hx (hT hy (hN hb h0)), stay0⟩
              · cases h
            · cases h
          · cases h
        · cases h
      · cases h
    · cases h
  · split at h <;> cases h
    rename_i us vs hu hv
    obtain ⟨u1, u2⟩ := evL_at hu
    obtain ⟨v1, v2⟩ := evL_at hv
    exact ⟨law_makeFunc ho (by simpa using u1) (by simpa using v1), holdsL fun p hp => (List.mem_append.1 hp).elim (u2 p) (v2 p), stay0⟩
  · split at h
    · rename_i e hT'
      cases hk : Nat.beq e.knd 7 with
      | true => rw [hk] at h; cases h
      | false =>
        rw [hk] at h
        simp only [cond_false] at h
        split at h <;> cases h
        rename_i hx
        obtain ⟨ti, d, ht⟩ := ty_at htb hT'
        refine ⟨law_makeInterface ho ht.und ?_, holds1 hx, stay0⟩
        have := ht.knd
        cases d <;> first | rfl | (simp only [kindOf] at this; rw [this] at hk; cases hk)
    · cases h
  · split at h
    · rename_i e hT'
      obtain ⟨hb, h⟩ := cond_some h
      rw [Bool.and_eq_true] at hb
      split at h
      · rename_i z hz
        split at h
        · rename_i vs hvs
          obtain ⟨h1, h⟩ := cond_some h
          split at h <;> cases h
          have hf := ‹fillV _ _ _ = some _›
          obtain ⟨v1, v2⟩ := evL_at hvs
          exact ⟨law_build htb ho (by simp [v1]) hT' hb.2 hz hb.1 h1 hf, holdsL v2, stay0⟩
        · cases h
      · cases h
    · cases h
  · cases h
end
/-! ### As far as it goes -/
def memN (d : Nat) : List Nat → Bool
  | [] => false
  | n :: r => Nat.beq n d || memN d r
abbrev Far := List Oper × List (Nat × V) × List (Nat × Option Blk) × Nat × List Tr
def owd (ow : List Nat) (o : Oper) : Bool := match o.dst with
  | some d => memN d ow
  | none => false
def far (tb : List Ty) (ow : List Nat) (l : List Oper) (nt : Nat) : List Oper → List (Nat × V) → List (Nat × Option Blk) → Nat → List Tr → Far
  | [], tm, st, nx, tr => ([], tm, st, nx, tr)
  | o :: r, tm, st, nx, tr => match guardV l o ⟨tm, st, nx, nt⟩ with
    | some false => (match o.dst with
      | some d => bif Nat.blt d nt then far tb ow l nt r ((d, .und) :: tm) st nx (tr ++ [trOf l o ⟨[], []⟩ []]) else (o :: r, tm, st, nx, tr)
      | none => far tb ow l nt r tm st nx (tr ++ [trOf l o ⟨[], []⟩ []]))
    | some true => (match stp tb (owd ow o) o.op ⟨tm, st, nx, nt⟩ with
      | some (v, fp, up, _, nx') => (match appO up st with
        | some st' => (match o.dst with
          | some d => bif Nat.blt d nt then far tb ow l nt r ((d, v) :: tm) st' nx' (tr ++ [trOf l o fp up]) else (o :: r, tm, st, nx, tr)
          | none => far tb ow l nt r tm st' nx' (tr ++ [trOf l o fp up]))
        | none => (o :: r, tm, st, nx, tr))
      | none => (o :: r, tm, st, nx, tr))
    | none => (o :: r, tm, st, nx, tr)
section
variable {P : Program} {N : Env} {tb : List Ty} {ow : List Nat} {l : List Oper} {nt : Nat} {K : S → List Tr → Prop}
theorem far_ok (htb : TbOk P tb) : ∀ (r : List Oper) (tm : List (Nat × V)) (st : List (Nat × Option Blk)) (nx : Nat) (tr : List Tr) (r' : List Oper) (tm' : List (Nat × V)) (st' : List (Nat × Option Blk)) (nx' : Nat) (tr' : List Tr),
    far tb ow l nt r tm st nx tr = (r', tm', st', nx', tr') → ARun P N l K r' ⟨tm', st', nx', nt⟩ tr' → ARun P N l K r ⟨tm, st, nx, nt⟩ tr
  | [], tm, st, nx, tr, r', tm', st', nx', tr', h, k => by rw [far] at h; cases h; exact k
  | o :: r, tm, st, nx, tr, r', tm', st', nx', tr', h, k => by
    rw [far] at h
    split at h
    · rename_i hg
      split at h
      · rename_i d hd
        cases hb : Nat.blt d nt with
        | false => rw [hb] at h; cases h; exact k
        | true =>
          rw [hb] at h
          exact r_off hg hd hb (far_ok htb r _ _ _ _ _ _ _ _ _ h k)
      · rename_i hd
        exact r_off0 hg hd (far_ok htb r _ _ _ _ _ _ _ _ _ h k)
    · rename_i hg
      split at h
      · rename_i v fp up new nx1 hs
        have ok := stp_ok (P := P) (N := N) htb rfl hs
        split at h
        · rename_i st1 ha
          have ea := appO_eq ha
          split at h
          · rename_i d hd
            cases hb : Nat.blt d nt with
            | false => rw [hb] at h; cases h; exact k
            | true =>
              rw [hb] at h
              refine .on fp v up new nx1 hg ok.law ok.hh ok.hn (fun d' h => by rw [hd] at h; cases h; exact blt_lt hb) ?_
              have e : S.eff ⟨tm, st, nx, nt⟩ o.dst v up nx1 = ⟨(d, v) :: tm, st1, nx1, nt⟩ := by rw [hd, ea]; rfl
              rw [e]
              exact far_ok htb r _ _ _ _ _ _ _ _ _ h k
          · rename_i hd
            refine .on fp v up new nx1 hg ok.law ok.hh ok.hn (fun d' h => by rw [hd] at h; cases h) ?_
            have e : S.eff ⟨tm, st, nx, nt⟩ o.dst v up nx1 = ⟨tm, st1, nx1, nt⟩ := by rw [hd, ea]; rfl
            rw [e]
            exact far_ok htb r _ _ _ _ _ _ _ _ _ h k
        · cases h; exact k
      · cases h; exact k
    · cases h; exact k
/-- The first step and all behind it that need no proof. -/
def far1 (tb : List Ty) (ow : List Nat) (l : List Oper) (nt : Nat) : List Oper → List (Nat × V) → List (Nat × Option Blk) → Nat → List Tr → Option Far
  | [], _, _, _, _ => none
  | o :: r, tm, st, nx, tr => match guardV l o ⟨tm, st, nx, nt⟩ with
    | some false => some (far tb ow l nt (o :: r) tm st nx tr)
    | some true => (match stp tb (owd ow o) o.op ⟨tm, st, nx, nt⟩ with
      | some _ => some (far tb ow l nt (o :: r) tm st nx tr)
      | none => none)
    | none => none
theorem far1_some {r : List Oper} {tm : List (Nat × V)} {st : List (Nat × Option Blk)} {nx : Nat} {tr : List Tr} {q : Far} (h : far1 tb ow l nt r tm st nx tr = some q) : far tb ow l nt r tm st nx tr = q := by
  cases r with
  | nil => cases h
  | cons o r =>
    rw [far1] at h
    split at h
    · cases h; rfl
    · split at h <;> cases h; rfl
    · cases h
theorem x_far (ow : List Nat) {r r' : List Oper} {tm tm' : List (Nat × V)} {st st' : List (Nat × Option Blk)} {nx nx' : Nat} {tr tr' : List Tr} (htb : TbOk P tb) (h : far1 tb ow l nt r tm st nx tr = some (r', tm', st', nx', tr')) (k : ARun P N l K r' ⟨tm', st', nx', nt⟩ tr') : ARun P N l K r ⟨tm, st, nx, nt⟩ tr :=
  far_ok htb _ _ _ _ _ _ _ _ _ _ (far1_some h) k
end
end Go.Proofs.YtefcfickggnmjaaDoor.Abs
