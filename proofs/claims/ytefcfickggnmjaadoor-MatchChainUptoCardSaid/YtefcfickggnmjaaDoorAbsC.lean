/- Calls over named trees: what a function gives, its beginning and its end. Over any program. -/
import Derived.Test.YtefcfickggnmjaaDoorAbsB
import Derived.Shelf.Abstract
namespace Go.Proofs.YtefcfickggnmjaaDoor.Abs
open Go.RowKit Mem Facts

/-! ### Handing on what is one's own -/
mutual
def frz (b : Nat → Option Blk) : V → Option V
  | .own n i len => match b n with
    | some (.els _ _ xs) => some (.fro ((xs.drop i).take len))
    | _ => none
  | .loc n i off => match b n with
    | some (.els _ _ xs) => match nth xs i with
      | some el => some (.fp el.cells off)
      | none => none
    | _ => none
  | .agg vs => match frzL b vs with
    | some us => some (.agg us)
    | none => none
  | .tup vs => match frzL b vs with
    | some us => some (.tup us)
    | none => none
  | .fn f fs bs => match frzL b fs, frzL b bs with
    | some us, some vs => some (.fn f us vs)
    | _, _ => none
  | .ifc t v => match frz b v with
    | some u => some (.ifc t u)
    | none => none
  | .mp _ => none
  | v => some v
def frzL (b : Nat → Option Blk) : List V → Option (List V)
  | [] => some []
  | v :: r => match frz b v, frzL b r with
    | some u, some us => some (u :: us)
    | _, _ => none
end
mutual
def FrzOk (b : Nat → Option Blk) : V → Prop
  | .own n i len => match b n with
    | some (.els _ _ xs) => (∀ x ∈ xs, x.names = []) ∧ i + len ≤ xs.length
    | _ => False
  | .loc n i _ => match b n with
    | some (.els _ _ xs) => match nth xs i with
      | some el => ∀ u ∈ el.cells, u.names = []
      | none => False
    | _ => False
  | .agg vs => FrzOkL b vs
  | .tup vs => FrzOkL b vs
  | .fn _ fs bs => FrzOkL b fs ∧ FrzOkL b bs
  | .ifc _ v => FrzOk b v
  | .mp _ => False
  | _ => True
def FrzOkL (b : Nat → Option Blk) : List V → Prop
  | [] => True
  | v :: r => FrzOk b v ∧ FrzOkL b r
end
section
variable {X A : Nat → Prop} {φ : Nat → Pl} {w : World} {P : Program} {tb : List Ty} {T : Nat} {e ee : Ty} {N : Env} {M : Nat → Prop} {o : Oper} {s : S} {a : Act}
theorem frzL_some {b : Nat → Option Blk} : ∀ {vs us : List V}, frzL b vs = some us → vs.length = us.length ∧ ∀ (i : Nat) v, vs[i]? = some v → ∃ u, us[i]? = some u ∧ frz b v = some u
  | [], us, h => by rw [frzL] at h; cases h; exact ⟨rfl, fun i v h => by simp at h⟩
  | v :: r, us, h => by
    rw [frzL] at h
    cases h1 : frz b v with
    | none => rw [h1] at h; cases h
    | some u =>
      cases h2 : frzL b r with
      | none => rw [h1, h2] at h; cases h
      | some q =>
        rw [h1, h2] at h; cases h
        obtain ⟨h3, h4⟩ := frzL_some h2
        refine ⟨by simp [h3], fun i y hy => ?_⟩
        rcases i with _ | i
        · simp at hy; subst hy; exact ⟨u, rfl, h1⟩
        · exact h4 i y (by simpa using hy)
theorem frzOkL_at {b : Nat → Option Blk} : ∀ {vs : List V}, FrzOkL b vs → ∀ v ∈ vs, FrzOk b v
  | x :: r, h, v, hv => by
    rw [FrzOkL] at h
    rcases List.mem_cons.1 hv with rfl | hv
    · exact h.1
    · exact frzOkL_at h.2 v hv
theorem frz_one {b : Nat → Option Blk} {v u : V} (h : frz b v = some u) (h1 : v.one = true) : u.one = true := by
  cases v <;> first
    | (simp [V.one] at h1; done)
    | (simp only [frz] at h; cases h; rfl)
    | (rw [frz] at h; cases h; done)
    | (rw [frz] at h; split at h <;> first | (cases h; done) | (cases h; rfl) | (split at h <;> first | (cases h; done) | (cases h; rfl)))
theorem Rel.frz {b : Nat → Option Blk} (hr : Rel N M A φ s a w) (hb : ∀ n k, b n = some k → s.blk n = some k) {v : V} {x : Value} (h : Rep (fun b => M b ∨ N b) A φ w v x) : ∀ {u : V}, frz b v = some u → FrzOk b v → Fz N w u x := by
  have less : ∀ {v : V} {x : Value}, Fz (fun b => M b ∨ N b) w v x → Fz N w v x := fun h => h.mono (fun b _ hb => .inr hb) (.refl _ w)
  have nonm : ∀ {v : V}, v.names = [] → ∀ {u}, Abs.frz b v = some u → u = v := by
    suffices H : ∀ n : Nat, ∀ v : V, SizeOf.sizeOf v ≤ n → v.names = [] → ∀ {u}, Abs.frz b v = some u → u = v from fun {v} h {u} hu => H (SizeOf.sizeOf v) v (Nat.le_refl _) h hu
    intro n
    induction n with
    | zero => intro v hv; cases v <;> simp at hv
    | succ n ih =>
      have ihL : ∀ vs : List V, SizeOf.sizeOf vs ≤ n → V.namesL vs = [] → ∀ {us}, frzL b vs = some us → us = vs := fun vs => by
        induction vs with
        | nil => intro _ _ us h; rw [frzL] at h; cases h; rfl
        | cons v r ih2 =>
          intro hv hn us h
          rw [V.namesL, List.append_eq_nil_iff] at hn
          simp at hv
          rw [frzL] at h
          cases h1 : Abs.frz b v with
          | none => rw [h1] at h; cases h
          | some u =>
            cases h2 : frzL b r with
            | none => rw [h1, h2] at h; cases h
            | some q =>
              rw [h1, h2] at h; cases h
              rw [ih v (by omega) hn.1 h1, ih2 (by omega) hn.2 h2]
      intro v hv hn u h
      cases v with
      | agg vs =>
        rw [V.names] at hn; rw [Abs.frz] at h
        cases h2 : frzL b vs with
        | none => rw [h2] at h; cases h
        | some q => rw [h2] at h; cases h; simp at hv; rw [ihL vs (by omega) hn h2]
      | tup vs =>
        rw [V.names] at hn; rw [Abs.frz] at h
        cases h2 : frzL b vs with
        | none => rw [h2] at h; cases h
        | some q => rw [h2] at h; cases h; simp at hv; rw [ihL vs (by omega) hn h2]
      | fn f fs bs =>
        rw [V.names, List.append_eq_nil_iff] at hn; rw [Abs.frz] at h
        simp at hv
        cases h1 : frzL b fs with
        | none => rw [h1] at h; cases h
        | some p =>
          cases h2 : frzL b bs with
          | none => rw [h1, h2] at h; cases h
          | some q => rw [h1, h2] at h; cases h; rw [ihL fs (by omega) hn.1 h1, ihL bs (by omega) hn.2 h2]
      | ifc t v =>
        rw [V.names] at hn; rw [Abs.frz] at h
        simp at hv
        cases h1 : Abs.frz b v with
        | none => rw [h1] at h; cases h
        | some p => rw [h1] at h; cases h; rw [ih v (by omega) hn h1]
      | own => simp [V.names] at hn
      | loc => simp [V.names] at hn
      | mp => simp [V.names] at hn
      | _ => simp only [Abs.frz] at h; cases h; rfl
  induction h with
  | fz h =>
    intro u hu _
    have hn := by
      have : ∀ {v : V} {x : Value}, Fz (fun b => M b ∨ N b) w v x → v.names = [] := by
        intro v x h
        induction h with
        | agg h1 h2 h3 ih => rename_i vs cs; rw [V.names]; exact List.eq_nil_iff_forall_not_mem.2 fun m hm => by
                               obtain ⟨v, hv, hm⟩ := mem_namesL.1 hm
                               obtain ⟨i, hi⟩ := List.mem_iff_getElem?.1 hv
                               have hl : i < cs.size := by rw [← h1]; exact (List.getElem?_eq_some_iff.1 hi).1
                               rw [ih i v cs[i] hi (by simp [hl])] at hm; cases hm
        | tup h1 h3 ih => rename_i vs cs; rw [V.names]; exact List.eq_nil_iff_forall_not_mem.2 fun m hm => by
                               obtain ⟨v, hv, hm⟩ := mem_namesL.1 hm
                               obtain ⟨i, hi⟩ := List.mem_iff_getElem?.1 hv
                               have hl : i < cs.size := by rw [← h1]; exact (List.getElem?_eq_some_iff.1 hi).1
                               rw [ih i v cs[i] hi (by simp [hl])] at hm; cases hm
        | fn h1 h2 h3 h4 ih1 ih2 =>
          rename_i f fs bs cs ds
          rw [V.names, List.append_eq_nil_iff]
          refine ⟨List.eq_nil_iff_forall_not_mem.2 fun m hm => ?_, List.eq_nil_iff_forall_not_mem.2 fun m hm => ?_⟩
          · obtain ⟨v, hv, hm⟩ := mem_namesL.1 hm
            obtain ⟨i, hi⟩ := List.mem_iff_getElem?.1 hv
            have hl : i < cs.size := by rw [← h1]; exact (List.getElem?_eq_some_iff.1 hi).1
            rw [ih1 i v cs[i] hi (by simp [hl])] at hm; cases hm
          · obtain ⟨v, hv, hm⟩ := mem_namesL.1 hm
            obtain ⟨i, hi⟩ := List.mem_iff_getElem?.1 hv
            have hl : i < ds.size := by rw [← h2]; exact (List.getElem?_eq_some_iff.1 hi).1
            rw [ih2 i v ds[i] hi (by simp [hl])] at hm; cases hm
        | ifc _ ih => rw [V.names]; exact ih
        | _ => rfl
      exact this h
    rw [nonm hn hu]
    exact less h
  | @agg vs cs h1 h2 h3 ih =>
    intro u hu hok
    rw [Abs.frz] at hu
    cases h4 : frzL b vs with
    | none => rw [h4] at hu; cases hu
    | some us =>
      rw [h4] at hu; cases hu
      obtain ⟨h5, h6⟩ := frzL_some h4
      rw [FrzOk] at hok
      refine .agg (by rw [← h5]; exact h1) (fun y hy => ?_) (fun i y c hy hc => ?_)
      · obtain ⟨i, hi⟩ := List.mem_iff_getElem?.1 hy
        have hl : i < vs.length := by rw [h5]; exact (List.getElem?_eq_some_iff.1 hi).1
        obtain ⟨y', g1, g2⟩ := h6 i vs[i] (List.getElem?_eq_getElem hl)
        rw [hi] at g1; cases g1
        exact frz_one g2 (h2 _ (List.getElem_mem hl))
      · have hl : i < vs.length := by rw [h5]; exact (List.getElem?_eq_some_iff.1 hy).1
        obtain ⟨y', g1, g2⟩ := h6 i vs[i] (List.getElem?_eq_getElem hl)
        rw [hy] at g1; cases g1
        exact ih i vs[i] c (List.getElem?_eq_getElem hl) hc g2 (frzOkL_at hok _ (List.getElem_mem hl))
  | @tup vs cs h1 h3 ih =>
    intro u hu hok
    rw [Abs.frz] at hu
    cases h4 : frzL b vs with
    | none => rw [h4] at hu; cases hu
    | some us =>
      rw [h4] at hu; cases hu
      obtain ⟨h5, h6⟩ := frzL_some h4
      rw [FrzOk] at hok
      refine .tup (by rw [← h5]; exact h1) (fun i y c hy hc => ?_)
      have hl : i < vs.length := by rw [h5]; exact (List.getElem?_eq_some_iff.1 hy).1
      obtain ⟨y', g1, g2⟩ := h6 i vs[i] (List.getElem?_eq_getElem hl)
      rw [hy] at g1; cases g1
      exact ih i vs[i] c (List.getElem?_eq_getElem hl) hc g2 (frzOkL_at hok _ (List.getElem_mem hl))
  | @fn f fs bs cs ds h1 h2 h3 h4 ih1 ih2 =>
    intro u hu hok
    rw [Abs.frz] at hu
    cases g1 : frzL b fs with
    | none => rw [g1] at hu; cases hu
    | some us =>
      cases g2 : frzL b bs with
      | none => rw [g1, g2] at hu; cases hu
      | some vs =>
        rw [g1, g2] at hu; cases hu
        rw [FrzOk] at hok
        obtain ⟨k1, k2⟩ := frzL_some g1
        obtain ⟨k3, k4⟩ := frzL_some g2
        refine .fn (by rw [← k1]; exact h1) (by rw [← k3]; exact h2) (fun i y c hy hc => ?_) (fun i y c hy hc => ?_)
        · have hl : i < fs.length := by rw [k1]; exact (List.getElem?_eq_some_iff.1 hy).1
          obtain ⟨y', q1, q2⟩ := k2 i fs[i] (List.getElem?_eq_getElem hl)
          rw [hy] at q1; cases q1
          exact ih1 i fs[i] c (List.getElem?_eq_getElem hl) hc q2 (frzOkL_at hok.1 _ (List.getElem_mem hl))
        · have hl : i < bs.length := by rw [k3]; exact (List.getElem?_eq_some_iff.1 hy).1
          obtain ⟨y', q1, q2⟩ := k4 i bs[i] (List.getElem?_eq_getElem hl)
          rw [hy] at q1; cases q1
          exact ih2 i bs[i] c (List.getElem?_eq_getElem hl) hc q2 (frzOkL_at hok.2 _ (List.getElem_mem hl))
  | ifc _ ih =>
    intro u hu hok
    rw [Abs.frz] at hu
    split at hu <;> cases hu
    rename_i u' hu'
    rw [FrzOk] at hok
    exact .ifc (ih hu' hok)
  | @own0 n h1 h2 =>
    intro u hu hok
    rw [Abs.frz] at hu
    split at hu <;> cases hu
    simp only [List.drop_zero, List.take_zero]
    exact .fro0 (fun _ => rfl)
  | @own n i len b' h1 h2 h3 =>
    intro u hu hok
    rw [Abs.frz] at hu
    rw [FrzOk] at hok
    split at hu <;> cases hu
    rename_i T sz xs hbn
    rw [hbn] at hok
    obtain ⟨hok1, hok2⟩ := hok
    obtain ⟨_, g1, g2, g3, g4, g5⟩ := hr.st n _ (hb n _ hbn)
    have hlen : ((xs.drop i).take len).length = len := by simp; omega
    by_cases hl : len = 0
    · subst hl
      simp only [List.take_zero]
      exact .fro0 (fun h => by cases h)
    · rcases g5 with ⟨k1, k2, k3⟩ | ⟨b2, cur, k1, k2, k3, k4, k5, k6, k7⟩
      · subst k2; simp at hok2; omega
      · rw [h2] at k1; cases k1
        rw [g1]
        have hx : ∀ (j : Nat) x, ((xs.drop i).take len)[j]? = some x → xs[i + j]? = some x ∧ j < len := fun j x hx => by
          have hj : j < len := by have := (List.getElem?_eq_some_iff.1 hx).1; omega
          rw [List.getElem?_take_of_lt hj, List.getElem?_drop] at hx
          exact ⟨hx, hj⟩
        have hcell : ∀ (j q : Nat) x u, ((xs.drop i).take len)[j]? = some x → x.cells[q]? = some u → ∃ c, cur[(i + j) * sz + q]? = some c ∧ Rep (fun b => M b ∨ N b) A φ w u c := fun j q x u h1 h2 => k7 (i + j) q x u (hx j x h1).1 h2
        have := Fz.fro (X := N) (w := w) (xs := (xs.drop i).take len) (b := b') (o := i * sz) (sz := sz) (cap := (φ n).cap - i) (fun j q => (cur[(i + j) * sz + q]?).getD undef) (hr.dis b' k2) (hr.lim b' (.inl k2)) g2 (by omega) (by omega)
          (fun x hx' => g4 x (List.mem_of_mem_drop (List.mem_of_mem_take hx'))) (fun j q x u h1 h2 => by
            obtain ⟨c, h3, _⟩ := hcell j q x u h1 h2
            rw [h3]
            have e : i * sz + j * sz + q = (i + j) * sz + q := by rw [Nat.add_mul]
            rw [e]
            simp [World.cell?, k3, h3]) (fun j q x u h1 h2 => by
            obtain ⟨c, h3, h4⟩ := hcell j q x u h1 h2
            rw [h3]
            refine less (rep_fz h4 ?_)
            have hn := hok1 x (List.mem_of_getElem? (hx j x h1).1)
            cases x with
            | agg vs =>
              rw [V.names] at hn
              refine List.eq_nil_iff_forall_not_mem.2 fun m hm => ?_
              have h9 : m ∈ V.namesL vs := mem_namesL.2 ⟨u, List.mem_of_getElem? h2, hm⟩
              rw [hn] at h9; cases h9
            | _ => simp only [V.cells, List.getElem?_singleton] at h2; split at h2 <;> cases h2; exact hn)
        rw [hlen] at this
        exact this
  | @loc n i off b' h1 h2 =>
    intro u hu hok
    rw [Abs.frz] at hu
    rw [FrzOk] at hok
    split at hu <;> try (cases hu)
    rename_i T sz xs hbn
    rw [hbn] at hok
    simp only at hok
    split at hu <;> cases hu
    rename_i el hel
    rw [hel] at hok
    simp only at hok
    rw [nth_eq] at hel
    obtain ⟨b2, k1, k2, k3, k4, k5, k6⟩ := blk_tgt hr (hb n _ hbn) hel
    rw [h2] at k1; cases k1
    rw [k2]
    refine .fp (fun j => (w.cell? ⟨b', i * sz + j, none⟩).getD undef) (hr.dis b' k3) (hr.lim b' (.inl k3)) k5 (fun j u hu => ?_) (fun j u hu => ?_)
    · obtain ⟨c, h3, _⟩ := k6 j u hu
      rw [h3]; rfl
    · obtain ⟨c, h3, h4⟩ := k6 j u hu
      rw [h3]
      exact less (rep_fz h4 (hok u (List.mem_of_getElem? hu)))
  | mp => intro u hu _; rw [Abs.frz] at hu; cases hu

/-! ### A function's beginning and end -/
def argTm : List V → Nat → List (Nat × V)
  | [], _ => []
  | v :: r, n => (n, v) :: argTm r (n + 1)
/-- THE CONTRACT of a call that changes nothing and gives what nobody changes: it gives r. -/
def ACallsG (P : Program) (g : Glob) (f : FuncId) (args : List V) (r : V) : Prop :=
  ∀ (N : Nat → Prop) (w : World) (vs : Array Value), GlOk g N w → (∀ b, N b → b < w.heap.size) → args.length = vs.size → (∀ (i : Nat) v x, args[i]? = some v → vs[i]? = some x → Fz N w v x) →
    Calls P f vs w (fun e w' => ∃ x, e = .returned x ∧ Below w.heap.size w w' ∧ Fz N w' r x)
/-- The same, whatever is known of the package's variables. -/
def ACalls (P : Program) (f : FuncId) (args : List V) (r : V) : Prop := ∀ g, ACallsG P g f args r
def resV (tb : List Ty) (s : S) : ResultVar → Option V
  | .tmp t => lk s.tm t
  | .cell t T => match lk s.tm t, nth tb T with
    | some (.loc n i off), some e => match s.blk n with
      | some (.els _ _ xs) => match nth xs i with
        | some el => subV el.cells off e.agg e.size
        | none => none
      | _ => none
    | some (.fp cs off), some e => subV cs off e.agg e.size
    | _, _ => none
def resVs (tb : List Ty) (s : S) : List ResultVar → Option (List V)
  | [] => some []
  | r :: q => match resV tb s r, resVs tb s q with
    | some v, some vs => some (v :: vs)
    | _, _ => none
def pack : List V → V
  | [v] => v
  | vs => .tup vs
structure Ends (tb : List Ty) (rs : List ResultVar) (s : S) (r : V) : Prop where
  ex : ∃ vs us, resVs tb s rs = some vs ∧ frzL s.blk vs = some us ∧ FrzOkL s.blk vs ∧ pack us = r
def AEnd (tb : List Ty) (rs : List ResultVar) (r : V) : Exit → S → Prop
  | .normal, s | .ret, s => Ends tb rs s r
  | _, _ => False
theorem run_resV {rv : ResultVar} {v : V} (htb : TbOk P tb) (hr : Rel N M A φ s a w) (h : resV tb s rv = some v) : ∃ x, ((match rv with
    | .tmp t => pure (a.tmps.getD t undef)
    | .cell t T => do loadVar T (← asAddr (a.tmps.getD t undef)) : Sem Value)).run P w = .ok x w ∧ Rep (fun b => M b ∨ N b) A φ w v x := by
  cases rv with
  | tmp t => exact ⟨_, rfl, (hr.tm t v h).2⟩
  | cell t T =>
    simp only [resV] at h
    cases h1 : lk s.tm t with
    | none => rw [h1] at h; cases h
    | some p =>
      cases h2 : nth tb T with
      | none => rw [h1, h2] at h; cases p <;> cases h
      | some e =>
        rw [h1, h2] at h
        have hrep := (hr.tm t p h1).2
        cases p with
        | loc n i off =>
          simp only at h
          cases h3 : s.blk n with
          | none => rw [h3] at h; cases h
          | some k =>
            rw [h3] at h
            cases k with
            | els T' sz xs =>
              simp only at h
              cases h4 : nth xs i with
              | none => rw [h4] at h; cases h
              | some el =>
                rw [h4] at h
                rw [nth_eq] at h4
                obtain ⟨b, g1, g2⟩ := rep_loc hrep
                obtain ⟨b', k1, k2, k3, k4, k5, k6⟩ := blk_tgt hr h3 h4
                rw [g1] at k1; cases k1
                rw [k2] at g2
                obtain ⟨x, q1, q2⟩ := run_sub htb h2 k5 k6 h
                refine ⟨x, ?_, q2⟩
                simp only [Sem.run_bind, g2, asAddr, Sem.run_pure, Result.andThen_ok]
                unfold Instr.loadAt Instr.sureAddr at q1
                simpa only [Sem.run_bind, Sem.run_pure, Result.andThen_ok] using q1
            | map es => cases h
            | sit t p => cases h
        | fp cs off =>
          simp only at h
          obtain ⟨b, o', g1, g2, g3, _⟩ := rep_fp hrep
          obtain ⟨x, q1, q2⟩ := run_sub htb h2 g2 g3 h
          refine ⟨x, ?_, q2⟩
          simp only [Sem.run_bind, g1, asAddr, Sem.run_pure, Result.andThen_ok]
          unfold Instr.loadAt Instr.sureAddr at q1
          simpa only [Sem.run_bind, Sem.run_pure, Result.andThen_ok] using q1
        | _ => cases h
theorem run_resVs (htb : TbOk P tb) (hr : Rel N M A φ s a w) : ∀ {rs : List ResultVar} {vs : List V}, resVs tb s rs = some vs → ∃ xs : List Value, (rs.mapM fun
    | .tmp t => pure (a.tmps.getD t undef)
    | .cell t T => do loadVar T (← asAddr (a.tmps.getD t undef)) : Sem (List Value)).run P w = .ok xs w ∧ vs.length = xs.length ∧ ∀ (i : Nat) v x, vs[i]? = some v → xs[i]? = some x → Rep (fun b => M b ∨ N b) A φ w v x
  | [], vs, h => by rw [resVs] at h; cases h; exact ⟨[], by simp, rfl, fun i v x h => by simp at h⟩
  | rv :: q, vs, h => by
    rw [resVs] at h
    cases h1 : resV tb s rv with
    | none => rw [h1] at h; cases h
    | some v =>
      cases h2 : resVs tb s q with
      | none => rw [h1, h2] at h; cases h
      | some us =>
        rw [h1, h2] at h; cases h
        obtain ⟨x, g1, g2⟩ := run_resV htb hr h1
        obtain ⟨xs, g3, g4, g5⟩ := run_resVs htb hr h2
        refine ⟨x :: xs, ?_, by simp [g4], fun i y z hy hz => ?_⟩
        · rw [List.mapM_cons]
          simp only [Sem.run_bind, g1, Result.andThen_ok, g3, Sem.run_pure]
        · rcases i with _ | i
          · simp at hy hz; subst hy hz; exact g2
          · exact g5 i y z (by simpa using hy) (by simpa using hz)
theorem lk_arg : ∀ (l : List V) (n t : Nat), lk (argTm l n) t = if n ≤ t then l[t - n]? else none
  | [], n, t => by simp [argTm, lk]
  | v :: r, n, t => by
    rw [argTm, lk_put, lk_arg r (n + 1) t]
    by_cases h : n = t
    · subst h; simp
    · rw [if_neg h]
      by_cases h2 : n + 1 ≤ t
      · rw [if_pos h2, if_pos (by omega)]
        rw [show t - n = (t - (n + 1)) + 1 from by omega]
        simp
      · rw [if_neg h2, if_neg (by omega)]
theorem acallsG_of {g : Glob} {f : FuncId} {fn : Func} {c : Code} {args : List V} {r : V} (htb : TbOk P tb) (hf : P.funcs[f]? = some fn) (hb : fn.body = some c) (hn : Nat.ble args.length fn.ntmps = true)
    (h : ∀ bl : Nat → Prop, AWp P ⟨⟨bl, g⟩, 0, fun _ => ⟨none, 0, 0⟩⟩ c (AEnd tb fn.results.toList r) ⟨argTm args 0, [], 0, fn.ntmps⟩) : ACallsG P g f args r := fun N w vs hG hN hl hv => by
  have hnt : args.length ≤ fn.ntmps := Nat.le_of_ble_eq_true hn
  refine calls_of_wp hf hb (wp_mono (h N (fun _ => False) (fun _ => ⟨none, 0, 0⟩) _ w ⟨fun t v ht => ?_, ?_, fun n k hk => ?_, fun n n' k k' b hk => ?_, fun b hb => ?_, fun b hb => hb.elim, rfl, fun n hn => absurd hn (Nat.not_lt_zero n), hG.sub fun b hb => hb.resolve_left id⟩) ?_)
  · change lk (argTm args 0) t = some v at ht
    rw [lk_arg, if_pos (Nat.zero_le _), Nat.sub_zero] at ht
    have hlt : t < args.length := (List.getElem?_eq_some_iff.1 ht).1
    refine ⟨Nat.lt_of_lt_of_le hlt hnt, .fz ?_⟩
    have hvt : vs[t]? = some vs[t] := by simp [show t < vs.size by omega]
    have e : (vs ++ Array.replicate (fn.ntmps - vs.size) undef).getD t undef = vs[t]'(by omega) := by
      rw [Array.getD_eq_getD_getElem?, Array.getElem?_append_left (by omega), hvt]; rfl
    rw [e]
    exact (hv t v _ ht hvt).mono (fun b _ h => h.resolve_left id) (.refl _ w)
  · simp; omega
  · simp [S.blk, lk] at hk
  · simp [S.blk, lk] at hk
  · exact hN b (hb.resolve_left id)
  · rintro e a' w' ⟨M', φ', s', h1, h2, h3, h4⟩
    have fin : Ends tb fn.results.toList s' r → a'.defers = [] ∧ ∃ v, (results fn a'.tmps).run P w' = .ok v w' ∧ ∃ x, Ending.returned v = .returned x ∧ Below w.heap.size w w' ∧ Fz N w' r x := by
      rintro ⟨ws, us, g1, g2, g3, g4⟩
      obtain ⟨xs, k1, k2, k3⟩ := run_resVs htb h3 g1
      obtain ⟨l1, l2⟩ := frzL_some g2
      have hbel : Below w.heap.size w w' := ⟨h1.os, h1.tape, h1.output, h1.size, fun b hb => h1.block b hb id⟩
      have hfz : ∀ (i : Nat) u x, us[i]? = some u → xs[i]? = some x → Fz N w' u x := fun i u x hu hx => by
        have hil : i < ws.length := by rw [l1]; exact (List.getElem?_eq_some_iff.1 hu).1
        obtain ⟨u', m1, m2⟩ := l2 i ws[i] (List.getElem?_eq_getElem hil)
        rw [hu] at m1; cases m1
        exact h3.frz (fun _ _ h => h) (k3 i ws[i] x (List.getElem?_eq_getElem hil) hx) m2 (frzOkL_at g3 _ (List.getElem_mem hil))
      have hrun : (results fn a'.tmps).run P w' = .ok (if h : xs.toArray.size = 1 then xs.toArray[0] else .tuple xs.toArray) w' := by
        unfold results
        rw [Array.mapM_eq_mapM_toList]
        have e : ∀ (m : Sem (List Value)), m.run P w' = .ok xs w' → (List.toArray <$> m).run P w' = .ok xs.toArray w' := fun m hm => by
          have : (List.toArray <$> m) = (m >>= fun l => pure l.toArray) := rfl
          rw [this]
          simp only [Sem.run_bind, hm, Result.andThen_ok, Sem.run_pure]
        simp only [Sem.run_bind]
        erw [e _ k1]
        simp only [Result.andThen_ok, Sem.run_pure]
      refine ⟨h3.df, _, hrun, _, rfl, hbel, ?_⟩
      subst g4
      match us, xs, l1, k2, hfz with
      | [u], [x], _, _, hfz => exact hfz 0 u x rfl rfl
      | [], [], _, _, _ => exact .tup rfl (fun i v c h => by simp at h)
      | u1 :: u2 :: us, x1 :: x2 :: xs, l1, k2, hfz => exact .tup (by simp at l1 k2 ⊢; omega) (fun i v c hv hc => hfz i v c hv (by simpa using hc))
      | [], _ :: _, l1, k2, _ => simp at l1 k2; simp [l1] at k2
      | _ :: _, [], l1, k2, _ => simp at l1 k2; simp [k2] at l1
      | [_], _ :: _ :: _, l1, k2, _ => simp at l1 k2; omega
      | _ :: _ :: _, [_], l1, k2, _ => simp at l1 k2; omega
    cases e with
    | normal => exact fin h4
    | ret => exact fin h4
    | _ => exact h4.elim
theorem acalls_of {f : FuncId} {fn : Func} {c : Code} {args : List V} {r : V} (htb : TbOk P tb) (hf : P.funcs[f]? = some fn) (hb : fn.body = some c) (hn : Nat.ble args.length fn.ntmps = true)
    (h : ∀ b : Bg, AWp P ⟨b, 0, fun _ => ⟨none, 0, 0⟩⟩ c (AEnd tb fn.results.toList r) ⟨argTm args 0, [], 0, fn.ntmps⟩) : ACalls P f args r := fun g => acallsG_of htb hf hb hn fun bl => h ⟨bl, g⟩

/-! ### A call -/
def hasBody (P : Program) (f : FuncId) : Bool := match P.funcs[f]? with
  | some fn => fn.body.isSome && !(fn.name == "runtime.NumGoroutine")
  | none => false
theorem enters {f : FuncId} (h : hasBody P f = true) : ∀ (fs : Array Value) (w : World), (callFunc f fs).run P w = .ok (.enter f fs) w := by
  unfold hasBody at h
  cases hf : P.funcs[f]? with
  | none => rw [hf] at h; cases h
  | some fn =>
    rw [hf] at h
    simp only [Bool.and_eq_true, Bool.not_eq_true'] at h
    obtain ⟨c, hc⟩ := Option.isSome_iff_exists.1 h.1
    exact Go.Proofs.enters_of hf h.2 hc
def tsOf : List Operand → List V → List (Operand × V)
  | x :: r, v :: q => (x, v) :: tsOf r q
  | _, _ => []
theorem ts_at {s : S} : ∀ {xs : List Operand} {vs : List V} {ns : List (Nat × Blk)}, Holds ⟨tsOf xs vs, ns⟩ s → ∀ (i : Nat) x v, xs[i]? = some x → vs[i]? = some v → s.ev x = some v
  | [], _, _, _, _, _, _, h, _ => by simp at h
  | _ :: _, [], _, _, _, _, _, _, h => by simp at h
  | x :: r, v :: q, ns, h, i, y, u, hy, hu => by
    rcases i with _ | i
    · simp at hy hu; subst hy hu; exact h.1 (x, v) (by simp [tsOf])
    · exact ts_at (xs := r) (vs := q) (ns := ns) ⟨fun p hp => h.1 p (by simp [tsOf, hp]), h.2⟩ i y u (by simpa using hy) (by simpa using hu)
def plainV : V → Bool
  | .int _ _ | .bool _ | .str _ | .nils | .nilp | .nilf | .nili | .nilm | .und => true
  | _ => false
def plainR : V → Bool
  | .agg vs => vs.all plainV
  | .tup vs => vs.all fun v => match v with
    | .agg us => us.all plainV
    | v => plainV v
  | v => plainV v
theorem plain_fz {X X' : Nat → Prop} {w : World} {v : V} {x : Value} (h : plainV v = true) (hf : Fz X w v x) : Fz X' w v x := by
  cases hf <;> first
    | (simp [plainV] at h; done)
    | exact .bool | exact .nils | exact .nilp | exact .nilf | exact .nili | exact .nilm | exact .und
    | (rename_i hs; exact .str hs)
    | (rename_i hs; exact .int hs)
theorem plainR_fz {X X' : Nat → Prop} {w : World} {v : V} {x : Value} (h : plainR v = true) (hf : Fz X w v x) : Fz X' w v x := by
  have agg : ∀ {us : List V} {x : Value}, us.all plainV = true → Fz X w (.agg us) x → Fz X' w (.agg us) x := fun h hf => by
    cases hf with
    | agg h1 h2 h3 => exact .agg h1 h2 fun i y c hy hc => plain_fz (List.all_eq_true.1 h y (List.mem_of_getElem? hy)) (h3 i y c hy hc)
  unfold plainR at h
  split at h
  · exact agg h hf
  · cases hf with
    | tup h1 h2 =>
      refine .tup h1 fun i y c hy hc => ?_
      have := List.all_eq_true.1 h y (List.mem_of_getElem? hy)
      split at this
      · exact agg this (h2 i _ c hy hc)
      · exact plain_fz this (h2 i _ c hy hc)
  · exact plain_fz h hf
theorem run_call {f : Nat} {xs : Array Operand} {ts : Array TypeId} (ho : o.op = .call { callee := .value (.func f), args := xs, argTypes := ts }) (hc : ∀ (fs : Array Value) (w : World), (callFunc f fs).run P w = .ok (.enter f fs) w) : (execOp a.eval o).run P w = .ok (.enter f (xs.map a.eval)) w := by
  unfold execOp
  simp only [ho, resolve, Act.eval, Deferred.ofValue, Sem.run_bind, Sem.run_pure, Result.andThen_ok, invoke, Array.append_empty, Array.empty_append]
  exact hc _ _
theorem law_call {f : Nat} {xs : Array Operand} {ts : Array TypeId} {vs : List V} {r : V} (ho : o.op = .call { callee := .value (.func f), args := xs, argTypes := ts }) (hc : ∀ (fs : Array Value) (w : World), (callFunc f fs).run P w = .ok (.enter f fs) w) (hl : vs.length = xs.size)
    (h : ACallsG P N.g f vs r) (hn : V.namesL vs = []) : OpLaw P N o ⟨tsOf xs.toList vs, []⟩ r [] [] := fun s M A φ a w hh hr _ hd => by
  unfold Oper.wp
  rw [run_call ho hc]
  refine Calls.mono (h (fun b => M b ∨ N b) w (xs.map a.eval) hr.gl hr.lim (by simpa using hl) fun i v x hv hx => ?_) ?_
  · simp only [Array.getElem?_map, Option.map_eq_some_iff] at hx
    obtain ⟨p, hp, rfl⟩ := hx
    refine rep_fz (hr.ev (ts_at hh i p v (by simpa using hp) hv)) (List.eq_nil_iff_forall_not_mem.2 fun m hm => ?_)
    have := mem_namesL.2 ⟨v, List.mem_of_getElem? hv, hm⟩
    rw [hn] at this; cases this
  · rintro e w' ⟨x, rfl, hb, hfz⟩
    exact rel_grow_dst hr hb (.fz hfz) hd
/-- With what is one's own handed on, and a plain thing given. -/
theorem law_call_frz {f : Nat} {xs : Array Operand} {ts : Array TypeId} {vs us : List V} {r : V} (ns : List (Nat × Blk)) (ho : o.op = .call { callee := .value (.func f), args := xs, argTypes := ts }) (hc : ∀ (fs : Array Value) (w : World), (callFunc f fs).run P w = .ok (.enter f fs) w) (hl : vs.length = xs.size)
    (hf : frzL (lk ns) vs = some us) (hok : FrzOkL (lk ns) vs) (h : ACallsG P N.g f us r) (hp : plainR r = true) : OpLaw P N o ⟨tsOf xs.toList vs, ns⟩ r [] [] := fun s M A φ a w hh hr _ hd => by
  unfold Oper.wp
  rw [run_call ho hc]
  obtain ⟨l1, l2⟩ := frzL_some hf
  refine Calls.mono (h N w (xs.map a.eval) (hr.gl.sub fun b hb => .inr hb) (fun b hb => hr.lim b (.inr hb)) (by rw [← l1]; simpa using hl) fun i u x hu hx => ?_) ?_
  · simp only [Array.getElem?_map, Option.map_eq_some_iff] at hx
    obtain ⟨p, hp, rfl⟩ := hx
    have hil : i < vs.length := by rw [l1]; exact (List.getElem?_eq_some_iff.1 hu).1
    obtain ⟨u', m1, m2⟩ := l2 i vs[i] (List.getElem?_eq_getElem hil)
    rw [hu] at m1; cases m1
    exact hr.frz (fun n k hk => hh.2 (n, k) (lk_mem hk)) (hr.ev (ts_at hh i p vs[i] (by simpa using hp) (List.getElem?_eq_getElem hil))) m2 (frzOkL_at hok _ (List.getElem_mem hil))
  · rintro e w' ⟨x, rfl, hb, hfz⟩
    exact rel_grow_dst hr hb (.fz (plainR_fz hp hfz)) hd
/-- A call of a value that is a function. -/
theorem run_callv {f : Nat} {g : Operand} {xs : Array Operand} {ts : Array TypeId} {cs ds : Array Value} (ho : o.op = .call { callee := .value g, args := xs, argTypes := ts }) (hg : a.eval g = .func (.func f) cs ds) (hc : ∀ (fs : Array Value) (w : World), (callFunc f fs).run P w = .ok (.enter f fs) w) : (execOp a.eval o).run P w = .ok (.enter f (cs ++ xs.map a.eval ++ ds)) w := by
  unfold execOp
  simp only [ho, resolve, hg, Deferred.ofValue, Sem.run_bind, Sem.run_pure, Result.andThen_ok, invoke]
  exact hc _ _
theorem rep_fn {f : Fn} {fs bs : List V} {x : Value} (h : Rep X A φ w (.fn f fs bs) x) : ∃ cs ds, x = .func f cs ds ∧ fs.length = cs.size ∧ bs.length = ds.size ∧ (∀ (i : Nat) v c, fs[i]? = some v → cs[i]? = some c → Rep X A φ w v c) ∧ (∀ (i : Nat) v c, bs[i]? = some v → ds[i]? = some c → Rep X A φ w v c) := by
  cases h with
  | fz h => cases h with
    | fn h1 h2 h3 h4 => exact ⟨_, _, rfl, h1, h2, fun i v c hv hc => .fz (h3 i v c hv hc), fun i v c hv hc => .fz (h4 i v c hv hc)⟩
  | fn h1 h2 h3 h4 => exact ⟨_, _, rfl, h1, h2, h3, h4⟩
theorem at_three {α β : Type} {R : α → β → Prop} {a b c : List α} {d e g : Array β} (h1 : a.length = d.size) (h2 : b.length = e.size) (k1 : ∀ (i : Nat) v x, a[i]? = some v → d[i]? = some x → R v x) (k2 : ∀ (i : Nat) v x, b[i]? = some v → e[i]? = some x → R v x) (k3 : ∀ (i : Nat) v x, c[i]? = some v → g[i]? = some x → R v x) :
    ∀ (i : Nat) v x, (a ++ b ++ c)[i]? = some v → (d ++ e ++ g)[i]? = some x → R v x := fun i v x hv hx => by
  by_cases i1 : i < a.length
  · rw [List.append_assoc, List.getElem?_append_left i1] at hv
    rw [Array.append_assoc, Array.getElem?_append_left (by omega)] at hx
    exact k1 i v x hv hx
  · by_cases i2 : i < a.length + b.length
    · rw [List.getElem?_append_left (by simp; omega), List.getElem?_append_right (by omega)] at hv
      rw [Array.getElem?_append_left (by simp; omega), Array.getElem?_append_right (by omega)] at hx
      rw [h1] at hv
      exact k2 _ v x hv hx
    · rw [List.getElem?_append_right (by simp; omega)] at hv
      rw [Array.getElem?_append_right (by simp; omega)] at hx
      rw [List.length_append, h1, h2] at hv
      rw [Array.size_append] at hx
      exact k3 _ v x hv hx
theorem law_callv {f : Nat} {g : Operand} {xs : Array Operand} {ts : Array TypeId} {vs fs bs : List V} {r : V} (ho : o.op = .call { callee := .value g, args := xs, argTypes := ts }) (hc : ∀ (fs : Array Value) (w : World), (callFunc f fs).run P w = .ok (.enter f fs) w) (hl : vs.length = xs.size)
    (h : ACallsG P N.g f (fs ++ vs ++ bs) r) (hn : V.namesL (fs ++ vs ++ bs) = []) : OpLaw P N o ⟨(g, .fn (.func f) fs bs) :: tsOf xs.toList vs, []⟩ r [] [] := fun s M A φ a w hh hr _ hd => by
  obtain ⟨cs, ds, g1, g2, g3, g4, g5⟩ := rep_fn (hr.ev hh.a)
  have hh' : Holds ⟨tsOf xs.toList vs, []⟩ s := ⟨fun p hp => hh.1 p (List.mem_cons_of_mem _ hp), hh.2⟩
  unfold Oper.wp
  rw [run_callv ho g1 hc]
  refine Calls.mono (h (fun b => M b ∨ N b) w _ hr.gl hr.lim (by simp; omega) fun i v x hv hx => rep_fz (at_three (R := Rep (fun b => M b ∨ N b) A φ w) g2 (by simpa using hl) g4 (fun i v x hv hx => ?_) g5 i v x hv hx) (List.eq_nil_iff_forall_not_mem.2 fun m hm => ?_)) ?_
  · simp only [Array.getElem?_map, Option.map_eq_some_iff] at hx
    obtain ⟨p, hp, rfl⟩ := hx
    exact hr.ev (ts_at hh' i p v (by simpa using hp) hv)
  · have := mem_namesL.2 ⟨v, List.mem_of_getElem? hv, hm⟩
    rw [hn] at this; cases this
  · rintro e w' ⟨x, rfl, hb, hfz⟩
    exact rel_grow_dst hr hb (.fz hfz) hd
theorem law_callv_frz {f : Nat} {g : Operand} {xs : Array Operand} {ts : Array TypeId} {vs fs bs us : List V} {r : V} (ns : List (Nat × Blk)) (ho : o.op = .call { callee := .value g, args := xs, argTypes := ts }) (hc : ∀ (fs : Array Value) (w : World), (callFunc f fs).run P w = .ok (.enter f fs) w) (hl : vs.length = xs.size)
    (hf : frzL (lk ns) (fs ++ vs ++ bs) = some us) (hok : FrzOkL (lk ns) (fs ++ vs ++ bs)) (h : ACallsG P N.g f us r) (hp : plainR r = true) : OpLaw P N o ⟨(g, .fn (.func f) fs bs) :: tsOf xs.toList vs, ns⟩ r [] [] := fun s M A φ a w hh hr _ hd => by
  obtain ⟨cs, ds, g1, g2, g3, g4, g5⟩ := rep_fn (hr.ev hh.a)
  have hh' : Holds ⟨tsOf xs.toList vs, ns⟩ s := ⟨fun p hp => hh.1 p (List.mem_cons_of_mem _ hp), hh.2⟩
  obtain ⟨l1, l2⟩ := frzL_some hf
  unfold Oper.wp
  rw [run_callv ho g1 hc]
  refine Calls.mono (h N w _ (hr.gl.sub fun b hb => .inr hb) (fun b hb => hr.lim b (.inr hb)) (by rw [← l1]; simp; omega) fun i u x hu hx => ?_) ?_
  · have hil : i < (fs ++ vs ++ bs).length := by rw [l1]; exact (List.getElem?_eq_some_iff.1 hu).1
    obtain ⟨u', m1, m2⟩ := l2 i _ (List.getElem?_eq_getElem hil)
    rw [hu] at m1; cases m1
    refine hr.frz (fun n k hk => hh.2 (n, k) (lk_mem hk)) (at_three (R := Rep (fun b => M b ∨ N b) A φ w) g2 (by simpa using hl) g4 (fun i v x hv hx => ?_) g5 i _ x (List.getElem?_eq_getElem hil) hx) m2 (frzOkL_at hok _ (List.getElem_mem hil))
    simp only [Array.getElem?_map, Option.map_eq_some_iff] at hx
    obtain ⟨p, hp, rfl⟩ := hx
    exact hr.ev (ts_at hh' i p v (by simpa using hp) hv)
  · rintro e w' ⟨x, rfl, hb, hfz⟩
    exact rel_grow_dst hr hb (.fz (plainR_fz hp hfz)) hd
end
end Go.Proofs.YtefcfickggnmjaaDoor.Abs
