/- Regions over named trees: what an operation asks for and changes; any order that the region may draw comes to the same. Over any program. -/
import Derived.Test.YtefcfickggnmjaaDoorAbsW
import Derived.Test.YtefcfickggnmjaaDoorFacts
namespace Go.Proofs.YtefcfickggnmjaaDoor.Abs
open Go.RowKit Mem Facts

/-- What an operation asks for. -/
structure Fp where
  ts : List (Operand × V)
  ns : List (Nat × Blk)
def Holds (fp : Fp) (s : S) : Prop := (∀ p ∈ fp.ts, s.ev p.1 = some p.2) ∧ ∀ p ∈ fp.ns, s.blk p.1 = some p.2
def S.eff (s : S) (dst : Option Nat) (v : V) (up : List (Nat × Option Blk)) (nx : Nat) : S :=
  { tm := match dst with
      | some d => (d, v) :: s.tm
      | none => s.tm
    st := up ++ s.st, nx := nx, nt := s.nt }
/-- THE LAW OF AN OPERATION: wherever what it asks for stands, it gives v, changes the rows of up, and makes those of new. -/
def OpLaw (P : Program) (N : Env) (o : Oper) (fp : Fp) (v : V) (up : List (Nat × Option Blk)) (new : List Nat) : Prop :=
  ∀ s M A φ a w, Holds fp s → Rel N M A φ s a w → (∀ n ∈ new, ¬ A n) → (∀ d, o.dst = some d → d < s.nt) →
    o.wp P a w (fun a' w' => ∃ M' φ', Stays M w w' ∧ (∀ b, b < w.heap.size → M' b → M b) ∧ Rel N M' (fun n => A n ∨ n ∈ new) φ' (s.eff o.dst v up s.nx) a' w') (fun _ _ _ => False)

theorem wp_sure {P : Program} {o : Oper} {a : Act} {w : World} {K : Act → World → Prop} {Q : Exit → Act → World → Prop} (h : o.wp P a w K (fun _ _ _ => False)) : o.wp P a w K Q := by
  unfold Oper.wp at *
  generalize (execOp a.eval o).run P w = r at *
  cases r with
  | ok n w' =>
    cases n <;> simp only [Oper.upon] at h ⊢ <;>
      first
        | exact h
        | exact Calls.mono h (fun e w'' he => by
            cases e with
            | returned v => exact he
            | panicked c => exact he.elim
            | outgrown => obtain ⟨_, _, he⟩ := he; exact he.elim)
  | halt x w' => cases x <;> simp only [Oper.upon] at h ⊢

def nth {α : Type} : List α → Nat → Option α
  | [], _ => none
  | x :: _, 0 => some x
  | _ :: r, n + 1 => nth r n
theorem nth_eq {α : Type} : ∀ (l : List α) (n : Nat), nth l n = l[n]?
  | [], _ => by simp [nth]
  | _ :: _, 0 => rfl
  | x :: r, n + 1 => by rw [nth, nth_eq r n]; simp
def guardT (l : List Oper) (o : Oper) : Option Nat := match o.guard with
  | none => none
  | some (j, _) => match nth l j with
    | some p => p.dst
    | none => none
def guardV (l : List Oper) (o : Oper) (s : S) : Option Bool := match o.guard with
  | none => some true
  | some (j, want) => match nth l j with
    | none => some false
    | some p => match p.dst with
      | none => some false
      | some d => match lk s.tm d with
        | some (.bool b) => some (b == want)
        | some .und => some false
        | _ => none
theorem guard_wanted {N : Env} {M A : Nat → Prop} {φ : Nat → Pl} {l : List Oper} {o : Oper} {s : S} {a : Act} {w : World} {b : Bool} (h : guardV l o s = some b) (hr : Rel N M A φ s a w) : Region.wanted o (yielded l.toArray a.tmps) = b := by
  unfold guardV at h
  unfold Region.wanted
  cases hg : o.guard with
  | none => rw [hg] at h; cases h; rfl
  | some p =>
    obtain ⟨j, want⟩ := p
    rw [hg] at h
    simp only at h ⊢
    rw [nth_eq] at h
    unfold yielded
    simp only [List.getElem?_toArray]
    cases hl : l[j]? with
    | none => rw [hl] at h; cases h; simp
    | some p =>
      rw [hl] at h
      simp only [Option.bind_some] at h ⊢
      cases hd : p.dst with
      | none => rw [hd] at h; cases h; simp
      | some d =>
        rw [hd] at h
        simp only [Option.bind_some] at h ⊢
        cases hv : lk s.tm d with
        | none => rw [hv] at h; cases h
        | some v =>
          rw [hv] at h
          obtain ⟨hlt, hrep⟩ := hr.tm d v hv
          have hsz : d < a.tmps.size := by rw [hr.nt]; exact hlt
          have e : a.tmps[d]? = some (a.tmps.getD d undef) := by simp [hsz]
          rw [e]
          cases v with
          | bool b' => cases h; rw [rep_bool hrep]; cases b' <;> cases want <;> rfl
          | und => cases h; rw [rep_und hrep]; rfl
          | _ => cases h

/-- The trace of a region's walk in the text's order. -/
structure Tr where
  tt : List Nat
  wt : Option Nat
  nn : List Nat
  wn : List Nat
def tmpOf : Operand → Option Nat
  | .tmp t => some t
  | _ => none
def trOf (l : List Oper) (o : Oper) (fp : Fp) (up : List (Nat × Option Blk)) : Tr := ⟨(guardT l o).toList ++ fp.ts.filterMap (tmpOf ·.1), o.dst, fp.ns.map (·.1), up.map (·.1)⟩
/-- Does k write what i touches? -/
def clash (k i : Tr) : Bool := (match k.wt with
    | some d => i.tt.contains d || i.wt == some d
    | none => false) || k.wn.any fun n => i.nn.contains n || i.wn.contains n
def checkAll (D : List (List Nat)) (tr : List Tr) : Bool := (List.range tr.length).all fun i => (List.range tr.length).all fun k => k == i || !(match tr[k]?, tr[i]? with
    | some x, some y => clash x y
    | _, _ => false) || (if k < i then (D.getD i []).contains k else (D.getD k []).contains i)
def check (l : List Oper) (tr : List Tr) : Bool := okDeps l.toArray (deps l.toArray) && checkAll (deps l.toArray) tr

inductive ARun (P : Program) (N : Env) (l : List Oper) (K : S → List Tr → Prop) : List Oper → S → List Tr → Prop
  | nil {s tr} : K s tr → ARun P N l K [] s tr
  | on {o r s tr} (fp : Fp) (v : V) (up : List (Nat × Option Blk)) (new : List Nat) (nx : Nat) : guardV l o s = some true → OpLaw P N o fp v up new → Holds fp s → (s.nx ≤ nx ∧ ∀ n ∈ new, s.nx ≤ n ∧ n < nx) → (∀ d, o.dst = some d → d < s.nt) →
      ARun P N l K r (s.eff o.dst v up nx) (tr ++ [trOf l o fp up]) → ARun P N l K (o :: r) s tr
  | off {o r s tr} : guardV l o s = some false → (∀ d, o.dst = some d → d < s.nt) → ARun P N l K r (s.eff o.dst .und [] s.nx) (tr ++ [trOf l o ⟨[], []⟩ []]) → ARun P N l K (o :: r) s tr

section
variable {P : Program} {N : Env} {M M' A A' : Nat → Prop} {φ : Nat → Pl} {s s' : S} {a : Act} {w w' : World} {l : List Oper} {Q : Exit → S → Prop}
theorem Rel.wider (h : Rel N M A φ s a w) (hA : ∀ n, A n → A' n) : Rel N M A' φ s a w where
  tm t v ht := ⟨(h.tm t v ht).1, (h.tm t v ht).2.mono (fun _ _ h => h) (.refl _ w) hA (fun _ _ => rfl)⟩
  nt := h.nt
  st n k hk := ⟨hA n (h.st n k hk).1, (h.st n k hk).2.mono (fun _ _ h => h) (.refl _ w) hA (fun _ _ => rfl) (fun _ h => h) fun _ _ => rfl⟩
  inj := h.inj
  lim := h.lim
  dis := h.dis
  df := h.df
  pin n hn := ⟨hA n (h.pin n hn).1, (h.pin n hn).2⟩
  gl := h.gl
theorem Rel.as (h : Rel N M A φ s a w) (ht : ∀ t, lk s'.tm t = lk s.tm t) (hb : ∀ n, s'.blk n = s.blk n) (hn : s'.nt = s.nt) : Rel N M A φ s' a w where
  tm t v e := by rw [hn]; exact h.tm t v (by rw [← ht]; exact e)
  nt := by rw [hn]; exact h.nt
  st n k e := h.st n k (by rw [← hb]; exact e)
  inj n n' k k' b h1 h2 := h.inj n n' k k' b (by rw [← hb]; exact h1) (by rw [← hb]; exact h2)
  lim := h.lim
  dis := h.dis
  df := h.df
  pin := h.pin
  gl := h.gl
theorem put_getD (a : Act) (d t : Nat) (v : Value) (hd : d < a.tmps.size) : (a.put (some d) v).tmps.getD t undef = if d = t then v else a.tmps.getD t undef := by
  simp only [Act.put, Array.getD_eq_getD_getElem?, Array.getElem?_setIfInBounds]
  by_cases e : d = t
  · subst e; simp [hd]
  · simp [e]
theorem rel_dst {dst : Option Nat} {v : V} {x : Value} {nx : Nat} (h : Rel N M A φ s a w) (hv : Rep (fun b => M b ∨ N b) A φ w v x) (hd : ∀ d, dst = some d → d < s.nt) : Rel N M A φ (s.eff dst v [] nx) (a.put dst x) w := by
  cases dst with
  | none => exact h.as (fun _ => rfl) (fun _ => rfl) rfl
  | some d =>
    have hlt : d < a.tmps.size := by rw [h.nt]; exact hd d rfl
    refine ⟨fun t u ht => ?_, by simp [Act.put, h.nt, S.eff], h.st, h.inj, h.lim, h.dis, h.df, h.pin, h.gl⟩
    rw [put_getD a d t x hlt]
    change lk ((d, v) :: s.tm) t = some u at ht
    rw [lk_put] at ht
    split at ht
    · rename_i e; subst e; cases ht; rw [if_pos rfl]; exact ⟨hd d rfl, hv⟩
    · rename_i e; rw [if_neg e]; exact h.tm t u ht

theorem oper_post {o : Oper} {a : Act} {w1 : World} {K : Act → World → Prop} {w w' : World} {M M' : Nat → Prop} (hs : Stays M w w') (hM : ∀ b, b < w.heap.size → M' b → M b) (h : o.wp P a w1 K (Post N Q M' w')) : o.wp P a w1 K (Post N Q M w) := by
  unfold Oper.wp at *
  revert h
  generalize (execOp a.eval o).run P w1 = q
  intro h
  cases q with
  | ok n w' =>
    cases n <;> simp only [Oper.upon] at h ⊢ <;>
      first
        | exact h
        | exact Calls.mono h (fun e w'' he => by
            cases e with
            | returned v => exact he
            | panicked c => exact Post.after hs hM he
            | outgrown => obtain ⟨a3, w3, he⟩ := he; exact ⟨a3, w3, Post.after hs hM he⟩)
  | halt x w' => cases x <;> simp only [Oper.upon] at h ⊢ <;> first | exact h | exact Post.after hs hM h
theorem list_post {w w' : World} {M M' : Nat → Prop} (hs : Stays M w w') (hM : ∀ b, b < w.heap.size → M' b → M b) : ∀ {r : List Oper} {a : Act} {w2 : World}, wpList P l.toArray (Post N Q M' w') r a w2 → wpList P l.toArray (Post N Q M w) r a w2
  | [], _, _, h => Post.after hs hM h
  | p :: r, a, w2, h => by
    unfold wpList at h ⊢
    split
    · rename_i hw
      rw [if_pos hw] at h
      rcases h with h | ⟨h, a3, w3, h3⟩
      · exact .inl (oper_post hs hM (Oper.wp_mono (fun _ _ h => list_post hs hM h) h))
      · exact .inr ⟨h, a3, w3, Post.after hs hM h3⟩
    · rename_i hw
      rw [if_neg hw] at h
      exact list_post hs hM h
theorem arun_list {r : List Oper} {tr : List Tr} (h : ARun P N l (fun s _ => Q .normal s) r s tr) : ∀ M φ a w, Rel N M (· < s.nx) φ s a w → wpList P l.toArray (Post N Q M w) r a w := by
  induction h with
  | nil h => exact fun M φ a w hr => ⟨M, φ, _, .refl _ w, fun _ _ h => h, hr, h⟩
  | @on o r s tr fp v up new nx hg hl hh hn hd _ ih =>
    intro M φ a w hr
    refine wpList_step fun K hK => ?_
    rw [if_pos (guard_wanted hg hr)]
    refine wp_sure (Oper.wp_mono (fun a' w' ⟨M', φ', h1, h2, h3⟩ => hK a' w' ?_) (hl s M _ φ a w hh hr (fun n h9 h8 => Nat.lt_irrefl _ (Nat.lt_of_lt_of_le h8 (hn.2 n h9).1)) hd))
    have h4 : Rel N M' (· < nx) φ' (s.eff o.dst v up nx) a' w' := (h3.wider (A' := (· < nx)) fun n h => h.elim (fun h => Nat.lt_of_lt_of_le h hn.1) fun h => (hn.2 n h).2).as (fun _ => rfl) (fun _ => rfl) rfl
    have := ih M' φ' a' w' h4
    exact list_post h1 h2 this
  | @off o r s tr hg hd _ ih =>
    intro M φ a w hr
    refine wpList_step fun K hK => ?_
    rw [if_neg (by rw [guard_wanted hg hr]; decide)]
    exact hK _ _ (ih M φ _ w (rel_dst hr (.fz .und) hd))
/-- A region that draws nothing. -/
theorem awp_region {id : Nat} (h : ARun P N l (fun s _ => Q .normal s) l s []) : AWp P N (.region id l.toArray false) Q s := fun M φ a w hr => wp_region_lit (arun_list h M φ a w hr)

/-! ### Any order -/
structure It where
  on : Bool
  fp : Fp
  v : V
  up : List (Nat × Option Blk)
  new : List Nat
  nx : Nat
instance : Inhabited It := ⟨⟨false, ⟨[], []⟩, .und, [], [], 0⟩⟩
def It.eff (o : Oper) (it : It) (s : S) : S := s.eff o.dst it.v it.up it.nx
/-- Those of the operations that L names, in the text's order. -/
def foldL (L : Nat → Bool) : List Oper → List It → Nat → S → S
  | o :: r, it :: q, k, s => foldL L r q (k + 1) (bif L k then it.eff o s else s)
  | _, _, _, s => s
theorem foldL_cons (L : Nat → Bool) (o : Oper) (r : List Oper) (it : It) (q : List It) (k : Nat) (s : S) : foldL L (o :: r) (it :: q) k s = foldL L r q (k + 1) (bif L k then it.eff o s else s) := by rw [foldL]
def trsOf (l : List Oper) : List Oper → List It → List Tr
  | o :: r, it :: q => trOf l o it.fp it.up :: trsOf l r q
  | _, _ => []
theorem eff_tm (o : Oper) (it : It) (s : S) (t : Nat) : lk (it.eff o s).tm t = if o.dst = some t then some it.v else lk s.tm t := by
  unfold It.eff S.eff
  cases h : o.dst with
  | none => simp
  | some d => simp only [lk_put, Option.some.injEq]
theorem lk_app {β : Type} (a b : List (Nat × β)) (n : Nat) : lk (a ++ b) n = (lk a n).or (lk b n) := by
  induction a with
  | nil => rfl
  | cons p r ih =>
    obtain ⟨k, v⟩ := p
    rw [List.cons_append, lk_put, lk_put]
    split
    · rfl
    · exact ih
theorem lk_none {β : Type} {l : List (Nat × β)} {n : Nat} (h : (l.map (·.1)).contains n = false) : lk l n = none := by
  cases hl : lk l n with
  | none => rfl
  | some v =>
    have : n ∈ l.map (·.1) := List.mem_map.2 ⟨_, lk_mem hl, rfl⟩
    rw [List.contains_iff_mem.2 this] at h
    cases h
theorem lk_some {β : Type} {l : List (Nat × β)} {n : Nat} (h : (l.map (·.1)).contains n = true) : ∃ v, lk l n = some v := by
  induction l with
  | nil => cases h
  | cons p r ih =>
    obtain ⟨k, v⟩ := p
    rw [lk_put]
    split
    · exact ⟨_, rfl⟩
    · rename_i e
      refine ih ?_
      simp only [List.map_cons, List.contains_cons, Bool.or_eq_true, beq_iff_eq] at h
      exact h.resolve_left (Ne.symm e)
def upd (o : Option (Option Blk)) (b : Option Blk) : Option Blk := match o with
  | some x => x
  | none => b
theorem eff_blk (o : Oper) (it : It) (s : S) (n : Nat) : (it.eff o s).blk n = upd (lk it.up n) (s.blk n) := by
  unfold It.eff S.eff S.blk upd
  simp only [lk_app]
  cases lk it.up n <;> simp
theorem fold_tm {L L' : Nat → Bool} {t : Nat} : ∀ (ops : List Oper) (its : List It) (k : Nat) (s s' : S), (∀ (i : Nat) o, ops[i]? = some o → o.dst = some t → L (k + i) = L' (k + i)) → lk s.tm t = lk s'.tm t → lk (foldL L ops its k s).tm t = lk (foldL L' ops its k s').tm t
  | [], _, _, _, _, _, h => by simpa [foldL] using h
  | _ :: _, [], _, _, _, _, h => by simpa [foldL] using h
  | o :: r, it :: q, k, s, s', hL, h => by
    simp only [foldL_cons]
    refine fold_tm r q (k + 1) _ _ (fun i p hp hd => ?_) ?_
    · have := hL (i + 1) p (by simpa using hp) hd
      rw [show k + 1 + i = k + (i + 1) from by omega]; exact this
    · by_cases hd : o.dst = some t
      · have h0 := hL 0 o rfl hd
        rw [Nat.add_zero] at h0
        rw [← h0]
        cases L k with
        | true => rw [cond_true, cond_true, eff_tm, eff_tm, if_pos hd, if_pos hd]
        | false => exact h
      · cases L k <;> cases L' k <;> simp only [cond_true, cond_false, eff_tm, if_neg hd] <;> exact h
theorem fold_blk {L L' : Nat → Bool} {n : Nat} : ∀ (ops : List Oper) (its : List It) (k : Nat) (s s' : S), (∀ (i : Nat) it, its[i]? = some it → (it.up.map (·.1)).contains n = true → L (k + i) = L' (k + i)) → s.blk n = s'.blk n → (foldL L ops its k s).blk n = (foldL L' ops its k s').blk n
  | [], _, _, _, _, _, h => by simpa [foldL] using h
  | _ :: _, [], _, _, _, _, h => by simpa [foldL] using h
  | o :: r, it :: q, k, s, s', hL, h => by
    simp only [foldL_cons]
    refine fold_blk r q (k + 1) _ _ (fun i p hp hd => ?_) ?_
    · have := hL (i + 1) p (by simpa using hp) hd
      rw [show k + 1 + i = k + (i + 1) from by omega]; exact this
    · cases hd : (it.up.map (·.1)).contains n with
      | true =>
        have h0 := hL 0 it rfl hd
        rw [Nat.add_zero] at h0
        rw [← h0]
        cases L k with
        | true => rw [cond_true, cond_true, eff_blk, eff_blk, h]
        | false => exact h
      | false =>
        have e := lk_none hd
        cases L k <;> cases L' k <;> simp only [cond_true, cond_false, eff_blk, e, upd] <;> exact h
theorem fold_nt {L : Nat → Bool} : ∀ (ops : List Oper) (its : List It) (k : Nat) (s : S), (foldL L ops its k s).nt = s.nt
  | [], _, _, _ => by simp [foldL]
  | _ :: _, [], _, _ => by simp [foldL]
  | o :: r, it :: q, k, s => by
    simp only [foldL_cons]
    rw [fold_nt r q]
    cases L k <;> rfl
theorem last_tm {L : Nat → Bool} {t : Nat} : ∀ (ops : List Oper) (its : List It) (k i : Nat) (s : S) (o : Oper) (it : It), ops[i]? = some o → its[i]? = some it → o.dst = some t → L (k + i) = true → (∀ (j : Nat) p, i < j → ops[j]? = some p → p.dst = some t → L (k + j) = false) → lk (foldL L ops its k s).tm t = some it.v
  | [], _, _, _, _, _, _, h, _, _, _, _ => by simp at h
  | _ :: _, [], _, _, _, _, _, _, h, _, _, _ => by simp at h
  | p :: r, jt :: q, k, 0, s, o, it, ho, hi, hd, hl, hj => by
    simp at ho hi
    subst ho hi
    simp only [foldL_cons]
    rw [Nat.add_zero] at hl
    rw [hl, cond_true]
    have := fold_tm (L := L) (L' := fun _ => false) (t := t) r q (k + 1) (jt.eff p s) (jt.eff p s) (fun i o ho hd => by
      rw [show k + 1 + i = k + (i + 1) from by omega]; exact hj (i + 1) o (by omega) (by simpa using ho) hd) rfl
    rw [this]
    clear this
    have hf : ∀ (ops : List Oper) (its : List It) (k : Nat) (s : S), foldL (fun _ => false) ops its k s = s := fun ops => by
      induction ops with
      | nil => intro its k s; simp [foldL]
      | cons o r ih => intro its k s; cases its with
        | nil => simp [foldL]
        | cons => simp only [foldL_cons]; rw [cond_false]; exact ih _ _ _
    rw [hf, eff_tm, if_pos hd]
  | p :: r, jt :: q, k, i + 1, s, o, it, ho, hi, hd, hl, hj => by
    simp only [foldL_cons]
    refine last_tm r q (k + 1) i _ o it (by simpa using ho) (by simpa using hi) hd (by rw [show k + 1 + i = k + (i + 1) from by omega]; exact hl) (fun j p hlt hp hpd => ?_)
    rw [show k + 1 + j = k + (j + 1) from by omega]
    exact hj (j + 1) p (by omega) (by simpa using hp) hpd
theorem fold_off : ∀ (ops : List Oper) (its : List It) (k : Nat) (s : S), foldL (fun _ => false) ops its k s = s
  | [], _, _, _ => by simp [foldL]
  | _ :: _, [], _, _ => by simp [foldL]
  | o :: r, it :: q, k, s => by simp only [foldL_cons]; rw [cond_false]; exact fold_off r q _ _
/-- Where i is the last one that writes n. -/
theorem last_blk {L : Nat → Bool} {n : Nat} : ∀ (ops : List Oper) (its : List It) (k i : Nat) (s : S) (o : Oper) (it : It), ops[i]? = some o → its[i]? = some it → L (k + i) = true → (∀ (j : Nat) p, i < j → its[j]? = some p → (p.up.map (·.1)).contains n = true → L (k + j) = false) →
    (foldL L ops its k s).blk n = (it.eff o (foldL (fun j => L j && Nat.blt j (k + i)) ops its k s)).blk n
  | [], _, _, _, _, _, _, h, _, _, _ => by simp at h
  | _ :: _, [], _, _, _, _, _, _, h, _, _ => by simp at h
  | p :: r, jt :: q, k, 0, s, o, it, ho, hi, hl, hj => by
    simp at ho hi
    subst ho hi
    simp only [foldL_cons]
    rw [Nat.add_zero] at hl ⊢
    rw [hl, cond_true]
    have := fold_blk (L := L) (L' := fun _ => false) (n := n) r q (k + 1) (jt.eff p s) (jt.eff p s) (fun i o ho hd => by
      rw [show k + 1 + i = k + (i + 1) from by omega]; exact hj (i + 1) o (by omega) (by simpa using ho) hd) rfl
    rw [this, fold_off]
    have e : (true && Nat.blt k (k + 0)) = false := by
      cases h : (true && Nat.blt k (k + 0)) with
      | false => rfl
      | true => simp at h
    rw [e, cond_false]
    rw [Nat.add_zero]
    have := fold_blk (L := fun j => L j && Nat.blt j k) (L' := fun _ => false) (n := n) r q (k + 1) s s (fun i o _ _ => by
      cases h : (L (k + 1 + i) && Nat.blt (k + 1 + i) k) with
      | false => rfl
      | true => simp at h; omega) rfl
    rw [eff_blk, eff_blk, this, fold_off]
  | p :: r, jt :: q, k, i + 1, s, o, it, ho, hi, hl, hj => by
    simp only [foldL_cons]
    have := last_blk (L := L) (n := n) r q (k + 1) i (bif L k then jt.eff p s else s) o it (by simpa using ho) (by simpa using hi) (by rw [show k + 1 + i = k + (i + 1) from by omega]; exact hl) (fun j p hlt hp hpd => by
      rw [show k + 1 + j = k + (j + 1) from by omega]
      exact hj (j + 1) p (by omega) (by simpa using hp) hpd)
    rw [this, show k + 1 + i = k + (i + 1) from by omega]
    have e : (L k && Nat.blt k (k + (i + 1))) = L k := by simp
    rw [e]
theorem wpAny_post {w w' : World} {M M' : Nat → Prop} (hs : Stays M w w') (hM : ∀ b, b < w.heap.size → M' b → M b) : ∀ (n : Nat) (listed : Array Bool) (a : Act) (w2 : World), wpAny P .any l.toArray (Post N Q M' w') n listed a w2 → wpAny P .any l.toArray (Post N Q M w) n listed a w2
  | 0, _, _, _, h => ⟨h.1, Post.after hs hM h.2⟩
  | n + 1, listed, a, w2, h => by
    refine ⟨fun h0 => Post.after hs hM (h.1 h0), fun i hi => ?_⟩
    have := h.2 i hi
    unfold wpOp at this ⊢
    split at this
    · exact wpAny_post hs hM _ _ _ _ this
    · rename_i o ho
      split at this
      · rename_i hw
        rw [if_pos hw]
        rcases this with h2 | ⟨h2, a3, w3, h3⟩
        · exact .inl (oper_post hs hM (Oper.wp_mono (fun _ _ h => wpAny_post hs hM _ _ _ _ h) h2))
        · exact .inr ⟨h2, a3, w3, Post.after hs hM h3⟩
      · rename_i hw
        rw [if_neg hw]
        exact wpAny_post hs hM _ _ _ _ this
theorem fold_shift {L : Nat → Bool} : ∀ (ops : List Oper) (its : List It) (k : Nat) (s : S), foldL L ops its (k + 1) s = foldL (fun j => L (j + 1)) ops its k s
  | [], _, _, _ => by simp [foldL]
  | _ :: _, [], _, _ => by simp [foldL]
  | o :: r, it :: q, k, s => by simp only [foldL_cons]; exact fold_shift r q _ _
theorem fold_step : ∀ (ops : List Oper) (its : List It) (k i : Nat) (s : S) (o : Oper) (it : It), ops[i]? = some o → its[i]? = some it → foldL (fun j => Nat.blt j (k + (i + 1))) ops its k s = it.eff o (foldL (fun j => Nat.blt j (k + i)) ops its k s)
  | [], _, _, _, _, _, _, h, _ => by simp at h
  | _ :: _, [], _, _, _, _, _, _, h => by simp at h
  | p :: r, jt :: q, k, 0, s, o, it, ho, hi => by
    simp at ho hi
    subst ho hi
    simp only [foldL_cons]
    have e1 : Nat.blt k (k + (0 + 1)) = true := by simp
    have e2 : Nat.blt k (k + 0) = false := by
      cases h : Nat.blt k (k + 0) with
      | false => rfl
      | true => simp at h
    have off : ∀ (ops : List Oper) (its : List It) (m : Nat) (s : S) (b : Nat), b ≤ m → foldL (fun j => Nat.blt j b) ops its m s = s := fun ops => by
      induction ops with
      | nil => intros; simp [foldL]
      | cons o r ih =>
        intro its m s b hb
        cases its with
        | nil => simp [foldL]
        | cons =>
          simp only [foldL_cons]
          have : Nat.blt m b = false := by
            cases h : Nat.blt m b with
            | false => rfl
            | true => simp at h; omega
          rw [this, cond_false]
          exact ih _ _ _ _ (by omega)
    rw [e1, e2, cond_true, cond_false, off _ _ _ _ _ (by omega), off _ _ _ _ _ (by omega)]
  | p :: r, jt :: q, k, i + 1, s, o, it, ho, hi => by
    simp only [foldL_cons]
    have e1 : Nat.blt k (k + (i + 1 + 1)) = true := by simp
    have e2 : Nat.blt k (k + (i + 1)) = true := by simp
    simp only [e1, e2, cond_true]
    have := fold_step r q (k + 1) i (jt.eff p s) o it (by simpa using ho) (by simpa using hi)
    rw [show k + 1 + (i + 1) = k + (i + 1 + 1) from by omega, show k + 1 + i = k + (i + 1) from by omega] at this
    exact this
def Good (P : Program) (N : Env) (l : List Oper) (o : Oper) (it : It) (s : S) : Prop :=
  ((it.on = true ∧ guardV l o s = some true ∧ OpLaw P N o it.fp it.v it.up it.new ∧ Holds it.fp s) ∨ (it.on = false ∧ guardV l o s = some false ∧ it.fp = ⟨[], []⟩ ∧ it.v = .und ∧ it.up = [] ∧ it.new = [])) ∧
    s.nx ≤ it.nx ∧ (∀ n ∈ it.new, s.nx ≤ n ∧ n < it.nx) ∧ ∀ d, o.dst = some d → d < s.nt
theorem arun_items {K : S → List Tr → Prop} {r : List Oper} {s : S} {tr : List Tr} (h : ARun P N l K r s tr) : ∃ its : List It, its.length = r.length ∧ (∀ (i : Nat) o it, r[i]? = some o → its[i]? = some it → Good P N l o it (foldL (fun j => Nat.blt j i) r its 0 s)) ∧ K (foldL (fun _ => true) r its 0 s) (tr ++ trsOf l r its) := by
  have zero : ∀ (r : List Oper) (its : List It) (s : S), foldL (fun j => Nat.blt j 0) r its 0 s = s := fun r its s => by
    have : (fun j => Nat.blt j 0) = fun _ => false := funext fun j => by
      cases h : Nat.blt j 0 with
      | false => rfl
      | true => simp at h
    rw [this, fold_off]
  have cons : ∀ (o : Oper) (it : It) (r : List Oper) (its : List It) (s : S) (i : Nat), foldL (fun j => Nat.blt j (i + 1)) (o :: r) (it :: its) 0 s = foldL (fun j => Nat.blt j i) r its 0 (it.eff o s) := fun o it r its s i => by
    simp only [foldL_cons]
    have e1 : Nat.blt 0 (i + 1) = true := by simp
    simp only [e1, cond_true, fold_shift]
    congr 1
  induction h with
  | nil h => exact ⟨[], rfl, fun i o it h => by simp at h, by simpa [foldL, trsOf] using h⟩
  | @on o r s tr fp v up new nx hg hl hh hn hd _ ih =>
    obtain ⟨its, h1, h2, h3⟩ := ih
    refine ⟨⟨true, fp, v, up, new, nx⟩ :: its, by simp [h1], fun i p it hp hi => ?_, ?_⟩
    · cases i with
      | zero =>
        simp at hp hi
        subst hp hi
        rw [zero]
        exact ⟨.inl ⟨rfl, hg, hl, hh⟩, hn.1, hn.2, hd⟩
      | succ i =>
        rw [cons]
        exact h2 i p it (by simpa using hp) (by simpa using hi)
    · simp only [foldL_cons]
      simp only [cond_true, fold_shift]
      simpa [trsOf, It.eff] using h3
  | @off o r s tr hg hd _ ih =>
    obtain ⟨its, h1, h2, h3⟩ := ih
    refine ⟨⟨false, ⟨[], []⟩, .und, [], [], s.nx⟩ :: its, by simp [h1], fun i p it hp hi => ?_, ?_⟩
    · cases i with
      | zero =>
        simp at hp hi
        subst hp hi
        rw [zero]
        exact ⟨.inr ⟨rfl, hg, rfl, rfl, rfl, rfl⟩, Nat.le_refl _, fun n hn => by simp at hn, hd⟩
      | succ i =>
        rw [cons]
        exact h2 i p it (by simpa using hp) (by simpa using hi)
    · simp only [foldL_cons]
      simp only [cond_true, fold_shift]
      simpa [trsOf, It.eff] using h3
theorem trs_at : ∀ (r : List Oper) (its : List It) (i : Nat) (o : Oper) (it : It), r[i]? = some o → its[i]? = some it → (trsOf l r its)[i]? = some (trOf l o it.fp it.up)
  | [], _, _, _, _, h, _ => by simp at h
  | _ :: _, [], _, _, _, _, h => by simp at h
  | p :: r, jt :: q, 0, o, it, ho, hi => by simp at ho hi; subst ho hi; rfl
  | p :: r, jt :: q, i + 1, o, it, ho, hi => by
    have := trs_at r q i o it (by simpa using ho) (by simpa using hi)
    simpa [trsOf] using this
theorem trs_len : ∀ (r : List Oper) (its : List It), its.length = r.length → (trsOf l r its).length = r.length
  | [], [], _ => rfl
  | p :: r, jt :: q, h => by simpa [trsOf] using trs_len r q (by simpa using h)
  | [], _ :: _, h => by simp at h
  | _ :: _, [], h => by simp at h
theorem guard_congr {o : Oper} {s s' : S} (h : ∀ d, guardT l o = some d → lk s'.tm d = lk s.tm d) : guardV l o s' = guardV l o s := by
  unfold guardT at h
  unfold guardV
  cases hg : o.guard with
  | none => rfl
  | some p =>
    obtain ⟨j, want⟩ := p
    rw [hg] at h
    simp only at h ⊢
    cases hn : nth l j with
    | none => rfl
    | some p =>
      rw [hn] at h
      simp only at h ⊢
      cases hd : p.dst with
      | none => rfl
      | some d => simp only; rw [h d hd]
theorem holds_congr {fp : Fp} {s s' : S} (h1 : ∀ t ∈ fp.ts.filterMap (tmpOf ·.1), lk s'.tm t = lk s.tm t) (h2 : ∀ n ∈ fp.ns.map (·.1), s'.blk n = s.blk n) (h : Holds fp s) : Holds fp s' := by
  refine ⟨fun p hp => ?_, fun p hp => ?_⟩
  · have := h.1 p hp
    obtain ⟨x, v⟩ := p
    cases x with
    | tmp t => exact (h1 t (List.mem_filterMap.2 ⟨_, hp, rfl⟩)).trans this
    | _ => exact this
  · exact (h2 p.1 (List.mem_map.2 ⟨p, hp, rfl⟩)).trans (h.2 p hp)

structure Stt (P : Program) (N : Env) (l : List Oper) (its : List It) (s : S) (M0 : Nat → Prop) (w0 : World) (listed : Array Bool) (a : Act) (w : World) : Prop where
  size : listed.size = l.length
  down : ∀ (k : Nat) o, l.toArray[k]? = some o → listed.getD k true = true → ∀ e ∈ o.after, Region.binds .any e = true → listed.getD e.on false = true
  rel : ∃ M φ, Stays M0 w0 w ∧ (∀ b, b < w0.heap.size → M b → M0 b) ∧ Rel N M (fun n => n < s.nx ∨ ∃ (i : Nat) (it : It), listed.getD i false = true ∧ its[i]? = some it ∧ n ∈ it.new) φ (foldL (fun k => listed.getD k false) l its 0 s) a w

theorem any_order {its : List It} {M0 : Nat → Prop} {w0 : World} (hlen : its.length = l.length) (hgood : ∀ (i : Nat) o it, l[i]? = some o → its[i]? = some it → Good P N l o it (foldL (fun j => Nat.blt j i) l its 0 s))
    (hc : check l (trsOf l l its) = true) (hQ : Q .normal (foldL (fun _ => true) l its 0 s)) :
    ∀ (n : Nat) (listed : Array Bool) (a : Act) (w : World), (∀ k, (List.range l.length).countP (fun j => !listed.getD j true) = k → k ≤ n) → Stt P N l its s M0 w0 listed a w → wpAny P .any l.toArray (Post N Q M0 w0) n listed a w := by
  unfold check at hc
  rw [Bool.and_eq_true] at hc
  obtain ⟨hD, hchk⟩ := hc
  -- the names of the text's order
  have nxs : ∀ i j, i ≤ j → j ≤ l.length → (foldL (fun k => Nat.blt k i) l its 0 s).nx ≤ (foldL (fun k => Nat.blt k j) l its 0 s).nx := fun i j hij => by
    induction j with
    | zero => intro _; obtain rfl : i = 0 := by omega
              exact Nat.le_refl _
    | succ j ih =>
      intro hj
      by_cases e : i = j + 1
      · rw [e]; exact Nat.le_refl _
      · have h1 := ih (by omega) (by omega)
        have hol : l[j]? = some l[j] := by simp [show j < l.length by omega]
        have hil : its[j]? = some its[j] := by simp [show j < its.length by omega]
        have h2 := fold_step l its 0 j s _ _ hol hil
        rw [Nat.zero_add, Nat.zero_add] at h2
        rw [h2]
        exact Nat.le_trans h1 (hgood j _ _ hol hil).2.1
  have nx0 : (foldL (fun k => Nat.blt k 0) l its 0 s) = s := by
    have : (fun j => Nat.blt j 0) = fun _ => false := funext fun j => by
      cases h : Nat.blt j 0 with
      | false => rfl
      | true => simp at h
    rw [this, fold_off]
  have hnew : ∀ (i : Nat) it, its[i]? = some it → ∀ n ∈ it.new, (foldL (fun k => Nat.blt k i) l its 0 s).nx ≤ n ∧ n < (foldL (fun k => Nat.blt k (i + 1)) l its 0 s).nx := fun i it hi n hn => by
    have hil : i < l.length := by rw [← hlen]; exact (List.getElem?_eq_some_iff.1 hi).1
    have hol : l[i]? = some l[i] := by simp [hil]
    have h2 := fold_step l its 0 i s _ _ hol hi
    rw [Nat.zero_add, Nat.zero_add] at h2
    have h3 := (hgood i _ _ hol hi).2.2.1 n hn
    rw [h2]; exact h3
  have fin : ∀ (listed : Array Bool) (a : Act) (w : World), Stt P N l its s M0 w0 listed a w → Region.ready .any l.toArray listed = [] → Post N Q M0 w0 .normal a w := fun listed a w T hr => by
    have all : ∀ i, i < l.length → listed.getD i true = true := by
      intro i
      induction i using Nat.strongRecOn with
      | _ i ih =>
        intro hi
        cases hl : listed.getD i true with
        | true => rfl
        | false =>
          have hia : i < l.toArray.size := by simpa using hi
          have : i ∈ Region.ready .any l.toArray listed := mem_ready.2 ⟨hl, l[i], by simp [hi], fun e he hb => by
            have h1 := List.all_eq_true.1 (Bool.and_eq_true _ _ ▸ hD : _ ∧ _).2 i (List.mem_range.2 hia)
            rw [Bool.and_eq_true] at h1
            have hlt : e.on < i := by
              have : e.on ∈ after l.toArray i := by
                unfold after
                rw [Array.getElem?_eq_getElem hia]
                exact List.mem_map.2 ⟨e, List.mem_filter.2 ⟨by simpa using he, hb⟩, rfl⟩
              simpa using List.all_eq_true.1 h1.1 _ this
            have := ih e.on hlt (by omega)
            have hsz := T.size
            have hes : e.on < listed.size := by omega
            simp [hes] at this ⊢
            exact this⟩
          rw [hr] at this
          cases this
    obtain ⟨M, φ, h1, h2, h3⟩ := T.rel
    have e : foldL (fun k => listed.getD k false) l its 0 s = foldL (fun _ => true) l its 0 s := by
      have H : ∀ (ops : List Oper) (its : List It) (k : Nat) (s : S), (∀ j, k ≤ j → j < k + ops.length → listed.getD j false = true) → foldL (fun k => listed.getD k false) ops its k s = foldL (fun _ => true) ops its k s := fun ops => by
        induction ops with
        | nil => intros; simp [foldL]
        | cons o r ih =>
          intro its k s h
          cases its with
          | nil => simp [foldL]
          | cons it q =>
            simp only [foldL_cons]
            rw [h k (Nat.le_refl _) (by simp)]
            simp only [cond_true]
            exact ih _ _ _ (fun j h1 h2 => h j (by omega) (by simp; omega))
      refine H l its 0 s fun j _ hj => ?_
      have := all j (by omega)
      have hsz := T.size
      have hes : j < listed.size := by omega
      simp [hes] at this ⊢
      exact this
    rw [e] at h3
    refine ⟨M, φ, _, h1, h2, h3.wider fun n hn => ?_, hQ⟩
    have hend : (foldL (fun _ => true) l its 0 s).nx = (foldL (fun k => Nat.blt k l.length) l its 0 s).nx := by
      have H : ∀ (ops : List Oper) (its : List It) (k : Nat) (s : S) (L L' : Nat → Bool), (∀ j, k ≤ j → j < k + ops.length → L j = L' j) → foldL L ops its k s = foldL L' ops its k s := fun ops => by
        induction ops with
        | nil => intros; simp [foldL]
        | cons o r ih =>
          intro its k s L L' h
          cases its with
          | nil => simp [foldL]
          | cons it q =>
            simp only [foldL_cons]
            rw [h k (Nat.le_refl _) (by simp)]
            exact ih _ _ _ _ _ (fun j h1 h2 => h j (by omega) (by simp; omega))
      rw [H l its 0 s _ _ fun j _ hj => ?_]
      simp at hj
      simp [hj]
    rw [hend]
    rcases hn with hn | ⟨i, it, _, hi, hn⟩
    · have := nxs 0 l.length (Nat.zero_le _) (Nat.le_refl _)
      rw [nx0] at this
      exact Nat.lt_of_lt_of_le hn this
    · have hil : i < l.length := by rw [← hlen]; exact (List.getElem?_eq_some_iff.1 hi).1
      exact Nat.lt_of_lt_of_le (hnew i it hi n hn).2 (nxs (i + 1) l.length hil (Nat.le_refl _))
  intro n
  induction n with
  | zero =>
    intro listed a w hc T
    have h0 := hc _ rfl
    have hr : Region.ready .any l.toArray listed = [] := by
      rw [List.eq_nil_iff_forall_not_mem]
      intro i hi
      obtain ⟨hl, o, ho, _⟩ := mem_ready.1 hi
      have hlt : i < l.length := by simpa using (Array.getElem?_eq_some_iff.1 ho).1
      have : 0 < (List.range l.length).countP (fun j => !listed.getD j true) := List.countP_pos_iff.2 ⟨i, List.mem_range.2 hlt, by simp [hl]⟩
      omega
    exact ⟨hr, fin listed a w T hr⟩
  | succ n ih =>
    intro listed a w hc T
    refine ⟨fin listed a w T, fun i hi => ?_⟩
    obtain ⟨hl, o, ho, hall⟩ := mem_ready.1 hi
    have hlt : i < l.length := by simpa using (Array.getElem?_eq_some_iff.1 ho).1
    have hlta : i < l.toArray.size := by simpa using hlt
    have hls : i < listed.size := by have := T.size; omega
    have hLi : listed.getD i false = false := by simp [hls] at hl ⊢; exact hl
    have hol : l[i]? = some o := by simpa using ho
    have hil : its[i]? = some its[i] := by simp [show i < its.length by omega]
    obtain ⟨M, φ, h1, h2, h3⟩ := T.rel
    have gd : ∀ j, j < l.length → listed.getD j true = true → listed.getD j false = true := fun j hj h => by
      have hes : j < listed.size := by have := T.size; omega
      simp [hes] at h ⊢; exact h
    have dg : ∀ j, listed.getD j false = true → listed.getD j true = true := fun j h => by
      by_cases hes : j < listed.size
      · simp [hes] at h ⊢; exact h
      · simp [hes] at h
    have hdl := deps_listed hD (by rw [T.size]; simp) T.down (i + 1) i (by omega) hlta (fun o' ho' => by rw [ho] at ho'; cases ho'; exact hall)
    have hdj : ∀ j k, j < l.length → listed.getD j false = true → k ∈ (deps l.toArray).getD j [] → listed.getD k false = true := fun j k hj hjl hk => by
      have := deps_listed hD (by rw [T.size]; simp) T.down (j + 1) j (by omega) (by simpa using hj) (fun o' ho' e he hb => T.down j o' ho' (dg j hjl) e he hb) k hk
      exact gd k (by omega) this.2
    have hord : ∀ k, k < l.length → k ≠ i → clash (trOf l l[k]! its[k]!.fp its[k]!.up) (trOf l o its[i].fp its[i].up) = true → listed.getD k false = Nat.blt k i := fun k hk hki hcl => by
      have h4 := List.all_eq_true.1 (List.all_eq_true.1 hchk i (List.mem_range.2 (by rw [trs_len l its hlen]; exact hlt))) k (List.mem_range.2 (by rw [trs_len l its hlen]; exact hk))
      rw [trs_at l its k l[k]! its[k]! (by simp [hk]) (by simp [show k < its.length by omega]), trs_at l its i o its[i] hol hil] at h4
      simp only [hcl, Bool.not_true, Bool.or_false, Bool.or_eq_true, beq_iff_eq, hki, false_or] at h4
      by_cases hlt2 : k < i
      · rw [if_pos hlt2] at h4
        have : k ∈ (deps l.toArray).getD i [] := by simpa using h4
        rw [gd k hk (hdl k this).2]
        simp [hlt2]
      · rw [if_neg hlt2] at h4
        have : i ∈ (deps l.toArray).getD k [] := by simpa using h4
        have e : Nat.blt k i = false := by
          cases h : Nat.blt k i with
          | false => rfl
          | true => simp at h; omega
        rw [e]
        cases hk2 : listed.getD k false with
        | false => rfl
        | true =>
          have := hdj k i hk hk2 this
          rw [hLi] at this; cases this
    have hii : Nat.blt i i = false := by
      cases h : Nat.blt i i with
      | false => rfl
      | true => simp at h
    -- what i touches stands as in the text's order
    have tmp_at : ∀ t, ((trOf l o its[i].fp its[i].up).tt.contains t || (trOf l o its[i].fp its[i].up).wt == some t) = true → ∀ (k : Nat) p, l[k]? = some p → p.dst = some t → listed.getD k false = Nat.blt k i := fun t ht k p hp hd => by
      have hk : k < l.length := (List.getElem?_eq_some_iff.1 hp).1
      by_cases hki : k = i
      · subst hki; rw [hLi, hii]
      · refine hord k hk hki ?_
        have e : l[k]! = p := by simp [hk]; exact (List.getElem?_eq_some_iff.1 hp).2
        unfold clash
        rw [e]
        have : (trOf l p its[k]!.fp its[k]!.up).wt = some t := hd
        rw [this]
        simp only [Bool.or_eq_true] at ht ⊢
        exact .inl ht
    have blk_at : ∀ m, ((trOf l o its[i].fp its[i].up).nn.contains m || (trOf l o its[i].fp its[i].up).wn.contains m) = true → ∀ (k : Nat) it, its[k]? = some it → (it.up.map (·.1)).contains m = true → listed.getD k false = Nat.blt k i := fun m hm k it hit hd => by
      have hk : k < its.length := (List.getElem?_eq_some_iff.1 hit).1
      by_cases hki : k = i
      · subst hki; rw [hLi, hii]
      · refine hord k (by omega) hki ?_
        have e : its[k]! = it := by simp [hk]; exact (List.getElem?_eq_some_iff.1 hit).2
        unfold clash
        rw [e, Bool.or_eq_true]
        refine .inr (List.any_eq_true.2 ⟨m, by simpa [trOf] using hd, hm⟩)
    obtain ⟨hg1, hg2, hg3, hg4⟩ := hgood i o its[i] hol hil
    have hgv : guardV l o (foldL (fun k => listed.getD k false) l its 0 s) = guardV l o (foldL (fun j => Nat.blt j i) l its 0 s) := guard_congr fun d hd => by
      refine fold_tm l its 0 s s (fun k p hp hpd => ?_) rfl
      rw [Nat.zero_add]
      exact tmp_at d (by unfold trOf; rw [hd]; simp) k p hp hpd
    have hcount : ∀ k, (List.range l.length).countP (fun j => !(listed.setIfInBounds i true).getD j true) = k → k ≤ n := by
      rintro k rfl
      have h0 := hc _ rfl
      have hlt2 : (List.range l.length).countP (fun j => !(listed.setIfInBounds i true).getD j true) < (List.range l.length).countP (fun j => !listed.getD j true) := by
        have hp := List.countP_eq_countP_filter_add (List.range l.length) (fun j => !listed.getD j true) (fun j => j == i)
        have hq := List.countP_eq_countP_filter_add (List.range l.length) (fun j => !(listed.setIfInBounds i true).getD j true) (fun j => j == i)
        have e1 : ((List.range l.length).filter fun j => !(j == i)).countP (fun j => !(listed.setIfInBounds i true).getD j true) = ((List.range l.length).filter fun j => !(j == i)).countP (fun j => !listed.getD j true) := by
          refine List.countP_congr fun j hj => ?_
          rw [List.mem_filter] at hj
          rw [getD_set hls, if_neg (by simpa using hj.2)]
        have e2 : ((List.range l.length).filter fun j => j == i).countP (fun j => !(listed.setIfInBounds i true).getD j true) = 0 := by
          rw [List.countP_eq_zero]
          intro j hj
          rw [List.mem_filter] at hj
          rw [getD_set hls, if_pos (by simpa using hj.2)]
          simp
        have e3 : 0 < ((List.range l.length).filter fun j => j == i).countP (fun j => !listed.getD j true) := List.countP_pos_iff.2 ⟨i, List.mem_filter.2 ⟨List.mem_range.2 hlt, by simp⟩, by simp [hl]⟩
        omega
      omega
    have hdown : ∀ (k : Nat) o', l.toArray[k]? = some o' → (listed.setIfInBounds i true).getD k true = true → ∀ e ∈ o'.after, Region.binds .any e = true → (listed.setIfInBounds i true).getD e.on false = true := fun k o' ho' hk e he hb => by
      rw [getD_set hls] at hk
      rw [getD_set' hls]
      split
      · rfl
      · by_cases hki : k = i
        · subst hki
          rw [ho] at ho'
          cases ho'
          exact hall e he hb
        · rw [if_neg hki] at hk
          exact T.down k o' ho' hk e he hb
    -- the state behind i
    have hset : ∀ k, (listed.setIfInBounds i true).getD k false = if k = i then true else listed.getD k false := fun k => getD_set' hls
    have nxt : ∀ (a' : Act) (w' : World) M' φ', Stays M w w' → (∀ b, b < w.heap.size → M' b → M b) → Rel N M' (fun n => (n < s.nx ∨ ∃ (i : Nat) (it : It), listed.getD i false = true ∧ its[i]? = some it ∧ n ∈ it.new) ∨ n ∈ its[i].new) φ' ((foldL (fun k => listed.getD k false) l its 0 s).eff o.dst its[i].v its[i].up (foldL (fun k => listed.getD k false) l its 0 s).nx) a' w' →
        Stt P N l its s M0 w0 (listed.setIfInBounds i true) a' w' := fun a' w' M' φ' k1 k2 k3 => by
      refine ⟨by simp [T.size], hdown, M', φ', h1.trans k1 h2, fun b hb hm => h2 b hb (k2 b (Nat.lt_of_lt_of_le hb h1.size) hm), ?_⟩
      refine Rel.as (s := (foldL (fun k => listed.getD k false) l its 0 s).eff o.dst its[i].v its[i].up (foldL (fun k => listed.getD k false) l its 0 s).nx) (Rel.wider k3 ?_) (fun t => ?_) (fun m => ?_) ?_
      · rintro m ((hm | ⟨j, jt, hj, hjt, hm⟩) | hm)
        · exact .inl hm
        · refine .inr ⟨j, jt, ?_, hjt, hm⟩
          rw [hset]; split
          · rfl
          · exact hj
        · exact .inr ⟨i, its[i], by rw [hset, if_pos rfl], hil, hm⟩
      · have e9 := eff_tm o its[i] (foldL (fun k => listed.getD k false) l its 0 s) t
        change _ = lk (its[i].eff o (foldL (fun k => listed.getD k false) l its 0 s)).tm t
        rw [e9]
        split
        · rename_i hd
          refine last_tm l its 0 i s o its[i] hol hil hd (by rw [Nat.zero_add, hset, if_pos rfl]) fun j p hj hp hpd => ?_
          rw [Nat.zero_add, hset, if_neg (by omega), tmp_at t (by simp [trOf, hd]) j p hp hpd]
          cases h : Nat.blt j i with
          | false => rfl
          | true => simp at h; omega
        · rename_i hd
          refine fold_tm l its 0 s s (fun k p hp hpd => ?_) rfl
          rw [Nat.zero_add, hset, if_neg]
          rintro rfl
          rw [hol] at hp; cases hp
          exact hd hpd
      · change _ = (its[i].eff o (foldL (fun k => listed.getD k false) l its 0 s)).blk m
        cases hd : (its[i].up.map (·.1)).contains m with
        | true =>
          rw [last_blk l its 0 i s o its[i] hol hil (by rw [Nat.zero_add, hset, if_pos rfl]) fun j p hj hp hpd => ?_]
          · obtain ⟨x, hx⟩ := lk_some hd
            rw [eff_blk, eff_blk, hx]; rfl
          · rw [Nat.zero_add, hset, if_neg (by omega), blk_at m (by simp only [trOf, Bool.or_eq_true]; exact .inr hd) j p hp hpd]
            cases h : Nat.blt j i with
            | false => rfl
            | true => simp at h; omega
        | false =>
          rw [eff_blk, lk_none hd]
          refine fold_blk l its 0 s s (fun k it hp hpd => ?_) rfl
          rw [Nat.zero_add, hset, if_neg]
          rintro rfl
          rw [hil] at hp; cases hp
          rw [hd] at hpd; cases hpd
      · rw [fold_nt]
        show s.nt = (foldL _ l its 0 s).nt
        rw [fold_nt]
    have hfresh : ∀ m ∈ its[i].new, ¬ (m < s.nx ∨ ∃ (i : Nat) (it : It), listed.getD i false = true ∧ its[i]? = some it ∧ m ∈ it.new) := by
      rintro m hm (h4 | ⟨j, jt, hj, hjt, h5⟩)
      · have h6 := (hnew i _ hil m hm).1
        have h7 := nxs 0 i (Nat.zero_le _) (by omega)
        rw [nx0] at h7
        omega
      · have hjl : j < its.length := (List.getElem?_eq_some_iff.1 hjt).1
        have h6 := hnew i _ hil m hm
        have h7 := hnew j _ hjt m h5
        rcases Nat.lt_trichotomy i j with h8 | h8 | h8
        · have := nxs (i + 1) j h8 (by omega)
          omega
        · subst h8; rw [hLi] at hj; cases hj
        · have := nxs (j + 1) i h8 (by omega)
          omega
    have hnt : ∀ d, o.dst = some d → d < (foldL (fun k => listed.getD k false) l its 0 s).nt := fun d hd => by
      have := hg4 d hd
      rw [fold_nt] at this ⊢
      exact this
    unfold wpOp
    simp only [ho]
    rcases hg1 with ⟨_, hg, hlaw, hh⟩ | ⟨_, hg, hf1, hf2, hf3, hf4⟩
    · rw [if_pos (guard_wanted (hgv.trans hg) h3)]
      have hh' : Holds its[i].fp (foldL (fun k => listed.getD k false) l its 0 s) := holds_congr (fun t ht => fold_tm l its 0 s s (fun k p hp hpd => by
          rw [Nat.zero_add]
          exact tmp_at t (by unfold trOf; simp only [Bool.or_eq_true]; exact .inl (by rw [List.contains_iff_mem]; exact List.mem_append_right _ ht)) k p hp hpd) rfl)
        (fun m hm => fold_blk l its 0 s s (fun k p hp hpd => by
          rw [Nat.zero_add]
          exact blk_at m (by unfold trOf; simp only [Bool.or_eq_true]; exact .inl (List.contains_iff_mem.2 hm)) k p hp hpd) rfl) hh
      refine .inl (wp_sure (Oper.wp_mono (fun a' w' ⟨M', φ', k1, k2, k3⟩ => ih _ _ _ hcount (nxt a' w' M' φ' k1 k2 k3)) (hlaw _ M _ φ a w hh' h3 hfresh hnt)))
    · rw [if_neg (by rw [guard_wanted (hgv.trans hg) h3]; decide)]
      refine ih _ _ _ hcount (nxt _ _ M φ (.refl _ w) (fun _ _ h => h) ?_)
      rw [hf2, hf3]
      exact Rel.wider (rel_dst h3 (.fz .und) hnt) fun _ h => .inl h
/-- A region that draws its order. -/
theorem awp_draw {id : Nat} (hm : P.follows .mixedOrders = true) (h : ARun P N l (fun s tr => check l tr = true ∧ Q .normal s) l s []) : AWp P N (.region id l.toArray true) Q s := fun M φ a w hr => by
  obtain ⟨its, h1, h2, h3, h4⟩ := arun_items h
  rw [List.nil_append] at h3
  have key := any_order (M0 := M) (w0 := w.drew) h1 h2 h3 h4 l.length (Array.replicate l.toArray.size false) a w.drew (fun k hk => by
    rw [← hk]
    exact Nat.le_trans List.countP_le_length (by simp)) ⟨by simp, fun k o ho hl => by
      exfalso
      have hlt : k < l.length := by simpa using (Array.getElem?_eq_some_iff.1 ho).1
      simp [hlt] at hl, M, φ, .refl _ _, fun _ _ h => h, ?_⟩
  · refine wp_region_any hm ?_
    have := key
    rw [show l.length = l.toArray.size from by simp] at this
    exact wpAny_post (Stays.drew M w) (fun _ _ h => h) _ _ _ _ this
  · have e : (fun k => (Array.replicate l.toArray.size false).getD k false) = fun _ => false := funext fun k => by
      by_cases hk : k < l.length <;> simp [hk]
    rw [e, fold_off]
    refine Rel.wider (hr.grow ?_) fun _ h => .inl h
    exact ⟨rfl, rfl, rfl, Nat.le_refl _, fun _ _ => rfl⟩
end
end Go.Proofs.YtefcfickggnmjaaDoor.Abs
