/- A region that draws its order, walked by what each operation's value is known to be: no order is named. Each operation is walked once, in any world that what it waits for has left. -/
import Derived.OrdersHeld
import Derived.KernelRfl
import Derived.Tactics
import Derived.Below
namespace Go.Proofs.YtfhfpanemalbmaaDoor.Facts
open Go.RowKit

def after (ops : Array Oper) (i : Nat) : List Nat := match ops[i]? with
  | some o => (o.after.toList.filter (Region.binds .any)).map (·.on)
  | none => []
/-- Behind whom each one comes, by the edges. -/
def deps (ops : Array Oper) : List (List Nat) := (List.range ops.size).foldl (fun acc i => acc ++ [((after ops i).flatMap fun j => j :: acc.getD j []).eraseDups]) []
def okDeps (ops : Array Oper) (D : List (List Nat)) : Bool := D.length == ops.size && (List.range ops.size).all fun i => (after ops i).all (· < i) && (D.getD i []).all fun j => (after ops i).any fun e => e == j || (D.getD e []).contains j
def okDst (ops : List Oper) : Bool := match ops with
  | [] => true
  | o :: r => (match o.dst with | some d => r.all fun p => p.dst != some d | none => true) && okDst r
/-- What may be asked for at i: the facts of those that it waits for, and of what stood at the beginning (the m behind the operations), if none that may come before it has used it up. -/
def needs (D kills : List (List Nat)) (n m i : Nat) : List Nat := ((D.getD i []) ++ List.range' n m).filter fun j => (List.range n).all fun s => !(kills.getD s []).contains j || s == i || (D.getD s []).contains i
def left (kills : List (List Nat)) (n m : Nat) : List Nat := (List.range (n + m)).filter fun j => (List.range n).all fun s => !(kills.getD s []).contains j
def others (D kills : List (List Nat)) (n m i : Nat) : List Nat := (List.range (n + m)).filter fun j => j != i && !(kills.getD i []).contains j && !(D.getD j []).contains i
def okNeeds (D kills N O : List (List Nat)) (L : List Nat) (n m : Nat) : Bool := ((List.range n).all fun i => ((N.getD i []).all fun j => (needs D kills n m i).contains j) && ((O.getD i []).isEmpty || (others D kills n m i).all fun j => (O.getD i []).contains j)) && L.all fun j => (left kills n m).contains j
def AllL (p : Nat → Prop) : List Nat → Prop
  | [] => True
  | j :: r => p j ∧ AllL p r
theorem allL_iff {p : Nat → Prop} : ∀ {l : List Nat}, AllL p l ↔ ∀ j ∈ l, p j
  | [] => by simp [AllL]
  | a :: l => by simp [AllL, allL_iff (l := l)]
/-- What is known: of its own value and of those that it names, in a world. -/
structure Fact where
  at' : List Nat
  says : List Value → World → Prop
def fill (vs : Nat → Value) : List Oper → Nat → Act → Act
  | [], _, a => a
  | o :: r, n, a => fill vs r (n + 1) (a.put o.dst (vs n))

section
variable {P : Program} {Q : Exit → Act → World → Prop}
theorem put_put (a : Act) (d : Option Tmp) (v u : Value) : (a.put d v).put d u = a.put d u := by
  cases d with
  | none => rfl
  | some d => simp [Act.put]
theorem put_self (a : Act) (d : Option Tmp) : a.put d (match d with | some d => a.tmps.getD d undef | none => undef) = a := by
  cases d with
  | none => rfl
  | some d =>
    have : a.tmps.setIfInBounds d (a.tmps.getD d undef) = a.tmps := by
      apply Array.ext
      · simp
      · intro i h1 h2
        by_cases e : d = i
        · subst e; simp [h2]
        · rw [Array.getElem_setIfInBounds_ne h2 e]
    unfold Act.put
    simp only
    rw [this]
theorem fill_put (vs : Nat → Value) (v : Value) : ∀ (ops : List Oper) (n : Nat) (a : Act) (d : Option Tmp), (∀ o ∈ ops, ∀ e, d = some e → o.dst ≠ some e) → fill vs ops n (a.put d v) = (fill vs ops n a).put d v
  | [], _, _, _, _ => rfl
  | o :: r, n, a, d, h => by
    unfold fill
    rw [Act.put_comm a v (vs n) (fun e he => h o (by simp) e he), fill_put vs v r (n + 1) _ d (fun p hp => h p (by simp [hp]))]
theorem fill_congr {vs us : Nat → Value} : ∀ (ops : List Oper) (n : Nat) (a : Act), (∀ i, n ≤ i → vs i = us i) → fill vs ops n a = fill us ops n a
  | [], _, _, _ => rfl
  | o :: r, n, a, h => by
    unfold fill
    rw [h n (Nat.le_refl _), fill_congr r (n + 1) _ (fun i hi => h i (by omega))]
theorem fill_set (vs : Nat → Value) (v : Value) : ∀ (ops : List Oper) (n i : Nat) (a : Act) (o : Oper), okDst ops = true → ops[i]? = some o → (fill vs ops n a).put o.dst v = fill (fun j => if j = n + i then v else vs j) ops n a
  | [], _, _, _, _, _, h => by simp at h
  | p :: r, n, 0, a, o, hd, h => by
    simp only [List.getElem?_cons_zero, Option.some.injEq] at h
    subst h
    unfold fill
    rw [okDst, Bool.and_eq_true] at hd
    have hne : ∀ q ∈ r, ∀ e, p.dst = some e → q.dst ≠ some e := fun q hq e he => by
      have h1 := hd.1
      rw [he] at h1
      have := List.all_eq_true.1 h1 q hq
      simpa using this
    have e0 : fill vs r (n + 1) (a.put p.dst (vs n)) = (fill vs r (n + 1) a).put p.dst (vs n) := fill_put vs _ r _ a _ hne
    have e1 : fill (fun j => if j = n + 0 then v else vs j) r (n + 1) (a.put p.dst ((fun j => if j = n + 0 then v else vs j) n)) = (fill (fun j => if j = n + 0 then v else vs j) r (n + 1) a).put p.dst ((fun j => if j = n + 0 then v else vs j) n) := fill_put _ _ r _ a _ hne
    rw [e0, put_put, e1, fill_congr (us := vs) r (n + 1) a (fun i hi => if_neg (by omega))]
    simp
  | p :: r, n, i + 1, a, o, hd, h => by
    rw [okDst, Bool.and_eq_true] at hd
    simp only [List.getElem?_cons_succ] at h
    have ih := fill_set vs v r (n + 1) i (a.put p.dst (vs n)) o hd.2 h
    show (fill vs r (n + 1) (a.put p.dst (vs n))).put o.dst v = _
    rw [ih]
    show _ = fill _ r (n + 1) (a.put p.dst (if n = n + (i + 1) then v else vs n))
    rw [if_neg (by omega)]
    exact fill_congr _ _ _ fun j _ => by
      rw [show n + (i + 1) = n + 1 + i from by omega]
theorem fill_self (a : Act) : ∀ (ops : List Oper) (n : Nat) (vs : Nat → Value), (∀ i o, ops[i]? = some o → vs (n + i) = match o.dst with | some d => a.tmps.getD d undef | none => undef) → fill vs ops n a = a
  | [], _, _, _ => rfl
  | o :: r, n, vs, h => by
    unfold fill
    have h0 := h 0 o rfl
    rw [Nat.add_zero] at h0
    rw [h0, put_self]
    exact fill_self a r (n + 1) vs fun i p hp => by
      have := h (i + 1) p (by simpa using hp)
      rw [show n + 1 + i = n + (i + 1) from by omega]
      exact this

variable (F : List Fact) (I : World → Prop)
def fact (i : Nat) (v : Value) (vs : Nat → Value) (w : World) : Prop := match F[i]? with
  | some f => f.says (v :: f.at'.map vs) w
  | none => True
/-- Each fact speaks of its own value and of those that came before. -/
def okFacts (F : List Fact) (D : List (List Nat)) : Bool := (List.range F.length).all fun i => ((F[i]?).map (·.at')).getD [] |>.all fun j => (D.getD i []).contains j
/-- One operation's step. -/
def Step (P : Program) (Q : Exit → Act → World → Prop) (ops : Array Oper) (a0 : Act) (need oth : List Nat) (i : Nat) (o : Oper) : Prop :=
  ∀ vs w, I w → AllL (fun j => fact F j (vs j) vs w) need →
    (Region.wanted o (yielded ops (fill vs ops.toList 0 a0).tmps) = true ∧ ∀ K : Act → World → Prop, (∀ v w', I w' → fact F i v vs w' → (Below w.heap.size w w' ∨ (oth ≠ [] ∧ ∀ us : Nat → Value, AllL (fun j => fact F j (us j) us w → fact F j (us j) us w') oth)) → K ((fill vs ops.toList 0 a0).put o.dst v) w') → o.wp P (fill vs ops.toList 0 a0) w K Q)
    ∨ (Region.wanted o (yielded ops (fill vs ops.toList 0 a0).tmps) = false ∧ fact F i undef vs w)
def Steps (P : Program) (Q : Exit → Act → World → Prop) (ops : Array Oper) (a0 : Act) (N O : List (List Nat)) : List Oper → Nat → Prop
  | [], _ => True
  | o :: r, i => Step F I P Q ops a0 (N.getD i []) (O.getD i []) i o ∧ Steps P Q ops a0 N O r (i + 1)
theorem steps_at {ops : Array Oper} {a0 : Act} {N O : List (List Nat)} : ∀ {l : List Oper} {n : Nat}, Steps F I P Q ops a0 N O l n → ∀ i o, l[i]? = some o → Step F I P Q ops a0 (N.getD (n + i) []) (O.getD (n + i) []) (n + i) o
  | [], _, _, _, _, h => by simp at h
  | p :: r, n, hs, 0, o, h => by
    simp only [List.getElem?_cons_zero, Option.some.injEq] at h
    subst h
    exact hs.1
  | p :: r, n, hs, i + 1, o, h => by
    have := steps_at hs.2 i o (by simpa using h)
    rw [show n + 1 + i = n + (i + 1) from by omega] at this
    exact this

structure St (m : Nat) (ops : Array Oper) (a0 : Act) (kills : List (List Nat)) (listed : Array Bool) (a : Act) (w : World) : Prop where
  size : listed.size = ops.size
  down : ∀ k o, ops[k]? = some o → listed.getD k true = true → ∀ e ∈ o.after, Region.binds .any e = true → listed.getD e.on false = true
  inv : I w
  acts : ∃ vs, a = fill vs ops.toList 0 a0 ∧ ∀ j, j < ops.size + m → listed.getD j true = true → (∀ s, s < ops.size → listed.getD s true = true → (kills.getD s []).contains j = false) → fact F j (vs j) vs w

theorem mem_after {ops : Array Oper} {i e : Nat} (h : e ∈ after ops i) : ∃ o x, ops[i]? = some o ∧ x ∈ o.after ∧ Region.binds .any x = true ∧ x.on = e := by
  unfold after at h
  split at h
  · rename_i o ho
    obtain ⟨x, hx, rfl⟩ := List.mem_map.1 h
    rw [List.mem_filter] at hx
    exact ⟨o, x, ho, by simpa using hx.1, hx.2, rfl⟩
  · cases h
theorem deps_listed {ops : Array Oper} {D : List (List Nat)} {listed : Array Bool} (hD : okDeps ops D = true) (hsz : listed.size = ops.size)
    (down : ∀ k o, ops[k]? = some o → listed.getD k true = true → ∀ e ∈ o.after, Region.binds .any e = true → listed.getD e.on false = true) :
    ∀ (n i : Nat), i < n → i < ops.size → (∀ o, ops[i]? = some o → ∀ e ∈ o.after, Region.binds .any e = true → listed.getD e.on false = true) → ∀ j ∈ D.getD i [], j < i ∧ listed.getD j true = true
  | 0, _, h, _, _, _, _ => absurd h (Nat.not_lt_zero _)
  | n + 1, i, hin, hi, hrd, j, hj => by
    have h1 := List.all_eq_true.1 (Bool.and_eq_true _ _ ▸ hD : _ ∧ _).2 i (List.mem_range.2 hi)
    rw [Bool.and_eq_true] at h1
    obtain ⟨e, he, hor⟩ := List.any_eq_true.1 (List.all_eq_true.1 h1.2 j hj)
    have hlt : e < i := by simpa using List.all_eq_true.1 h1.1 e he
    obtain ⟨o, x, ho, hx, hb, rfl⟩ := mem_after he
    have hl := hrd o ho x hx hb
    have hl' : listed.getD x.on true = true := by
      have hxs : x.on < listed.size := by omega
      simp [hxs] at hl ⊢
      exact hl
    rw [Bool.or_eq_true] at hor
    rcases hor with hor | hor
    · obtain rfl : x.on = j := by simpa using hor
      exact ⟨hlt, hl'⟩
    · have := deps_listed hD hsz down n x.on (by omega) (by omega) (fun o' ho' e' he' hb' => down x.on o' ho' hl' e' he' hb') j (by simpa using hor)
      exact ⟨by omega, this.2⟩
theorem getD_set {listed : Array Bool} {i j : Nat} (hi : i < listed.size) : (listed.setIfInBounds i true).getD j true = if j = i then true else listed.getD j true := by
  by_cases e : j = i
  · subst e; simp [hi]
  · rw [if_neg e, getD_set_ne true (Ne.symm e)]
theorem getD_set' {listed : Array Bool} {i j : Nat} (hi : i < listed.size) : (listed.setIfInBounds i true).getD j false = if j = i then true else listed.getD j false := by
  by_cases e : j = i
  · subst e; simp [hi]
  · rw [if_neg e, getD_set_ne false (Ne.symm e)]

theorem facts_any {ops : Array Oper} {a0 : Act} (m : Nat) (D kills N O : List (List Nat)) (L : List Nat) (hD : okDeps ops D = true) (hd : okDst ops.toList = true) (hF : okFacts F D = true) (hN : okNeeds D kills N O L ops.size m = true)
    (hst : ∀ j v vs w w', Below w.heap.size w w' → fact F j v vs w → fact F j v vs w')
    (hs : Steps F I P Q ops a0 N O ops.toList 0)
    (hend : ∀ vs w, I w → AllL (fun j => fact F j (vs j) vs w) L → Q .normal (fill vs ops.toList 0 a0) w) :
    ∀ (n : Nat) (listed : Array Bool) (a : Act) (w : World), (∀ k, (List.range ops.size).countP (fun j => !listed.getD j true) = k → k ≤ n) → St F I m ops a0 kills listed a w → wpAny P .any ops Q n listed a w := by
  have fin : ∀ (listed : Array Bool) (a : Act) (w : World), St F I m ops a0 kills listed a w → Region.ready .any ops listed = [] → Q .normal a w := fun listed a w S hr => by
    have all : ∀ i, i < ops.size → listed.getD i true = true := by
      intro i
      induction i using Nat.strongRecOn with
      | _ i ih =>
        intro hi
        cases hl : listed.getD i true with
        | true => rfl
        | false =>
          have : i ∈ Region.ready .any ops listed := mem_ready.2 ⟨hl, ops[i], by simp [hi], fun e he hb => by
            have h1 := List.all_eq_true.1 (Bool.and_eq_true _ _ ▸ hD : _ ∧ _).2 i (List.mem_range.2 hi)
            rw [Bool.and_eq_true] at h1
            have hlt : e.on < i := by
              have : e.on ∈ after ops i := by
                unfold after
                rw [Array.getElem?_eq_getElem hi]
                exact List.mem_map.2 ⟨e, List.mem_filter.2 ⟨by simpa using he, hb⟩, rfl⟩
              simpa using List.all_eq_true.1 h1.1 _ this
            have := ih e.on hlt (by omega)
            have hsz := S.size
            have hes : e.on < listed.size := by omega
            simp [hes] at this ⊢
            exact this⟩
          rw [hr] at this
          cases this
    obtain ⟨vs, rfl, hf⟩ := S.acts
    refine hend vs w S.inv (allL_iff.2 fun j hj => ?_)
    have hj : j ∈ left kills ops.size m := by
      have h2 := (Bool.and_eq_true _ _ ▸ hN : _ ∧ _).2
      simpa using List.all_eq_true.1 h2 j hj
    unfold left at hj
    rw [List.mem_filter] at hj
    have hjn := List.mem_range.1 hj.1
    have hlj : listed.getD j true = true := by
      by_cases hj2 : j < ops.size
      · exact all j hj2
      · have := S.size
        simp [Array.getElem?_eq_none (show listed.size ≤ j by omega)]
    refine hf j hjn hlj fun s hsn _ => ?_
    have := List.all_eq_true.1 hj.2 s (List.mem_range.2 hsn)
    simpa using this
  intro n
  induction n with
  | zero =>
    intro listed a w hc S
    have h0 := hc _ rfl
    have hr : Region.ready .any ops listed = [] := by
      rw [List.eq_nil_iff_forall_not_mem]
      intro i hi
      obtain ⟨hl, o, ho, _⟩ := mem_ready.1 hi
      have hlt : i < ops.size := (Array.getElem?_eq_some_iff.1 ho).1
      have : 0 < (List.range ops.size).countP (fun j => !listed.getD j true) := List.countP_pos_iff.2 ⟨i, List.mem_range.2 hlt, by simp [hl]⟩
      omega
    exact ⟨hr, fin listed a w S hr⟩
  | succ n ih =>
    intro listed a w hc S
    refine ⟨fin listed a w S, fun i hi => ?_⟩
    obtain ⟨hl, o, ho, hall⟩ := mem_ready.1 hi
    have hlt : i < ops.size := (Array.getElem?_eq_some_iff.1 ho).1
    have hls : i < listed.size := by have := S.size; omega
    obtain ⟨vs, rfl, hf⟩ := S.acts
    have hdl := deps_listed hD S.size S.down (i + 1) i (by omega) hlt (fun o' ho' => by rw [ho] at ho'; cases ho'; exact hall)
    have hNi := List.all_eq_true.1 (Bool.and_eq_true _ _ ▸ hN : _ ∧ _).1 i (List.mem_range.2 hlt)
    rw [Bool.and_eq_true] at hNi
    have hneed : AllL (fun j => fact F j (vs j) vs w) (N.getD i []) := allL_iff.2 fun j hj => by
      have hj : j ∈ needs D kills ops.size m i := by simpa using List.all_eq_true.1 hNi.1 j hj
      unfold needs at hj
      rw [List.mem_filter] at hj
      have hjl : j < ops.size + m ∧ listed.getD j true = true := by
        rcases List.mem_append.1 hj.1 with h9 | h9
        · obtain ⟨hji, hjl⟩ := hdl j h9
          exact ⟨by omega, hjl⟩
        · rw [List.mem_range'_1] at h9
          have := S.size
          exact ⟨by omega, by simp [Array.getElem?_eq_none (show listed.size ≤ j by omega)]⟩
      refine hf j hjl.1 hjl.2 fun s hsn hsl => ?_
      have h2 := List.all_eq_true.1 hj.2 s (List.mem_range.2 hsn)
      simp only [Bool.or_eq_true, Bool.not_eq_true'] at h2
      rcases h2 with (h2 | h2) | h2
      · exact h2
      · obtain rfl : s = i := by simpa using h2
        rw [hl] at hsl; cases hsl
      · exfalso
        have := deps_listed hD S.size S.down (s + 1) s (by omega) hsn (fun o' ho' e he hb => S.down s o' ho' hsl e he hb) i (by simpa using h2)
        rw [hl] at this
        cases this.2
    have hol : ops.toList[i]? = some o := by simpa using ho
    have hstep := steps_at F I hs i o hol
    rw [Nat.zero_add] at hstep
    have hstep := hstep vs w S.inv hneed
    have hcount : ∀ k, (List.range ops.size).countP (fun j => !(listed.setIfInBounds i true).getD j true) = k → k ≤ n := by
      rintro k rfl
      have h0 := hc _ rfl
      have hlt2 : (List.range ops.size).countP (fun j => !(listed.setIfInBounds i true).getD j true) < (List.range ops.size).countP (fun j => !listed.getD j true) := by
        have hp := List.countP_eq_countP_filter_add (List.range ops.size) (fun j => !listed.getD j true) (fun j => j == i)
        have hq := List.countP_eq_countP_filter_add (List.range ops.size) (fun j => !(listed.setIfInBounds i true).getD j true) (fun j => j == i)
        have e1 : ((List.range ops.size).filter fun j => !(j == i)).countP (fun j => !(listed.setIfInBounds i true).getD j true) = ((List.range ops.size).filter fun j => !(j == i)).countP (fun j => !listed.getD j true) := by
          refine List.countP_congr fun j hj => ?_
          rw [List.mem_filter] at hj
          rw [getD_set hls, if_neg (by simpa using hj.2)]
        have e2 : ((List.range ops.size).filter fun j => j == i).countP (fun j => !(listed.setIfInBounds i true).getD j true) = 0 := by
          rw [List.countP_eq_zero]
          intro j hj
          rw [List.mem_filter] at hj
          rw [getD_set hls, if_pos (by simpa using hj.2)]
          simp
        have e3 : 0 < ((List.range ops.size).filter fun j => j == i).countP (fun j => !listed.getD j true) := List.countP_pos_iff.2 ⟨i, List.mem_filter.2 ⟨List.mem_range.2 hlt, by simp⟩, by simp [hl]⟩
        omega
      omega
    have hdown : ∀ k o', ops[k]? = some o' → (listed.setIfInBounds i true).getD k true = true → ∀ e ∈ o'.after, Region.binds .any e = true → (listed.setIfInBounds i true).getD e.on false = true := fun k o' ho' hk e he hb => by
      rw [getD_set hls] at hk
      rw [getD_set' hls]
      split
      · rfl
      · by_cases hki : k = i
        · subst hki
          rw [ho] at ho'
          cases ho'
          exact hall e he hb
        · rw [if_neg hki] at hk
          exact S.down k o' ho' hk e he hb
    have hdj : ∀ j k, listed.getD j true = true → k ∈ D.getD j [] → listed.getD k true = true := fun j k hjl hk => by
      by_cases hj : j < ops.size
      · exact (deps_listed hD S.size S.down (j + 1) j (by omega) hj (fun o' ho' e he hb => S.down j o' ho' hjl e he hb) k hk).2
      · have hlen : D.length = ops.size := by
          have h7 : (D.length == ops.size) = true := (Bool.and_eq_true _ _ ▸ hD : _ ∧ _).1
          simpa using h7
        simp [List.getElem?_eq_none (show D.length ≤ j by omega)] at hk
    have nxt : ∀ v w', I w' → fact F i v vs w' → (Below w.heap.size w w' ∨ (O.getD i [] ≠ [] ∧ ∀ us : Nat → Value, AllL (fun j => fact F j (us j) us w → fact F j (us j) us w') (O.getD i []))) → St F I m ops a0 kills (listed.setIfInBounds i true) ((fill vs ops.toList 0 a0).put o.dst v) w' := fun v w' hI hfi hor => by
      refine ⟨by simp [S.size], hdown, hI, fun j => if j = 0 + i then v else vs j, fill_set vs v ops.toList 0 i a0 o hd hol, fun j hj hjl hk => ?_⟩
      simp only [Nat.zero_add]
      have keep : ∀ u, (j = i ∨ listed.getD j true = true) → fact F j u vs w' → fact F j u (fun j => if j = i then v else vs j) w' := fun u hjl h => by
        unfold fact at h ⊢
        cases hfj : F[j]? with
        | none => trivial
        | some f =>
          rw [hfj] at h
          simp only at h ⊢
          have e : f.at'.map (fun j => if j = i then v else vs j) = f.at'.map vs := List.map_congr_left fun k hk => by
            have hlF : j < F.length := (List.getElem?_eq_some_iff.1 hfj).1
            have h1 := List.all_eq_true.1 hF j (List.mem_range.2 hlF)
            rw [hfj] at h1
            have h2 : k ∈ D.getD j [] := by simpa using List.all_eq_true.1 h1 k hk
            refine if_neg fun e => ?_
            rw [e] at h2
            rcases hjl with hji | hjl
            · rw [hji] at h2
              exact absurd (hdl i h2).1 (Nat.lt_irrefl _)
            · have := hdj j i hjl h2
              rw [hl] at this
              cases this
          rw [e]; exact h
      by_cases hji : j = i
      · subst hji
        refine keep _ (.inl rfl) ?_
        rw [if_pos rfl]; exact hfi
      · rw [if_neg hji]
        rw [getD_set hls, if_neg hji] at hjl
        refine keep _ (.inr hjl) ?_
        have hold := hf j hj hjl fun s hsn hsl => hk s hsn (by
            rw [getD_set hls]
            split
            · rfl
            · exact hsl)
        rcases hor with hor | hor
        · exact hst j _ _ _ _ hor hold
        · refine allL_iff.1 (hor.2 vs) j ?_ hold
          suffices h9 : j ∈ others D kills ops.size m i from by
            have h8 := hNi.2
            rw [Bool.or_eq_true] at h8
            rcases h8 with h8 | h8
            · exact absurd (List.isEmpty_iff.1 h8) hor.1
            · simpa using List.all_eq_true.1 h8 j h9
          unfold others
          rw [List.mem_filter]
          refine ⟨List.mem_range.2 hj, ?_⟩
          have h3 := hk i hlt (by rw [getD_set hls, if_pos rfl])
          simp only [Bool.and_eq_true, bne_iff_ne, ne_eq, Bool.not_eq_true']
          refine ⟨⟨hji, h3⟩, ?_⟩
          cases hc2 : (D.getD j []).contains i with
          | false => rfl
          | true =>
            exfalso
            have := hdj j i hjl (by simpa using hc2)
            rw [hl] at this
            cases this
    unfold wpOp
    simp only [ho]
    rcases hstep with ⟨hw, hk⟩ | ⟨hw, hfu⟩
    · rw [if_pos hw]
      exact .inl (hk _ fun v w' hI hfi hor => ih _ _ _ hcount (nxt v w' hI hfi hor))
    · rw [if_neg (by rw [hw]; decide)]
      exact ih _ _ _ hcount (nxt undef w S.inv hfu (.inl (Below.refl _ _)))

/-- THE BEGINNING. F: what each operation's value is, in the world that it left, as long as all that is only grows; kills: whose facts an operation uses up. -/
theorem region_facts {id : Nat} {ops : Array Oper} {a : Act} {w : World} (m : Nat) (kills N O : List (List Nat)) (L : List Nat) (hm : P.follows .mixedOrders = true)
    (hok : ((okDeps ops (deps ops) && okDst ops.toList) && okNeeds (deps ops) kills N O L ops.size m) = true) (hF : okFacts F (deps ops) = true)
    (hst : ∀ j v vs w w', Below w.heap.size w w' → fact F j v vs w → fact F j v vs w') (hI : I w.drew) (h0 : ∀ j vs, ops.size ≤ j → j < ops.size + m → fact F j (vs j) vs w.drew)
    (hs : Steps F I P Q ops a N O ops.toList 0)
    (hend : ∀ vs w, I w → AllL (fun j => fact F j (vs j) vs w) L → Q .normal (fill vs ops.toList 0 a) w) : (Code.region id ops true).wp P Q a w := by
  rw [Bool.and_eq_true, Bool.and_eq_true] at hok
  refine wp_region_any hm (facts_any F I m (deps ops) kills N O L hok.1.1 hok.1.2 hF hok.2 hst hs hend ops.size _ a w.drew (fun k hk => ?_) ⟨by simp, fun k o ho hl => ?_, hI, ?_⟩)
  · rw [← hk]
    exact Nat.le_trans List.countP_le_length (by simp)
  · exfalso
    have hlt : k < ops.size := (Array.getElem?_eq_some_iff.1 ho).1
    simp [hlt] at hl
  · obtain ⟨vs0, h9⟩ : ∃ vs0 : Nat → Value, ∀ i o, ops.toList[i]? = some o → vs0 i = match o.dst with | some d => a.tmps.getD d undef | none => undef :=
      ⟨fun i => match (ops.toList[i]?).bind (·.dst) with | some d => a.tmps.getD d undef | none => undef, fun i o ho => by simp only [ho, Option.bind_some]⟩
    refine ⟨vs0, (fill_self a ops.toList 0 _ fun i o ho => ?_).symm, fun j hj hl _ => ?_⟩
    · rw [Nat.zero_add]
      exact h9 i o ho
    · by_cases hj2 : j < ops.size
      · exfalso
        simp [hj2] at hl
      · exact h0 j vs0 (by omega) hj
end

/-! ### The steps -/
section
variable {P : Program} {Q : Exit → Act → World → Prop} {F : List Fact} {I : World → Prop} {ops : Array Oper} {a0 : Act} {need oth : List Nat} {i : Nat} {o : Oper}
abbrev at_ (ops : Array Oper) (a0 : Act) (vs : Nat → Value) : Act := fill vs ops.toList 0 a0
theorem wanted_none {y : Nat → Option Bool} (h : o.guard = none) : Region.wanted o y = true := by simp [Region.wanted, h]
/-- What yields a value and leaves the world. -/
theorem st_val (hg : o.guard = none) (h : ∀ vs w, I w → AllL (fun j => fact F j (vs j) vs w) need → ∃ v, (execOp (at_ ops a0 vs).eval o).run P w = .ok (.value v) w ∧ fact F i v vs w) : Step F I P Q ops a0 need oth i o := fun vs w hI hn => by
  obtain ⟨v, h1, h2⟩ := h vs w hI hn
  refine .inl ⟨wanted_none hg, fun K hK => ?_⟩
  unfold Oper.wp
  rw [h1]
  exact hK v w hI h2 (.inl (Below.refl _ _))
/-- What makes memory. -/
theorem st_grow (hg : o.guard = none) (hI' : ∀ w w', Below w.heap.size w w' → I w → I w') (h : ∀ vs w, I w → AllL (fun j => fact F j (vs j) vs w) need → ∃ v w', (execOp (at_ ops a0 vs).eval o).run P w = .ok (.value v) w' ∧ Below w.heap.size w w' ∧ fact F i v vs w') : Step F I P Q ops a0 need oth i o := fun vs w hI hn => by
  obtain ⟨v, w', h1, h2, h3⟩ := h vs w hI hn
  refine .inl ⟨wanted_none hg, fun K hK => ?_⟩
  unfold Oper.wp
  rw [h1]
  exact hK v w' (hI' _ _ h2 hI) h3 (.inl h2)
/-- A call. -/
theorem st_call (hg : o.guard = none) (hI' : ∀ w w', Below w.heap.size w w' → I w → I w') (h : ∀ vs w, I w → AllL (fun j => fact F j (vs j) vs w) need → ∃ f args R, (execOp (at_ ops a0 vs).eval o).run P w = .ok (.enter f args) w ∧ Calls P f args w R ∧ ∀ e w', R e w' → ∃ v, e = .returned v ∧ Below w.heap.size w w' ∧ fact F i v vs w') : Step F I P Q ops a0 need oth i o := fun vs w hI hn => by
  obtain ⟨f, args, R, h1, h2, h3⟩ := h vs w hI hn
  refine .inl ⟨wanted_none hg, fun K hK => ?_⟩
  unfold Oper.wp
  rw [h1]
  refine Calls.mono h2 fun e w' he => ?_
  obtain ⟨v, rfl, h4, h5⟩ := h3 e w' he
  exact hK v w' (hI' _ _ h4 hI) h5 (.inl h4)
/-- What writes. -/
theorem st_write (hg : o.guard = none) (hoth : oth ≠ []) (h : ∀ vs w, I w → AllL (fun j => fact F j (vs j) vs w) need → ∃ w', (execOp (at_ ops a0 vs).eval o).run P w = .ok .skip w' ∧ I w' ∧ fact F i undef vs w' ∧ ∀ us : Nat → Value, AllL (fun j => fact F j (us j) us w → fact F j (us j) us w') oth) : Step F I P Q ops a0 need oth i o := fun vs w hI hn => by
  obtain ⟨w', h1, h2, h3, h4⟩ := h vs w hI hn
  refine .inl ⟨wanted_none hg, fun K hK => ?_⟩
  unfold Oper.wp
  rw [h1]
  exact hK undef w' h2 h3 (.inr ⟨hoth, h4⟩)

/-! ### What an operation does -/
variable {ρ : Operand → Value} {w : World}
theorem ex_move {x : Operand} (ho : o.op = .move x) : (execOp ρ o).run P w = .ok (.value (ρ x)) w := by unfold execOp; simp only [ho]; rfl
theorem ex_assign {x : Operand} (ho : o.op = .assign x) : (execOp ρ o).run P w = .ok (.value (ρ x)) w := by unfold execOp; simp only [ho]; rfl
theorem ex_extract {x : Operand} {n : Nat} {ts : Array Value} {v : Value} (ho : o.op = .extract x n) (hx : ρ x = .tuple ts) (hv : ts[n]? = some v) : (execOp ρ o).run P w = .ok (.value v) w := by
  unfold execOp; simp only [ho, hx, Instr.extract, hv]; rfl
theorem ex_pick {c x y : Operand} {b : Bool} (ho : o.op = .pick c x y) (hc : ρ c = .bool b) : (execOp ρ o).run P w = .ok (.value (if b then ρ x else ρ y)) w := by
  unfold execOp; simp only [ho, hc]; cases b <;> rfl
theorem ex_call {f : Nat} {args : Array Operand} {ts : Array TypeId} (ho : o.op = .call { callee := .value (.func f), args := args, argTypes := ts }) (hf : ρ (.func f) = .func (.func f) #[] #[]) (hc : ∀ as : Array Value, (callFunc f as).run P w = .ok (.enter f as) w) : (execOp ρ o).run P w = .ok (.enter f (args.map ρ)) w := by
  unfold execOp
  simp only [ho, resolve, hf, Deferred.ofValue, Sem.run_bind, Sem.run_pure, Result.andThen_ok, invoke, Array.append_empty, Array.empty_append]
  exact hc _
/-- A struct's home. -/
def Home (w : World) (b : Nat) (t : TypeId) (cs : Array Value) : Prop := w.heap[b]? = some (.cells cs t (0, 0))
theorem Home.lt {w : World} {b : Nat} {t : TypeId} {cs : Array Value} (h : Home w b t cs) : b < w.heap.size := by
  rcases Nat.lt_or_ge b w.heap.size with h' | h'
  · exact h'
  · unfold Home at h; simp [Array.getElem?_eq_none h'] at h
theorem Home.below {w w' : World} {b : Nat} {t : TypeId} {cs : Array Value} (h : Home w b t cs) (hb : Below w.heap.size w w') : Home w' b t cs := (hb.block b h.lt).trans h
theorem ex_load {t : TypeId} {x : Operand} {b : Nat} {cs : Array Value} {t' : TypeId} {d : TypeDesc} (ho : o.op = .load t x) (hx : ρ x = .pointer (some ⟨b, 0, none⟩)) (h : Home w b t' cs) (hu : P.underlying t = some d) (hd : (match d with | .struct _ | .array _ _ => true | _ => false) = true) (hi : (P.info? t).map (·.size) = some cs.size) : (execOp ρ o).run P w = .ok (.value (.agg cs)) w := by
  unfold execOp
  simp only [ho, hx, Instr.loadAt, Instr.sureAddr, Sem.run_bind, Sem.run_pure, Result.andThen_ok, run_loadVar_row w b t' t cs (0, 0) d h hu hd hi]
theorem ex_store {t : TypeId} {x y : Operand} {b : Nat} {cs old : Array Value} {t' : TypeId} (ho : o.op = .store t x y) (hx : ρ x = .pointer (some ⟨b, 0, none⟩)) (hy : ρ y = .agg cs) (h : Home w b t' old) (hi : (P.info? t).map (·.size) = some cs.size) (hs : old.size = cs.size) (h1 : cs.all (·.oneCell') = true) : (execOp ρ o).run P w = .ok .skip (w.setRow b cs) := by
  unfold execOp
  simp only [ho, hx, hy, Instr.storeAt, Instr.sureAddr, Sem.run_bind, Sem.run_pure, Result.andThen_ok, run_storeVar_row w b t' t old cs h hi hs h1]
theorem home_set {w : World} {b : Nat} {t : TypeId} {cs old : Array Value} (h : Home w b t old) : Home (w.setRow b cs) b t cs := setRow_heap w b old cs t (0, 0) h
theorem home_other {w : World} {b c : Nat} {t : TypeId} {cs us : Array Value} (h : Home w b t cs) (hc : b ≠ c) : Home (w.setRow c us) b t cs := (setRow_other w c b us hc).trans h
end
end Go.Proofs.YtfhfpanemalbmaaDoor.Facts
