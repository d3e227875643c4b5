/- A region that draws its order, walked in ONE order (a plan), also where some operations are guarded off and some calls make memory: what only reads may be taken first, in every world that meets S; what changes the world must be alone when it comes up. Over the library's wpAnyH. -/
import Derived.OrdersHeld
import Derived.KernelRfl
import Derived.Tactics
namespace Go.Proofs.YtfhfpanemalbmaaDoor.Seq
section
variable {P : Program} {ops : Array Oper} {Q : Exit → Act → World → Prop} {S : World → Prop} {E : Act → World → Prop}

/-- The operations in the plan's order; behind them E. -/
def wpSeq (P : Program) (ops : Array Oper) (Q : Exit → Act → World → Prop) (S : World → Prop) (E : Act → World → Prop) : List (Oper × Bool) → Act → World → Prop
  | [], a, w => E a w
  | (o, false) :: r, a, w => ∃ v, YieldsIf P ops S o v a ∧ wpSeq P ops Q S E r (a.put o.dst v) w
  | (o, true) :: r, a, w => (Region.wanted o (yielded ops a.tmps) = true ∧ o.wp P a w (fun a' w' => S w' ∧ wpSeq P ops Q S E r a' w') Q) ∨ (Region.wanted o (yielded ops a.tmps) = false ∧ S w ∧ wpSeq P ops Q S E r (a.put o.dst undef) w)

def lay (ops : List Oper) : List (Nat × Bool) → List (Oper × Bool)
  | [] => []
  | (i, b) :: r => match ops[i]? with
    | some o => (o, b) :: lay ops r
    | none => lay ops r

/-- The plan may be gone; what is listed behind it. -/
def planTo (ops : Array Oper) : List (Nat × Bool) → Array Bool → Array Bool → Bool
  | [], l, m => l == m
  | (i, false) :: r, l, m => Region.free .any ops l i && (Region.ready .any ops l).contains i && planTo ops r (l.setIfInBounds i true) m
  | (i, true) :: r, l, m => Region.ready .any ops l == [i] && planTo ops r (l.setIfInBounds i true) m
def planOk (ops : Array Oper) : List (Nat × Bool) → Array Bool → Bool
  | [], l => (Region.ready .any ops l).isEmpty
  | (i, false) :: r, l => Region.free .any ops l i && (Region.ready .any ops l).contains i && planOk ops r (l.setIfInBounds i true)
  | (i, true) :: r, l => Region.ready .any ops l == [i] && planOk ops r (l.setIfInBounds i true)

theorem seq_gen (hs : Region.noSelect ops = true) (hQ : ∀ c a d v w, Q (.panic c) (a.put d v) w → Q (.panic c) a w) (good : List (Nat × Bool) → Array Bool → Bool) (n : Nat)
    (h0 : ∀ l a w, good [] l = true → S w → E a w → wpAnyH P .any ops Q S n l a w)
    (h1 : ∀ i r l, good ((i, false) :: r) l = (Region.free .any ops l i && (Region.ready .any ops l).contains i && good r (l.setIfInBounds i true)))
    (h2 : ∀ i r l, good ((i, true) :: r) l = (Region.ready .any ops l == [i] && good r (l.setIfInBounds i true))) :
    ∀ (plan : List (Nat × Bool)) (listed : Array Bool) (a : Act) (w : World), good plan listed = true → S w → wpSeq P ops Q S E (lay ops.toList plan) a w → wpAnyH P .any ops Q S (plan.length + n) listed a w
  | [], listed, a, w, hp, hS, h => by
    rw [List.length_nil, Nat.zero_add]; exact h0 _ _ _ hp hS h
  | (i, false) :: r, listed, a, w, hp, hS, h => by
    rw [h1] at hp
    simp only [Bool.and_eq_true] at hp
    obtain ⟨⟨hf, hr⟩, hp⟩ := hp
    obtain ⟨_, oi, hoi, _⟩ := mem_ready.1 (show i ∈ Region.ready .any ops listed by simpa using hr)
    have e : lay ops.toList ((i, false) :: r) = (oi, false) :: lay ops.toList r := by simp only [lay, Array.getElem?_toList, hoi]
    rw [e] at h
    obtain ⟨v, hy, h⟩ := h
    rw [List.length_cons, Nat.add_right_comm]
    exact wpAnyH_take hoi hs hf hr (fun c a w => hQ c a _ v w) hy hS (seq_gen hs hQ good n h0 h1 h2 r _ _ _ hp hS h)
  | (i, true) :: r, listed, a, w, hp, hS, h => by
    rw [h2] at hp
    simp only [Bool.and_eq_true, beq_iff_eq] at hp
    obtain ⟨hr, hp⟩ := hp
    obtain ⟨_, oi, hoi, _⟩ := mem_ready.1 (show i ∈ Region.ready .any ops listed by rw [hr]; simp)
    have e : lay ops.toList ((i, true) :: r) = (oi, true) :: lay ops.toList r := by simp only [lay, Array.getElem?_toList, hoi]
    rw [e] at h
    rw [List.length_cons, Nat.add_right_comm]
    refine ⟨fun h0 => (by rw [hr] at h0; cases h0), fun j hj => ?_⟩
    rw [hr, List.mem_singleton] at hj
    subst hj
    unfold wpOp
    simp only [hoi]
    rcases h with ⟨hw, h⟩ | ⟨hw, hS', h⟩
    · rw [if_pos hw]
      exact .inl (Oper.wp_mono (fun a' w' ⟨h3, h4⟩ => ⟨h3, seq_gen hs hQ good n h0 h1 h2 r _ _ _ hp h3 h4⟩) h)
    · rw [if_neg (by rw [hw]; decide)]
      exact ⟨hS', seq_gen hs hQ good n h0 h1 h2 r _ _ _ hp hS' h⟩

theorem seq_held (hs : Region.noSelect ops = true) (hQ : ∀ c a d v w, Q (.panic c) (a.put d v) w → Q (.panic c) a w) (plan : List (Nat × Bool)) (listed : Array Bool) (a : Act) (w : World) (hp : planOk ops plan listed = true) (hS : S w)
    (h : wpSeq P ops Q S (Q .normal) (lay ops.toList plan) a w) : wpAnyH P .any ops Q S plan.length listed a w :=
  seq_gen hs hQ (planOk ops) 0 (fun _ _ _ hp _ h => ⟨List.isEmpty_iff.1 hp, h⟩) (fun _ _ _ => rfl) (fun _ _ _ => rfl) plan listed a w hp hS h

/-- THE BEGINNING. -/
theorem region_seq (plan : List (Nat × Bool)) {id : Nat} {a : Act} {w : World} (hm : P.follows .mixedOrders = true)
    (hok : (Region.noSelect ops && (plan.length == ops.size && planOk ops plan (Array.replicate ops.size false))) = true)
    (hQ : ∀ c a d v w, Q (.panic c) (a.put d v) w → Q (.panic c) a w) (hS : S w.drew)
    (h : wpSeq P ops Q S (Q .normal) (lay ops.toList plan) a w.drew) : (Code.region id ops true).wp P Q a w := by
  simp only [Bool.and_eq_true, beq_iff_eq] at hok
  obtain ⟨hs, hl, hp⟩ := hok
  refine wp_region_held (S := S) hm ?_
  have := seq_held hs hQ plan _ a w.drew hp hS h
  rw [hl] at this
  exact this

/-- THE BEGINNING, the world forgotten but for S. -/
theorem region_any (plan : List (Nat × Bool)) {id : Nat} {a : Act} {w : World} (hm : P.follows .mixedOrders = true)
    (hok : (Region.noSelect ops && (plan.length == ops.size && planOk ops plan (Array.replicate ops.size false))) = true)
    (hQ : ∀ c a d v w, Q (.panic c) (a.put d v) w → Q (.panic c) a w) (hS : S w.drew)
    (h : ∀ w1, S w1 → wpSeq P ops Q S (Q .normal) (lay ops.toList plan) a w1) : (Code.region id ops true).wp P Q a w := region_seq plan hm hok hQ hS (h _ hS)

/-- THE BEGINNING, where the order parts behind the plan: n operations are left, m is listed. -/
theorem region_part (plan : List (Nat × Bool)) (m : Array Bool) (n : Nat) {id : Nat} {a : Act} {w : World} (hm : P.follows .mixedOrders = true)
    (hok : (Region.noSelect ops && (plan.length + n == ops.size && planTo ops plan (Array.replicate ops.size false) m)) = true)
    (hQ : ∀ c a d v w, Q (.panic c) (a.put d v) w → Q (.panic c) a w) (hS : S w.drew)
    (h : wpSeq P ops Q S (fun a' w' => wpAnyH P .any ops Q S n m a' w') (lay ops.toList plan) a w.drew) : (Code.region id ops true).wp P Q a w := by
  simp only [Bool.and_eq_true, beq_iff_eq] at hok
  obtain ⟨hs, hl, hp⟩ := hok
  refine wp_region_held (S := S) hm ?_
  have := seq_gen (E := fun a' w' => wpAnyH P .any ops Q S n m a' w') hs hQ (fun p l => planTo ops p l m) n (fun l a w hp _ h => by
    simp only [planTo, beq_iff_eq] at hp
    subst hp
    exact h) (fun _ _ _ => rfl) (fun _ _ _ => rfl) plan _ a w.drew hp hS h
  rw [hl] at this
  exact this
/-- Where two may come up. -/
theorem either (i j : Nat) (oi oj : Oper) {n : Nat} {m : Array Bool} {a : Act} {w : World} (hr : (Region.ready .any ops m == [i, j]) = true) (hi : ops[i]? = some oi) (hj : ops[j]? = some oj)
    (wi : Region.wanted oi (yielded ops a.tmps) = true) (wj : Region.wanted oj (yielded ops a.tmps) = true)
    (h1 : ∀ K : Act → World → Prop, (∀ a' w', S w' → wpAnyH P .any ops Q S n (m.setIfInBounds i true) a' w' → K a' w') → oi.wp P a w K Q)
    (h2 : ∀ K : Act → World → Prop, (∀ a' w', S w' → wpAnyH P .any ops Q S n (m.setIfInBounds j true) a' w' → K a' w') → oj.wp P a w K Q) : wpAnyH P .any ops Q S (n + 1) m a w := by
  simp only [beq_iff_eq] at hr
  refine ⟨fun h0 => (by rw [hr] at h0; cases h0), fun k hk => ?_⟩
  rw [hr] at hk
  simp only [List.mem_cons, List.not_mem_nil, or_false] at hk
  unfold wpOp
  rcases hk with rfl | rfl
  · simp only [hi]; rw [if_pos wi]; exact .inl (h1 _ fun _ _ a b => ⟨a, b⟩)
  · simp only [hj]; rw [if_pos wj]; exact .inl (h2 _ fun _ _ a b => ⟨a, b⟩)
/-- On in one order. -/
theorem on_seq (plan : List (Nat × Bool)) {m : Array Bool} {n : Nat} {a : Act} {w : World} (hok : (Region.noSelect ops && (plan.length == n && planOk ops plan m)) = true)
    (hQ : ∀ c a d v w, Q (.panic c) (a.put d v) w → Q (.panic c) a w) (hS : S w) (h : wpSeq P ops Q S (Q .normal) (lay ops.toList plan) a w) : wpAnyH P .any ops Q S n m a w := by
  simp only [Bool.and_eq_true, beq_iff_eq] at hok
  obtain ⟨hs, hl, hp⟩ := hok
  have := seq_held hs hQ plan m a w hp hS h
  rwa [hl] at this

theorem seq_nil {a : Act} {w : World} (h : E a w) : wpSeq P ops Q S E [] a w := h
theorem seq_skip {o : Oper} {r : List (Oper × Bool)} {a : Act} {w : World} (hw : Region.wanted o (yielded ops a.tmps) = false) (h : wpSeq P ops Q S E r (a.put o.dst undef) w) : wpSeq P ops Q S E ((o, false) :: r) a w := ⟨undef, .inr ⟨hw, rfl⟩, h⟩
theorem seq_read {o : Oper} {r : List (Oper × Bool)} {a : Act} {w : World} {v : Value} (hw : Region.wanted o (yielded ops a.tmps) = true)
    (hy : ∀ w', S w' → (execOp a.eval o).run P w' = .ok (.value v) w') (h : wpSeq P ops Q S E r (a.put o.dst v) w) : wpSeq P ops Q S E ((o, false) :: r) a w := ⟨v, .inl ⟨hw, hy⟩, h⟩
theorem seq_off {o : Oper} {r : List (Oper × Bool)} {a : Act} {w : World} (hw : Region.wanted o (yielded ops a.tmps) = false) (hS : S w) (h : wpSeq P ops Q S E r (a.put o.dst undef) w) : wpSeq P ops Q S E ((o, true) :: r) a w := .inr ⟨hw, hS, h⟩
theorem seq_do {o : Oper} {r : List (Oper × Bool)} {a : Act} {w : World} (hw : Region.wanted o (yielded ops a.tmps) = true)
    (h : ∀ K : Act → World → Prop, (∀ a' w', S w' → wpSeq P ops Q S E r a' w' → K a' w') → o.wp P a w K Q) : wpSeq P ops Q S E ((o, true) :: r) a w := .inl ⟨hw, h _ fun _ _ h1 h2 => ⟨h1, h2⟩⟩
end
end Go.Proofs.YtfhfpanemalbmaaDoor.Seq
