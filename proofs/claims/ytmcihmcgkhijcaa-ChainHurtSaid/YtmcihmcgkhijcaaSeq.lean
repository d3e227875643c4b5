/- A region that draws its order, walked in ONE order (a plan), also where some operations are guarded off and some calls make memory: what only reads may be taken first, in every world that meets S; what changes the world must be alone when it comes up. Over the library's wpAnyH. -/
import Derived.OrdersHeld
import Derived.KernelRfl
import Derived.Tactics
namespace Go.Proofs.Ytmcihmcgkhijcaa.Seq
section
variable {P : Program} {ops : Array Oper} {Q : Exit → Act → World → Prop} {S : World → Prop}

def wpSeq (P : Program) (ops : Array Oper) (Q : Exit → Act → World → Prop) (S : World → Prop) : List (Oper × Bool) → Act → World → Prop
  | [], a, w => Q .normal a w
  | (o, false) :: r, a, w => ∃ v, YieldsIf P ops S o v a ∧ wpSeq P ops Q S r (a.put o.dst v) w
  | (o, true) :: r, a, w => (Region.wanted o (yielded ops a.tmps) = true ∧ o.wp P a w (fun a' w' => S w' ∧ wpSeq P ops Q S r a' w') Q) ∨ (Region.wanted o (yielded ops a.tmps) = false ∧ S w ∧ wpSeq P ops Q S r (a.put o.dst undef) w)

def lay (ops : List Oper) : List (Nat × Bool) → List (Oper × Bool)
  | [] => []
  | (i, b) :: r => match ops[i]? with
    | some o => (o, b) :: lay ops r
    | none => lay ops r

def planOk (ops : Array Oper) : List (Nat × Bool) → Array Bool → Bool
  | [], l => (Region.ready .any ops l).isEmpty
  | (i, false) :: r, l => Region.free .any ops l i && (Region.ready .any ops l).contains i && planOk ops r (l.setIfInBounds i true)
  | (i, true) :: r, l => Region.ready .any ops l == [i] && planOk ops r (l.setIfInBounds i true)

theorem seq_held (hs : Region.noSelect ops = true) (hQ : ∀ c a d v w, Q (.panic c) (a.put d v) w → Q (.panic c) a w) :
    ∀ (plan : List (Nat × Bool)) (listed : Array Bool) (a : Act) (w : World), planOk ops plan listed = true → S w → wpSeq P ops Q S (lay ops.toList plan) a w → wpAnyH P .any ops Q S plan.length listed a w
  | [], listed, a, w, hp, _, h => ⟨List.isEmpty_iff.1 hp, h⟩
  | (i, false) :: r, listed, a, w, hp, hS, h => by
    simp only [planOk, Bool.and_eq_true] at hp
    obtain ⟨⟨hf, hr⟩, hp⟩ := hp
    obtain ⟨_, oi, hoi, _⟩ := mem_ready.1 (show i ∈ Region.ready .any ops listed by simpa using hr)
    have e : lay ops.toList ((i, false) :: r) = (oi, false) :: lay ops.toList r := by simp only [lay, Array.getElem?_toList, hoi]
    rw [e] at h
    obtain ⟨v, hy, h⟩ := h
    exact wpAnyH_take hoi hs hf hr (fun c a w => hQ c a _ v w) hy hS (seq_held hs hQ r _ _ _ hp hS h)
  | (i, true) :: r, listed, a, w, hp, hS, h => by
    simp only [planOk, Bool.and_eq_true, beq_iff_eq] at hp
    obtain ⟨hr, hp⟩ := hp
    obtain ⟨_, oi, hoi, _⟩ := mem_ready.1 (show i ∈ Region.ready .any ops listed by rw [hr]; simp)
    have e : lay ops.toList ((i, true) :: r) = (oi, true) :: lay ops.toList r := by simp only [lay, Array.getElem?_toList, hoi]
    rw [e] at h
    refine ⟨fun h0 => (by rw [hr] at h0; cases h0), fun j hj => ?_⟩
    rw [hr, List.mem_singleton] at hj
    subst hj
    unfold wpOp
    simp only [hoi]
    rcases h with ⟨hw, h⟩ | ⟨hw, hS', h⟩
    · rw [if_pos hw]
      exact .inl (Oper.wp_mono (fun a' w' ⟨h1, h2⟩ => ⟨h1, seq_held hs hQ r _ _ _ hp h1 h2⟩) h)
    · rw [if_neg (by rw [hw]; decide)]
      exact ⟨hS', seq_held hs hQ r _ _ _ hp hS' h⟩

/-- THE BEGINNING. -/
theorem region_seq (plan : List (Nat × Bool)) {id : Nat} {a : Act} {w : World} (hm : P.follows .mixedOrders = true)
    (hok : (Region.noSelect ops && (plan.length == ops.size && planOk ops plan (Array.replicate ops.size false))) = true)
    (hQ : ∀ c a d v w, Q (.panic c) (a.put d v) w → Q (.panic c) a w) (hS : S w.drew)
    (h : wpSeq P ops Q S (lay ops.toList plan) a w.drew) : (Code.region id ops true).wp P Q a w := by
  simp only [Bool.and_eq_true, beq_iff_eq] at hok
  obtain ⟨hs, hl, hp⟩ := hok
  refine wp_region_held (S := S) hm ?_
  have := seq_held hs hQ plan _ a w.drew hp hS h
  rw [hl] at this
  exact this

theorem seq_nil {a : Act} {w : World} (h : Q .normal a w) : wpSeq P ops Q S [] a w := h
theorem seq_skip {o : Oper} {r : List (Oper × Bool)} {a : Act} {w : World} (hw : Region.wanted o (yielded ops a.tmps) = false) (h : wpSeq P ops Q S r (a.put o.dst undef) w) : wpSeq P ops Q S ((o, false) :: r) a w := ⟨undef, .inr ⟨hw, rfl⟩, h⟩
theorem seq_read {o : Oper} {r : List (Oper × Bool)} {a : Act} {w : World} {v : Value} (hw : Region.wanted o (yielded ops a.tmps) = true)
    (hy : ∀ w', S w' → (execOp a.eval o).run P w' = .ok (.value v) w') (h : wpSeq P ops Q S r (a.put o.dst v) w) : wpSeq P ops Q S ((o, false) :: r) a w := ⟨v, .inl ⟨hw, hy⟩, h⟩
theorem seq_off {o : Oper} {r : List (Oper × Bool)} {a : Act} {w : World} (hw : Region.wanted o (yielded ops a.tmps) = false) (hS : S w) (h : wpSeq P ops Q S r (a.put o.dst undef) w) : wpSeq P ops Q S ((o, true) :: r) a w := .inr ⟨hw, hS, h⟩
theorem seq_do {o : Oper} {r : List (Oper × Bool)} {a : Act} {w : World} (hw : Region.wanted o (yielded ops a.tmps) = true)
    (h : ∀ K : Act → World → Prop, (∀ a' w', S w' → wpSeq P ops Q S r a' w' → K a' w') → o.wp P a w K Q) : wpSeq P ops Q S ((o, true) :: r) a w := .inl ⟨hw, h _ fun _ _ h1 h2 => ⟨h1, h2⟩⟩
end
end Go.Proofs.Ytmcihmcgkhijcaa.Seq
