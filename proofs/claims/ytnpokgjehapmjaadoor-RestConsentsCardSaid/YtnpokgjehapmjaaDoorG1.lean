/- Texts of the proof, joined: Mem, BitsP, WordS, SixtyP, Seq, BitsS, BitsT, WordP, OneB, WordW. -/
import Derived.WalkKit
import Derived.Below
import Derived.OwnWalk
import Derived.Laws.AppendOwn
import Derived.Laws.OwnMore
import Derived.Laws.AppendOwnNone
import Derived.Maps.AppendAt
import Derived.Lib.Hide
import Derived.BigQuiet
import Derived.Lib.Bytealg
import Derived.OrdersHeld
import Derived.KernelRfl
import Derived.Tactics
import Derived.Test.YtnpokgjehapmjaaDoorProg
import Derived.WalkLawsBesides
import Derived.WalkSpells
import Derived.Outline
import Derived.Deep.Light
import Derived.LoopTactic
import Derived.IntWalk
import Derived.Laws.Bits64
import Derived.Laws.BitsAllLaws
import Derived.OneCell
import Derived.RangeFuncBox
import Derived.Laws.BytesArg
import Derived.Lib.Strings
import Derived.Lib.SlTrimSet
import Derived.Laws.IdiomStrings
section
namespace Go.Proofs.YtnpokgjehapmjaaDoor.Mem
open Go.RowKit

theorem below_cat {w w1 w2 : World} (h : Below w.heap.size w w1) (h2 : Below w1.heap.size w1 w2) : Below w.heap.size w w2 := h.trans (h2.mono h.size)
theorem below_new {w w1 : World} (h : Below w.heap.size w w1) (o : Obj) : Below w.heap.size w (w1.alloc o) := h.alloc h.size _
/-- A row of cells, below block B. -/
def Row (w : World) (B : Nat) (A : Option Addr) (cs : List Value) : Prop := 0 < cs.length → ∃ b o, A = some ⟨b, o, none⟩ ∧ b < B ∧ ∀ j (hj : j < cs.length), w.cell? ⟨b, o + j, none⟩ = some cs[j]
theorem Row.below {w w' : World} {B : Nat} {A : Option Addr} {cs : List Value} (h : Row w B A cs) (hb : Below B w w') : Row w' B A cs := fun hl => by
  obtain ⟨b, o, e, hlt, hc⟩ := h hl
  exact ⟨b, o, e, hlt, fun j hj => (hb.cell (p := ⟨b, o + j, none⟩) hlt).trans (hc j hj)⟩
theorem Row.more {w : World} {B B' : Nat} {A : Option Addr} {cs : List Value} (h : Row w B A cs) (hB : B ≤ B') : Row w B' A cs := fun hl => by
  obtain ⟨b, o, e, hlt, hc⟩ := h hl
  exact ⟨b, o, e, by omega, hc⟩
theorem Row.at' {w w' : World} {A : Option Addr} {cs : List Value} (h : Row w w.heap.size A cs) (hb : Below w.heap.size w w') : Row w' w'.heap.size A cs := (h.below hb).more hb.size
theorem Row.nil (w : World) (B : Nat) (A : Option Addr) : Row w B A [] := fun h => absurd h (by decide)
theorem Row.lit (w : World) (t : TypeId) (cs : List Value) (B : Nat) (hB : w.heap.size < B) : Row (w.alloc (.cells cs.toArray t)) B (some ⟨w.heap.size, 0, none⟩) cs := fun _ => by
  refine ⟨w.heap.size, 0, rfl, hB, fun j hj => ?_⟩
  rw [Nat.zero_add]
  simp [World.cell?_alloc_new, hj]
theorem Row.drew {w : World} {B : Nat} {A : Option Addr} {cs : List Value} (h : Row w B A cs) : Row w.drew B A cs := h
/-- The cells of element j. -/
theorem Row.open' {w : World} {B : Nat} {A : Option Addr} {cs : List Value} (h : Row w B A cs) (hl : 0 < cs.length) : ∃ b o, A = some ⟨b, o, none⟩ ∧ b < B ∧ ∀ j u, cs[j]? = some u → w.cell? ⟨b, o + j, none⟩ = some u := by
  obtain ⟨b, o, e, hlt, hc⟩ := h hl
  refine ⟨b, o, e, hlt, fun j u hu => ?_⟩
  obtain ⟨hj, rfl⟩ := List.getElem?_eq_some_iff.1 hu
  exact hc j hj
theorem flat_at {α : Type} (enc : α → List Value) (size : Nat) (hs : ∀ x, (enc x).length = size) : ∀ (L : List α) (j i : Nat) (hj : j < L.length) (_hi : i < size), (L.flatMap enc)[j * size + i]? = (enc L[j])[i]?
  | x :: L, 0, i, _, hi => by
    rw [List.flatMap_cons, List.getElem?_append_left (by rw [hs]; omega)]; simp
  | x :: L, j + 1, i, hj, hi => by
    rw [List.flatMap_cons, List.getElem?_append_right (by rw [hs, Nat.add_mul]; omega), hs]
    have := flat_at enc size hs L j i (by simpa using hj) hi
    rw [show (j + 1) * size + i - size = j * size + i from by rw [Nat.add_mul]; omega, this]; rfl
theorem flat_len {α : Type} (enc : α → List Value) (size : Nat) (hs : ∀ x, (enc x).length = size) (L : List α) : (L.flatMap enc).length = L.length * size := by
  induction L with
  | nil => simp
  | cons x L ih => rw [List.flatMap_cons, List.length_append, hs, ih, List.length_cons, Nat.add_mul]; omega

/-- The cells of a row of structs, as the walk spells their addresses. -/
theorem Row.elems {w : World} {B : Nat} {A : Option Addr} {α : Type} {enc : α → List Value} {size : Nat} (hs : ∀ x, (enc x).length = size) {L : List α} (h : Row w B A (L.flatMap enc)) (h0 : 0 < size) (hl : 0 < L.length) :
    ∃ b o, A = some ⟨b, o, none⟩ ∧ b < B ∧ ∀ j (hj : j < L.length) i u, (enc L[j])[i]? = some u → w.cell? ⟨b, o + j * size + i, none⟩ = some u := by
  obtain ⟨b, o, e, hlt, hc⟩ := h.open' (by rw [flat_len enc size hs]; exact Nat.mul_pos hl h0)
  refine ⟨b, o, e, hlt, fun j hj i u hu => ?_⟩
  have hi : i < size := by
    obtain ⟨hi, _⟩ := List.getElem?_eq_some_iff.1 hu
    rwa [hs] at hi
  have := hc (j * size + i) u ((flat_at enc size hs L j i hj hi).trans hu)
  rwa [← Nat.add_assoc] at this
/-- The element type of a slice type, all that append asks of it. -/
def Elem (P : Program) (t e : TypeId) (size bytes : Nat) : Prop := ∃ (i : TypeInfo) (z : Value), P.underlying t = some (.slice e) ∧ P.info? e = some i ∧ i.zero = some z ∧ i.size = size ∧ i.bytes = bytes ∧ z.cells.size = size ∧ 0 < size
theorem Elem.mk {P : Program} {t e : TypeId} {z : Value} {size bytes : Nat} (ht : P.underlying t = some (.slice e)) (h : (P.info? e).map (fun i => (i.zero, i.size, i.bytes)) = some (some z, size, bytes)) (hz : z.cells.size = size) (hs : 0 < size) : Elem P t e size bytes := by
  obtain ⟨i0, hi, hz0, hz1, hz2⟩ := info_parts h
  exact ⟨i0, z, ht, hi, hz0, hz1, hz2, hz, hs⟩

section
variable {P : Program} {w : World}
/-- append(own, handed...), whatever was handed; at the operation. -/
theorem wp_app {o : Oper} {a : Act} {K : Act → World → Prop} {Q : Exit → Act → World → Prop} {t e : TypeId} {size bytes : Nat} (E : Elem P t e size bytes) (s x : Operand)
    (ho : o.op = .call { callee := .builtin .append, args := #[s, x], argTypes := #[t, t] })
    (base : Nat) (v : Value) (n : Nat) (xs : List Value) (hs : a.eval s = v) (hown : w.ownsRow base e size v n xs)
    (A : Option Addr) (m c : Nat) (news : List Value) (B : Nat) (hx : a.eval x = .slice A m c) (hl : news.length = m * size) (hr : Row w B A news) (h1 : ∀ u ∈ news, u.oneCell' = true) (hnil : A = none → c = 0)
    (hby : (n + m) * bytes ≤ 140737488355328) (hmax : n + m ≤ 9223372036854775807) (hbase : base ≤ w.heap.size)
    (h : ∀ v' w', w'.ownsRow base e size v' (n + m) (xs ++ news) → w.grownBy w' v.ownBlock → K (a.put o.dst v') w') : o.wp P a w K Q := by
  obtain ⟨i, z, ht, hi, hz, hsize, hbytes, hzs, hsz⟩ := E
  cases A with
  | none =>
    have hm : news = [] := by
      rcases news with _ | ⟨y, l⟩
      · rfl
      · obtain ⟨_, _, e, _⟩ := hr (by simp)
        cases e
    subst hm
    have hm0 : m = 0 := by
      rcases m with _ | m
      · rfl
      · rw [Nat.add_mul] at hl; simp at hl; omega
    subst hm0
    rw [hnil rfl] at hx
    have hrun := run_append_owned_none (P := P) (w := w) base t o.type e i size ht hi v n xs hown
    unfold Oper.wp
    simp [execOp, ho, resolve, invoke, builtin, hs, hx, hrun, Result.andThen]
    exact h v w (by simpa using hown) ⟨rfl, rfl, rfl, Nat.le_refl _, fun _ _ _ => rfl⟩
  | some ad =>
    refine wp_append_own w s x t ho base e i z size bytes ht hi hz hsize hbytes hzs hsz v n xs hs hown ad m c news hx hl ?_ h1 (by unfold maxLen; omega) hby hbase fun v' w' h2 h3 _ => h v' w' h2 h3
    intro j u hj
    obtain ⟨hjl, rfl⟩ := List.getElem?_eq_some_iff.1 hj
    obtain ⟨b, o', e', _, hc⟩ := hr (by omega)
    cases e'
    have := hc j hjl
    unfold Addr.add
    split
    · subst_vars; simpa using this
    · exact this
/-- The same, for the walk. -/
theorem app {ops : Array Oper} {rest : List Oper} {o : Oper} {a : Act} {Q : Exit → Act → World → Prop} {t e : TypeId} {size bytes : Nat} (E : Elem P t e size bytes) (hgd : o.guard = none) (s x : Operand)
    (ho : o.op = .call { callee := .builtin .append, args := #[s, x], argTypes := #[t, t] })
    (base : Nat) (v : Value) (n : Nat) (xs : List Value) (hs : a.eval s = v) (hown : w.ownsRow base e size v n xs)
    (A : Option Addr) (m c : Nat) (news : List Value) (B : Nat) (hx : a.eval x = .slice A m c) (hl : news.length = m * size) (hr : Row w B A news) (h1 : ∀ u ∈ news, u.oneCell' = true) (hnil : A = none → c = 0)
    (hby : (n + m) * bytes ≤ 140737488355328) (hmax : n + m ≤ 9223372036854775807) (hbase : base ≤ w.heap.size)
    (h : ∀ v' w', w'.ownsRow base e size v' (n + m) (xs ++ news) → w.grownBy w' v.ownBlock → wpList P ops Q rest (a.put o.dst v') w') : wpList P ops Q (o :: rest) a w :=
  wpList_plain hgd fun _ hK => wp_app E s x ho base v n xs hs hown A m c news B hx hl hr h1 hnil hby hmax hbase fun v' w' h2 h3 => hK _ _ (h v' w' h2 h3)
end

theorem own_below {w w' : World} {base : Nat} {e : TypeId} {size n : Nat} {v : Value} {xs : List Value} (h : w.ownsRow base e size v n xs) (hb : Below w.heap.size w w') : w'.ownsRow base e size v n xs :=
  h.kept (row := none) ⟨hb.os, hb.tape, hb.output, hb.size, fun i hi _ => hb.block i hi⟩ (by
    rcases hv : v.ownBlock with _ | k
    · exact .inl rfl
    · exact .inr (by simp))
/-- All blocks that p names are as they were. -/
structure Kept (p : Nat → Prop) (w w' : World) : Prop where
  os : w'.os = w.os
  tape : w'.tape = w.tape
  output : w'.output = w.output
  size : w.heap.size ≤ w'.heap.size
  block : ∀ k, k < w.heap.size → p k → w'.heap[k]? = w.heap[k]?
theorem Kept.refl (p : Nat → Prop) (w : World) : Kept p w w := ⟨rfl, rfl, rfl, Nat.le_refl _, fun _ _ _ => rfl⟩
theorem Kept.trans {p : Nat → Prop} {a b c : World} (h : Kept p a b) (k : Kept p b c) : Kept p a c :=
  ⟨k.os.trans h.os, k.tape.trans h.tape, k.output.trans h.output, Nat.le_trans h.size k.size, fun i hi hp => (k.block i (Nat.lt_of_lt_of_le hi h.size) hp).trans (h.block i hi hp)⟩
theorem Kept.drew {p : Nat → Prop} {a w : World} (h : Kept p a w) : Kept p a w.drew := ⟨h.os, h.tape, h.output, h.size, h.block⟩
theorem Kept.alloc {p : Nat → Prop} {a w : World} (h : Kept p a w) (o : Obj) : Kept p a (w.alloc o) :=
  ⟨h.os, h.tape, h.output, Nat.le_trans h.size (by simp), fun i hi hp => (Below.heap_alloc w o i (Nat.lt_of_lt_of_le hi h.size)).trans (h.block i hi hp)⟩
theorem Kept.setCell {p : Nat → Prop} {a w : World} (h : Kept p a w) {q : Addr} (hq : p q.block → a.heap.size ≤ q.block) (u : Value) : Kept p a (w.setCell q u) :=
  ⟨h.os, h.tape, h.output, by simpa [World.setCell] using h.size, fun i hi hp => (Below.heap_setCell w q u i (by
    rintro rfl
    have := hq hp
    omega)).trans (h.block i hi hp)⟩
theorem Kept.grown {p : Nat → Prop} {a w w' : World} {row : Option Nat} (h : Kept p a w) (g : w.grownBy w' row) (hr : ∀ k, row = some k → p k → a.heap.size ≤ k) : Kept p a w' :=
  ⟨g.os.trans h.os, g.tape.trans h.tape, g.output.trans h.output, Nat.le_trans h.size g.size, fun i hi hp => (g.block i (Nat.lt_of_lt_of_le hi h.size) (fun e => by
    have := hr i e.symm hp
    omega)).trans (h.block i hi hp)⟩
theorem Kept.of_below {p : Nat → Prop} {a w : World} (h : Below a.heap.size a w) : Kept p a w := ⟨h.os, h.tape, h.output, h.size, fun k hk _ => h.block k hk⟩
theorem Kept.below {p : Nat → Prop} {B : Nat} {a w : World} (h : Kept p a w) (hB : B ≤ a.heap.size) (hp : ∀ k, k < B → p k) : Below B a w := ⟨h.os, h.tape, h.output, h.size, fun k hk => h.block k (by omega) (hp k hk)⟩
theorem Kept.cell {p : Nat → Prop} {w w' : World} (h : Kept p w w') {q : Addr} (hl : q.block < w.heap.size) (hq : p q.block) : w'.cell? q = w.cell? q := World.cell?_of_block (w := w) (h.block q.block hl hq)
theorem Kept.mono {p q : Nat → Prop} {w w' : World} (h : Kept p w w') (hq : ∀ k, q k → p k) : Kept q w w' := ⟨h.os, h.tape, h.output, h.size, fun k hk hp => h.block k hk (hq k hp)⟩

section
variable {P : Program} {w : World}
/-- append(own, x): with the place of the new row told. -/
theorem app_at {ops : Array Oper} {rest : List Oper} {o : Oper} {a : Act} {Q : Exit → Act → World → Prop} {t e : TypeId} {size bytes : Nat} (E : Elem P t e size bytes) (hgd : o.guard = none) (s x : Operand)
    (ho : o.op = .call { callee := .builtin .append, args := #[s, x], argTypes := #[t, t] })
    (base : Nat) (v : Value) (n : Nat) (xs : List Value) (hs : a.eval s = v) (hown : w.ownsRow base e size v n xs)
    (ad : Addr) (m c : Nat) (news : List Value) (B : Nat) (hx : a.eval x = .slice (some ad) m c) (hl : news.length = m * size) (hr : Row w B (some ad) news) (h1 : ∀ u ∈ news, u.oneCell' = true)
    (hby : (n + m) * bytes ≤ 140737488355328) (hmax : n + m ≤ 9223372036854775807) (hbase : base ≤ w.heap.size)
    (h : ∀ v' w', w'.ownsRow base e size v' (n + m) (xs ++ news) → w.grownBy w' v.ownBlock → (v'.ownBlock = v.ownBlock ∨ v'.ownBlock = some w.heap.size) → wpList P ops Q rest (a.put o.dst v') w') : wpList P ops Q (o :: rest) a w := by
  obtain ⟨i, z, ht, hi, hz, hsize, hbytes, hzs, hsz⟩ := E
  refine wpList_append_own_at w hgd s x t ho base e i z size bytes ht hi hz hsize hbytes hzs hsz v n xs hs hown ad m c news hx hl ?_ h1 (by unfold maxLen; omega) hby hbase fun v' w' h2 h3 _ h5 => h v' w' h2 h3 h5
  intro j u hj
  obtain ⟨hjl, rfl⟩ := List.getElem?_eq_some_iff.1 hj
  obtain ⟨b, o', e', _, hc⟩ := hr (by omega)
  cases e'
  have := hc j hjl
  unfold Addr.add
  split
  · subst_vars; simpa using this
  · exact this
end
/-- A block of two cells, known whole. -/
theorem two_cells {w : World} {g : Nat} {a b : Value} {t : TypeId} (h : w.heap[g]? = some (.cells #[a, b] t (0, 0))) : w.cell? ⟨g, 0, none⟩ = some a ∧ w.cell? ⟨g, 1, none⟩ = some b ∧ w.frozen? ⟨g, 0, none⟩ = false ∧ w.frozen? ⟨g, 1, none⟩ = false := by
  simp [World.cell?, World.frozen?, h]
theorem two_set0 {w : World} {g : Nat} {a b : Value} {t : TypeId} (h : w.heap[g]? = some (.cells #[a, b] t (0, 0))) (u : Value) : (w.setCell ⟨g, 0, none⟩ u).heap[g]? = some (.cells #[u, b] t (0, 0)) := heap_setCell_same w g 0 _ t u h
theorem two_set1 {w : World} {g : Nat} {a b : Value} {t : TypeId} (h : w.heap[g]? = some (.cells #[a, b] t (0, 0))) (u : Value) : (w.setCell ⟨g, 1, none⟩ u).heap[g]? = some (.cells #[a, u] t (0, 0)) := heap_setCell_same w g 1 _ t u h
theorem block_lt {w : World} {g : Nat} {o : Obj} (h : w.heap[g]? = some o) : g < w.heap.size := by
  rcases Nat.lt_or_ge g w.heap.size with h' | h'
  · exact h'
  · simp [Array.getElem?_eq_none h'] at h
theorem Row.grown {w w' : World} {B : Nat} {A : Option Addr} {cs : List Value} {row : Option Nat} (h : Row w B A cs) (hB : B ≤ w.heap.size) (g : w.grownBy w' row) (hne : ∀ b o, A = some ⟨b, o, none⟩ → row ≠ some b) : Row w' B A cs := fun hl => by
  obtain ⟨b, o, e, hlt, hc⟩ := h hl
  exact ⟨b, o, e, hlt, fun j hj => (World.cell?_of_block (w := w) (g.block b (by omega) (fun e2 => hne b o e e2.symm))).trans (hc j hj)⟩
theorem Row.dropN {w : World} {B b o : Nat} {cs : List Value} (h : Row w B (some ⟨b, o, none⟩) cs) (n : Nat) : Row w B (some ⟨b, o + n, none⟩) (cs.drop n) := fun hl => by
  rw [List.length_drop] at hl
  obtain ⟨b', o', e, hlt, hc⟩ := h (by omega)
  cases e
  refine ⟨_, _, rfl, hlt, fun j hj => ?_⟩
  rw [List.length_drop] at hj
  rw [Nat.add_assoc, hc (n + j) (by omega)]
  simp
theorem Row.takeN {w : World} {B : Nat} {A : Option Addr} {cs : List Value} (h : Row w B A cs) (n : Nat) : Row w B A (cs.take n) := fun hl => by
  rw [List.length_take] at hl
  obtain ⟨b', o', e, hlt, hc⟩ := h (by omega)
  refine ⟨_, _, e, hlt, fun j hj => ?_⟩
  rw [List.length_take] at hj
  rw [hc j (by omega)]
  simp
theorem flat_take {α : Type} (enc : α → List Value) (size : Nat) (hs : ∀ x, (enc x).length = size) (L : List α) (i : Nat) : (L.take i).flatMap enc = (L.flatMap enc).take (i * size) := by
  induction L generalizing i with
  | nil => simp
  | cons x L ih =>
    cases i with
    | zero => simp
    | succ i => rw [List.take_succ_cons, List.flatMap_cons, List.flatMap_cons, ih, List.take_append, hs, Nat.add_mul, List.take_of_length_le (l := enc x) (by rw [hs]; omega)]; congr 2; omega
theorem flat_drop {α : Type} (enc : α → List Value) (size : Nat) (hs : ∀ x, (enc x).length = size) (L : List α) (i : Nat) : (L.drop i).flatMap enc = (L.flatMap enc).drop (i * size) := by
  induction L generalizing i with
  | nil => simp
  | cons x L ih =>
    cases i with
    | zero => simp
    | succ i => rw [List.drop_succ_cons, List.flatMap_cons, ih, List.drop_append, hs, Nat.add_mul, List.drop_of_length_le (l := enc x) (by rw [hs]; omega), List.nil_append]; congr 1; omega
theorem Row.first {w : World} {B : Nat} {A : Option Addr} {α : Type} {enc : α → List Value} {size : Nat} (hs : ∀ x, (enc x).length = size) {L : List α} (h : Row w B A (L.flatMap enc)) (i : Nat) : Row w B A ((L.take i).flatMap enc) := by
  rw [flat_take enc size hs]; exact h.takeN _
theorem Row.behind {w : World} {B b o : Nat} {α : Type} {enc : α → List Value} {size : Nat} (hs : ∀ x, (enc x).length = size) {L : List α} (h : Row w B (some ⟨b, o, none⟩) (L.flatMap enc)) (i : Nat) : Row w B (some ⟨b, o + i * size, none⟩) ((L.drop i).flatMap enc) := by
  rw [flat_drop enc size hs]; exact h.dropN _
theorem flat_one {α : Type} (enc : α → List Value) (h : ∀ x, ∀ u ∈ enc x, u.oneCell' = true) (L : List α) : ∀ u ∈ L.flatMap enc, u.oneCell' = true := fun u hu => by
  simp only [List.mem_flatMap] at hu
  obtain ⟨x, _, hx⟩ := hu
  exact h x u hx
/-- What a call gives that leaves all that was there. -/
def Gives (v : Value) (w : World) (e : Ending) (w' : World) : Prop := e = .returned v ∧ Below w.heap.size w w'
/-- A call that gives a row of its own: nil, or a block of the call's own. -/
def GivesRow (base : Nat) (t : TypeId) (n : Nat) (xs : List Value) (w : World) (e : Ending) (w' : World) : Prop := ∃ v, e = .returned v ∧ w'.ownsRow base t 1 v n xs ∧ Below w.heap.size w w'
theorem below_drewN {B : Nat} {a w : World} (h : Below B a w) (n : Nat) : Below B a (w.drewN n) := ⟨h.os, h.tape, h.output, h.size, h.block⟩
end Go.Proofs.YtnpokgjehapmjaaDoor.Mem
end

section
namespace Go.Proofs.YtnpokgjehapmjaaDoor.BitsP

/-- The lowest w bits of a number, the highest first. -/
def bitsOf (n : Nat) : Nat → List Nat
  | 0 => []
  | w + 1 => n / 2 ^ w % 2 :: bitsOf n w
theorem bitsOf_len (n w : Nat) : (bitsOf n w).length = w := by
  induction w with
  | zero => rfl
  | succ w ih => simp [bitsOf, ih]
def Bin (l : List Nat) : Prop := ∀ b ∈ l, b < 2
theorem Bin.app {l m : List Nat} (h : Bin l) (k : Bin m) : Bin (l ++ m) := fun b hb => by
  rcases List.mem_append.1 hb with x | x
  · exact h b x
  · exact k b x
theorem Bin.left {l m : List Nat} (h : Bin (l ++ m)) : Bin l := fun b hb => h b (List.mem_append_left _ hb)
theorem Bin.right {l m : List Nat} (h : Bin (l ++ m)) : Bin m := fun b hb => h b (List.mem_append_right _ hb)
theorem bin_nil : Bin [] := fun _ h => by cases h
theorem bitsOf_bin (n w : Nat) : Bin (bitsOf n w) := by
  induction w with
  | zero => exact bin_nil
  | succ w ih => intro b hb; simp only [bitsOf, List.mem_cons] at hb; rcases hb with rfl | hb; omega; exact ih b hb
theorem Bin.getD {l : List Nat} (h : Bin l) (i : Nat) : l.getD i 0 < 2 := by
  rw [List.getD_eq_getElem?_getD]
  rcases hl : l[i]? with _ | b
  · simp
  · exact h b (List.mem_of_getElem? hl)

/-- Byte j of bits. -/
def byteAt (l : List Nat) (j : Nat) : Nat := l.getD (8 * j) 0 * 128 + l.getD (8 * j + 1) 0 * 64 + l.getD (8 * j + 2) 0 * 32 + l.getD (8 * j + 3) 0 * 16 + l.getD (8 * j + 4) 0 * 8 + l.getD (8 * j + 5) 0 * 4 + l.getD (8 * j + 6) 0 * 2 + l.getD (8 * j + 7) 0
def packB (l : List Nat) : List Nat := (List.range ((l.length + 7) / 8)).map (byteAt l)
def packBZ (l : List Nat) : List Nat := (List.range (l.length / 8 + 1)).map (byteAt l)
theorem packB_len (l : List Nat) : (packB l).length = (l.length + 7) / 8 := by simp [packB]
theorem packBZ_len (l : List Nat) : (packBZ l).length = l.length / 8 + 1 := by simp [packBZ]
theorem byteAt_lt {l : List Nat} (h : Bin l) (j : Nat) : byteAt l j < 256 := by
  unfold byteAt
  have h0 := h.getD (8 * j); have h1 := h.getD (8 * j + 1); have h2 := h.getD (8 * j + 2); have h3 := h.getD (8 * j + 3)
  have h4 := h.getD (8 * j + 4); have h5 := h.getD (8 * j + 5); have h6 := h.getD (8 * j + 6); have h7 := h.getD (8 * j + 7)
  omega
theorem getD_snoc (l : List Nat) (b i : Nat) : (l ++ [b]).getD i 0 = if i = l.length then b else l.getD i 0 := by
  simp only [List.getD_eq_getElem?_getD]
  by_cases h : i < l.length
  · rw [List.getElem?_append_left h, if_neg (by omega)]
  · rw [List.getElem?_append_right (by omega)]
    by_cases h2 : i = l.length
    · subst h2; simp
    · rw [if_neg h2, List.getElem?_eq_none (by simp; omega), List.getElem?_eq_none (by omega)]
theorem getD_beyond (l : List Nat) (i : Nat) (h : l.length ≤ i) : l.getD i 0 = 0 := by
  rw [List.getD_eq_getElem?_getD, List.getElem?_eq_none h]; rfl
/-- The last byte has room below. -/
theorem byteAt_room (l : List Nat) : byteAt l (l.length / 8) % 2 ^ (8 - l.length % 8) = 0 := by
  unfold byteAt
  generalize hq : l.length / 8 = q
  have hr : l.length % 8 = 0 ∨ l.length % 8 = 1 ∨ l.length % 8 = 2 ∨ l.length % 8 = 3 ∨ l.length % 8 = 4 ∨ l.length % 8 = 5 ∨ l.length % 8 = 6 ∨ l.length % 8 = 7 := by omega
  rcases hr with h | h | h | h | h | h | h | h
  all_goals
    have z := fun i (hi : l.length ≤ 8 * q + i) => getD_beyond l (8 * q + i) hi
    rw [h]
  · rw [show 8 * q = 8 * q + 0 from rfl, z 0 (by omega), Nat.add_zero, z 1 (by omega), z 2 (by omega), z 3 (by omega), z 4 (by omega), z 5 (by omega), z 6 (by omega), z 7 (by omega)]
  · rw [z 1 (by omega), z 2 (by omega), z 3 (by omega), z 4 (by omega), z 5 (by omega), z 6 (by omega), z 7 (by omega)]; omega
  · rw [z 2 (by omega), z 3 (by omega), z 4 (by omega), z 5 (by omega), z 6 (by omega), z 7 (by omega)]; omega
  · rw [z 3 (by omega), z 4 (by omega), z 5 (by omega), z 6 (by omega), z 7 (by omega)]; omega
  · rw [z 4 (by omega), z 5 (by omega), z 6 (by omega), z 7 (by omega)]; omega
  · rw [z 5 (by omega), z 6 (by omega), z 7 (by omega)]; omega
  · rw [z 6 (by omega), z 7 (by omega)]; omega
  · rw [z 7 (by omega)]; omega
theorem byteAt_snoc (l : List Nat) (b j : Nat) : byteAt (l ++ [b]) j = byteAt l j + (if j = l.length / 8 then b * 2 ^ (7 - l.length % 8) else 0) := by
  unfold byteAt
  simp only [getD_snoc]
  by_cases hj : j = l.length / 8
  · have z := fun i (hi : l.length = 8 * j + i) => getD_beyond l (8 * j + i) (by omega)
    have hr : l.length = 8 * j + 0 ∨ l.length = 8 * j + 1 ∨ l.length = 8 * j + 2 ∨ l.length = 8 * j + 3 ∨ l.length = 8 * j + 4 ∨ l.length = 8 * j + 5 ∨ l.length = 8 * j + 6 ∨ l.length = 8 * j + 7 := by omega
    rw [if_pos hj]
    rcases hr with h | h | h | h | h | h | h | h
    all_goals
      have e : l.length % 8 = l.length - 8 * j := by omega
      have zz := z _ h
      rw [e, h]
      simp only [Nat.add_sub_cancel_left, Nat.add_zero] at zz ⊢
      rw [List.getD_eq_getElem?_getD] at zz
      simp [zz]; try omega
  · rw [if_neg hj, if_neg (by omega), if_neg (by omega), if_neg (by omega), if_neg (by omega), if_neg (by omega), if_neg (by omega), if_neg (by omega), if_neg (by omega)]
    omega
/-- One bit more. -/
theorem packB_snoc (l : List Nat) (b : Nat) : packB (l ++ [b]) = (packBZ l).set (l.length / 8) (byteAt l (l.length / 8) + b * 2 ^ (7 - l.length % 8)) := by
  apply List.ext_getElem
  · simp [packB, packBZ]; omega
  · intro i h1 h2
    rw [List.getElem_set]
    simp only [packB, packBZ, List.getElem_map, List.getElem_range]
    rw [byteAt_snoc]
    by_cases h : i = l.length / 8
    · rw [if_pos h, if_pos h.symm, h]
    · rw [if_neg h, if_neg (by omega)]; rfl
theorem packBZ_old {l : List Nat} (h : l.length % 8 ≠ 0) : packBZ l = packB l := by
  unfold packBZ packB; rw [show (l.length + 7) / 8 = l.length / 8 + 1 from by omega]
theorem packBZ_new {l : List Nat} (h : l.length % 8 = 0) : packBZ l = packB l ++ [0] := by
  unfold packBZ packB; rw [show (l.length + 7) / 8 = l.length / 8 from by omega, List.range_succ, List.map_append]
  have hz : byteAt l (l.length / 8) = 0 := by
    unfold byteAt
    rw [getD_beyond l _ (by omega), getD_beyond l _ (by omega), getD_beyond l _ (by omega), getD_beyond l _ (by omega), getD_beyond l _ (by omega), getD_beyond l _ (by omega), getD_beyond l _ (by omega), getD_beyond l _ (by omega)]
  simp [hz]
theorem packBZ_at (l : List Nat) : (packBZ l)[l.length / 8]? = some (byteAt l (l.length / 8)) := by
  simp [packBZ]

theorem snoc_ind {p : List Nat → Prop} (h0 : p []) (h1 : ∀ l b, p l → p (l ++ [b])) : ∀ l, p l := fun l => by
  rw [← List.reverse_reverse l]
  induction l.reverse with
  | nil => exact h0
  | cons b m ih => rw [List.reverse_cons]; exact h1 _ _ ih
/-- A number of bits. -/
def num (l : List Nat) : Nat := l.foldl (fun n b => 2 * n + b) 0
theorem num_snoc (l : List Nat) (b : Nat) : num (l ++ [b]) = 2 * num l + b := by unfold num; rw [List.foldl_append]; rfl
theorem num_lt {l : List Nat} (h : Bin l) : num l < 2 ^ l.length := by
  revert h
  refine snoc_ind (p := fun l => Bin l → num l < 2 ^ l.length) (fun _ => by decide) (fun l b ih h => ?_) l
  · have h1 := ih h.left
    have h2 : b < 2 := h b (by simp)
    rw [num_snoc, List.length_append, List.length_singleton, Nat.pow_succ]; omega
theorem num_app (l m : List Nat) : num (l ++ m) = num l * 2 ^ m.length + num m := by
  refine snoc_ind (p := fun m => num (l ++ m) = num l * 2 ^ m.length + num m) (by simp [num]) (fun m b ih => ?_) m
  · rw [← List.append_assoc, num_snoc, num_snoc, ih, List.length_append, List.length_singleton, Nat.pow_succ, Nat.mul_add]; rw [Nat.mul_comm 2 (num l * 2 ^ m.length), Nat.mul_assoc]; omega
theorem num_bitsOf (n w : Nat) : num (bitsOf n w) = n % 2 ^ w := by
  induction w with
  | zero => simp [bitsOf, num, Nat.mod_one]
  | succ w ih =>
    rw [show bitsOf n (w + 1) = [n / 2 ^ w % 2] ++ bitsOf n w from rfl, num_app, ih, bitsOf_len, Nat.pow_succ, Nat.mod_mul]
    simp [num, Nat.mul_comm, Nat.add_comm]

/-- The bits of bytes. -/
def tbits (l : List UInt8) : List Nat := l.flatMap fun c => bitsOf c.toNat 8
theorem tbits_len (l : List UInt8) : (tbits l).length = 8 * l.length := by
  induction l with
  | nil => rfl
  | cons c l ih => rw [tbits, List.flatMap_cons, List.length_append, bitsOf_len, ← tbits, ih, List.length_cons]; omega
theorem tbits_bin (l : List UInt8) : Bin (tbits l) := by
  intro b hb
  simp only [tbits, List.mem_flatMap] at hb
  obtain ⟨c, _, hb⟩ := hb
  exact bitsOf_bin _ _ b hb
theorem bitsOf_at (n w i : Nat) (h : i < w) : (bitsOf n w)[i]? = some (n / 2 ^ (w - 1 - i) % 2) := by
  induction w generalizing i with
  | zero => omega
  | succ w ih =>
    rcases i with _ | i
    · simp [bitsOf]
    · simp only [bitsOf, List.getElem?_cons_succ]
      rw [ih i (by omega), show w + 1 - 1 - (i + 1) = w - 1 - i from by omega]
theorem tbits_at : ∀ (l : List UInt8) (i : Nat) (h : i < 8 * l.length), (tbits l)[i]? = some ((l[i / 8]'(by omega)).toNat / 2 ^ (7 - i % 8) % 2)
  | [], i, h => absurd h (by simp)
  | c :: l, i, h => by
    rw [tbits, List.flatMap_cons, ← tbits]
    by_cases h8 : i < 8
    · rw [List.getElem?_append_left (by rw [bitsOf_len]; exact h8), bitsOf_at _ _ _ h8]
      have e : i / 8 = 0 := by omega
      simp only [e, List.getElem_cons_zero]
      rw [show 8 - 1 - i = 7 - i % 8 from by omega]
    · rw [List.getElem?_append_right (by rw [bitsOf_len]; omega), bitsOf_len, tbits_at l (i - 8) (by simp at h; omega)]
      have e : i / 8 = (i - 8) / 8 + 1 := by omega
      simp only [e, List.getElem_cons_succ]
      rw [show (i - 8) % 8 = i % 8 from by omega]
end Go.Proofs.YtnpokgjehapmjaaDoor.BitsP
end

section
namespace Go.Proofs.YtnpokgjehapmjaaDoor.WordS
def split (c : UInt8) : List UInt8 → List (List UInt8)
  | [] => [[]]
  | b :: l => if b == c then [] :: split c l else match split c l with
    | [] => [[b]]
    | h :: t => (b :: h) :: t
def join (c : UInt8) : List (List UInt8) → List UInt8
  | [] => []
  | a :: l => if l.isEmpty then a else a ++ c :: join c l
end Go.Proofs.YtnpokgjehapmjaaDoor.WordS
end

section
namespace Go.Proofs.YtnpokgjehapmjaaDoor.SixtyP
open BitsP

def abc : List UInt8 := [65, 66, 67, 68, 69, 70, 71, 72, 73, 74, 75, 76, 77, 78, 79, 80, 81, 82, 83, 84, 85, 86, 87, 88, 89, 90, 97, 98, 99, 100, 101, 102, 103, 104, 105, 106, 107, 108, 109, 110, 111, 112, 113, 114, 115, 116, 117, 118, 119, 120, 121, 122, 48, 49, 50, 51, 52, 53, 54, 55, 56, 57, 45, 95]
def letter (n : Nat) : UInt8 := abc.getD n 0
/-- Letters for bits, six by six; the last ones are filled up with noughts. -/
def enc6 : List Nat → List UInt8
  | a :: b :: c :: d :: e :: f :: r => letter (num [a, b, c, d, e, f]) :: enc6 r
  | [] => []
  | l => [letter (num l * 2 ^ (6 - l.length))]
theorem enc6_step (l : List Nat) (h : l ≠ []) : enc6 l = letter (num (l.take (min 6 l.length)) * 2 ^ (6 - min 6 l.length)) :: enc6 (l.drop (min 6 l.length)) := by
  match l, h with
  | [a], _ => rfl
  | [a, b], _ => rfl
  | [a, b, c], _ => rfl
  | [a, b, c, d], _ => rfl
  | [a, b, c, d, e], _ => rfl
  | a :: b :: c :: d :: e :: f :: r, _ =>
    have e : min 6 (a :: b :: c :: d :: e :: f :: r).length = 6 := by simp
    rw [e]
    simp [enc6]
theorem enc6_len : ∀ (n : Nat) (l : List Nat), l.length ≤ n → (enc6 l).length = (l.length + 5) / 6
  | 0, l, h => by
    obtain rfl : l = [] := List.eq_nil_of_length_eq_zero (by omega)
    rfl
  | n + 1, l, h => by
    by_cases h0 : l = []
    · subst h0; rfl
    · have hl : 0 < l.length := List.length_pos_iff.2 h0
      rw [enc6_step l h0, List.length_cons, enc6_len n _ (by rw [List.length_drop]; omega), List.length_drop]
      omega
/-- Six bits and more. -/
theorem enc6_app (a l : List Nat) (h : a.length = 6) : enc6 (a ++ l) = letter (num a) :: enc6 l := by
  match a, h with
  | [a, b, c, d, e, f], _ => rfl
end Go.Proofs.YtnpokgjehapmjaaDoor.SixtyP
end

section
namespace Go.Proofs.YtnpokgjehapmjaaDoor.Seq
section
variable {P : Program} {ops : Array Oper} {Q : Exit → Act → World → Prop} {S : World → Prop} {E : Act → World → Prop}

/-- The operations in the plan's order; behind them E. -/
def wpSeq (P : Program) (ops : Array Oper) (Q : Exit → Act → World → Prop) (S : World → Prop) (E : Act → World → Prop) : List (Oper × Bool) → Act → World → Prop
  | [], a, w => E a w
  | (o, false) :: r, a, w => ∃ v, YieldsIf P ops S o v a ∧ wpSeq P ops Q S E r (a.put o.dst v) w
  | (o, true) :: r, a, w => (Region.wanted o (yielded ops a.tmps) = true ∧ o.wp P a w (fun a' w' => S w' ∧ wpSeq P ops Q S E r a' w') Q) ∨ (Region.wanted o (yielded ops a.tmps) = false ∧ S w ∧ wpSeq P ops Q S E r (a.put o.dst undef) w)

def lay (ops : List Oper) : List (Nat × Bool) → List (Oper × Bool)
  | [] => []
  | (i, b) :: r => match ops[i]? with
    | some o => (o, b) :: lay ops r
    | none => lay ops r

/-- The plan may be gone; what is listed behind it. -/
def planTo (ops : Array Oper) : List (Nat × Bool) → Array Bool → Array Bool → Bool
  | [], l, m => l == m
  | (i, false) :: r, l, m => Region.free .any ops l i && (Region.ready .any ops l).contains i && planTo ops r (l.setIfInBounds i true) m
  | (i, true) :: r, l, m => Region.ready .any ops l == [i] && planTo ops r (l.setIfInBounds i true) m
def planOk (ops : Array Oper) : List (Nat × Bool) → Array Bool → Bool
  | [], l => (Region.ready .any ops l).isEmpty
  | (i, false) :: r, l => Region.free .any ops l i && (Region.ready .any ops l).contains i && planOk ops r (l.setIfInBounds i true)
  | (i, true) :: r, l => Region.ready .any ops l == [i] && planOk ops r (l.setIfInBounds i true)

theorem seq_gen (hs : Region.noSelect ops = true) (hQ : ∀ c a d v w, Q (.panic c) (a.put d v) w → Q (.panic c) a w) (good : List (Nat × Bool) → Array Bool → Bool) (n : Nat)
    (h0 : ∀ l a w, good [] l = true → S w → E a w → wpAnyH P .any ops Q S n l a w)
    (h1 : ∀ i r l, good ((i, false) :: r) l = (Region.free .any ops l i && (Region.ready .any ops l).contains i && good r (l.setIfInBounds i true)))
    (h2 : ∀ i r l, good ((i, true) :: r) l = (Region.ready .any ops l == [i] && good r (l.setIfInBounds i true))) :
    ∀ (plan : List (Nat × Bool)) (listed : Array Bool) (a : Act) (w : World), good plan listed = true → S w → wpSeq P ops Q S E (lay ops.toList plan) a w → wpAnyH P .any ops Q S (plan.length + n) listed a w
  | [], listed, a, w, hp, hS, h => by
    rw [List.length_nil, Nat.zero_add]; exact h0 _ _ _ hp hS h
  | (i, false) :: r, listed, a, w, hp, hS, h => by
    rw [h1] at hp
    simp only [Bool.and_eq_true] at hp
    obtain ⟨⟨hf, hr⟩, hp⟩ := hp
    obtain ⟨_, oi, hoi, _⟩ := mem_ready.1 (show i ∈ Region.ready .any ops listed by simpa using hr)
    have e : lay ops.toList ((i, false) :: r) = (oi, false) :: lay ops.toList r := by simp only [lay, Array.getElem?_toList, hoi]
    rw [e] at h
    obtain ⟨v, hy, h⟩ := h
    rw [List.length_cons, Nat.add_right_comm]
    exact wpAnyH_take hoi hs hf hr (fun c a w => hQ c a _ v w) hy hS (seq_gen hs hQ good n h0 h1 h2 r _ _ _ hp hS h)
  | (i, true) :: r, listed, a, w, hp, hS, h => by
    rw [h2] at hp
    simp only [Bool.and_eq_true, beq_iff_eq] at hp
    obtain ⟨hr, hp⟩ := hp
    obtain ⟨_, oi, hoi, _⟩ := mem_ready.1 (show i ∈ Region.ready .any ops listed by rw [hr]; simp)
    have e : lay ops.toList ((i, true) :: r) = (oi, true) :: lay ops.toList r := by simp only [lay, Array.getElem?_toList, hoi]
    rw [e] at h
    rw [List.length_cons, Nat.add_right_comm]
    refine ⟨fun h0 => (by rw [hr] at h0; cases h0), fun j hj => ?_⟩
    rw [hr, List.mem_singleton] at hj
    subst hj
    unfold wpOp
    simp only [hoi]
    rcases h with ⟨hw, h⟩ | ⟨hw, hS', h⟩
    · rw [if_pos hw]
      exact .inl (Oper.wp_mono (fun a' w' ⟨h3, h4⟩ => ⟨h3, seq_gen hs hQ good n h0 h1 h2 r _ _ _ hp h3 h4⟩) h)
    · rw [if_neg (by rw [hw]; decide)]
      exact ⟨hS', seq_gen hs hQ good n h0 h1 h2 r _ _ _ hp hS' h⟩

theorem seq_held (hs : Region.noSelect ops = true) (hQ : ∀ c a d v w, Q (.panic c) (a.put d v) w → Q (.panic c) a w) (plan : List (Nat × Bool)) (listed : Array Bool) (a : Act) (w : World) (hp : planOk ops plan listed = true) (hS : S w)
    (h : wpSeq P ops Q S (Q .normal) (lay ops.toList plan) a w) : wpAnyH P .any ops Q S plan.length listed a w :=
  seq_gen hs hQ (planOk ops) 0 (fun _ _ _ hp _ h => ⟨List.isEmpty_iff.1 hp, h⟩) (fun _ _ _ => rfl) (fun _ _ _ => rfl) plan listed a w hp hS h

/-- THE BEGINNING. -/
theorem region_seq (plan : List (Nat × Bool)) {id : Nat} {a : Act} {w : World} (hm : P.follows .mixedOrders = true)
    (hok : (Region.noSelect ops && (plan.length == ops.size && planOk ops plan (Array.replicate ops.size false))) = true)
    (hQ : ∀ c a d v w, Q (.panic c) (a.put d v) w → Q (.panic c) a w) (hS : S w.drew)
    (h : wpSeq P ops Q S (Q .normal) (lay ops.toList plan) a w.drew) : (Code.region id ops true).wp P Q a w := by
  simp only [Bool.and_eq_true, beq_iff_eq] at hok
  obtain ⟨hs, hl, hp⟩ := hok
  refine wp_region_held (S := S) hm ?_
  have := seq_held hs hQ plan _ a w.drew hp hS h
  rw [hl] at this
  exact this

theorem seq_nil {a : Act} {w : World} (h : E a w) : wpSeq P ops Q S E [] a w := h
theorem seq_read {o : Oper} {r : List (Oper × Bool)} {a : Act} {w : World} {v : Value} (hw : Region.wanted o (yielded ops a.tmps) = true)
    (hy : ∀ w', S w' → (execOp a.eval o).run P w' = .ok (.value v) w') (h : wpSeq P ops Q S E r (a.put o.dst v) w) : wpSeq P ops Q S E ((o, false) :: r) a w := ⟨v, .inl ⟨hw, hy⟩, h⟩
theorem seq_do {o : Oper} {r : List (Oper × Bool)} {a : Act} {w : World} (hw : Region.wanted o (yielded ops a.tmps) = true)
    (h : ∀ K : Act → World → Prop, (∀ a' w', S w' → wpSeq P ops Q S E r a' w' → K a' w') → o.wp P a w K Q) : wpSeq P ops Q S E ((o, true) :: r) a w := .inl ⟨hw, h _ fun _ _ h1 h2 => ⟨h1, h2⟩⟩
end
end Go.Proofs.YtnpokgjehapmjaaDoor.Seq
end

section
namespace Go.Proofs.YtnpokgjehapmjaaDoor.BitsS
open Go.RowKit Mem BitsP

theorem elemU8 : Elem Tryd.prog 55 5 1 1 := Elem.mk Tryd.underlying55 (by kernel_rfl : (Tryd.prog.info? 5).map (fun i => (i.zero, i.size, i.bytes)) = some (some (.int .u8 0), 1, 1)) rfl (by decide)
def leftOf (l : List Nat) : Nat := 8 * ((l.length + 7) / 8) - l.length
def u8s (l : List Nat) : List Value := l.map fun n : Nat => Value.int .u8 (n : Int)
/-- The sink at block g holds these bits; the blocks that p names are none of its. -/
def SinkT (T : Nat) (w : World) (g : Nat) (p : Nat → Prop) (l : List Nat) : Prop :=
  (∀ k, p k → k < w.heap.size ∧ k ≠ g) ∧ ∃ v, w.heap[g]? = some (.cells #[v, .int .i64 (leftOf l)] T (0, 0)) ∧ (∀ k, v.ownBlock = some k → ¬ p k ∧ k ≠ g) ∧ w.ownsRow 0 5 1 v (packB l).length (u8s (packB l))
abbrev SinkAt := SinkT 57

/-- The sink behind its test: a byte has room. -/
def RoomT (T : Nat) (w : World) (g : Nat) (p : Nat → Prop) (l : List Nat) (r cap : Nat) : Prop :=
  (∀ k, p k → k < w.heap.size ∧ k ≠ g) ∧ w.heap[g]? = some (.cells #[.slice (some ⟨r, 0, none⟩) (l.length / 8 + 1) cap, .int .i64 ((7 - l.length % 8 : Nat) : Int)] T (0, 0)) ∧ ¬ p r ∧ r ≠ g ∧ w.ownsRow 0 5 1 (.slice (some ⟨r, 0, none⟩) (l.length / 8 + 1) cap) (l.length / 8 + 1) (u8s (packBZ l))
section
variable {T : Nat}
theorem room_put {w : World} {g : Nat} {p : Nat → Prop} {l : List Nat} {r cap : Nat} (h : RoomT T w g p l r cap) (b : Nat) : SinkT T (w.setCell ⟨r, l.length / 8, none⟩ (.int .u8 ((byteAt l (l.length / 8) + b * 2 ^ (7 - l.length % 8) : Nat) : Int))) g p (l ++ [b]) := by
  obtain ⟨hp, hg, hr, hrg, hown⟩ := h
  refine ⟨fun k hk => ⟨by simpa [World.setCell] using (hp k hk).1, (hp k hk).2⟩, .slice (some ⟨r, 0, none⟩) (l.length / 8 + 1) cap, ?_, ?_, ?_⟩
  · rw [heap_setCell_other _ _ _ _ (by simpa using hrg.symm), hg]
    simp only [leftOf, List.length_append, List.length_singleton]
    rw [show 8 * ((l.length + 1 + 7) / 8) - (l.length + 1) = 7 - l.length % 8 from by omega]
  · intro k hk; simp only [Value.ownBlock, Option.some.injEq] at hk; subst hk; exact ⟨hr, hrg⟩
  · rw [packB_len, List.length_append, List.length_singleton, show (l.length + 1 + 7) / 8 = l.length / 8 + 1 from by omega, packB_snoc]
    have := (hown.stored (l.length / 8) (.int .u8 ((byteAt l (l.length / 8) + b * 2 ^ (7 - l.length % 8) : Nat) : Int))).1
    simpa [u8s, List.map_set] using this
theorem room_old {w : World} {g : Nat} {p : Nat → Prop} {l : List Nat} (h : SinkT T w g p l) (hl : l.length % 8 ≠ 0) : ∃ r cap, w.heap[g]? = some (.cells #[.slice (some ⟨r, 0, none⟩) (l.length / 8 + 1) cap, .int .i64 ((7 - l.length % 8 + 1 : Nat) : Int)] T (0, 0)) ∧ RoomT T (w.setCell ⟨g, 1, none⟩ (.int .i64 ((7 - l.length % 8 : Nat) : Int))) g p l r cap := by
  obtain ⟨hp, v, hg, hv, hown⟩ := h
  have hn : (packB l).length = l.length / 8 + 1 := by rw [packB_len]; omega
  rw [hn, ← packBZ_old hl] at hown
  obtain ⟨r, cap, rfl⟩ := ownsRow_succ hown
  obtain ⟨hr, hrg⟩ := hv r rfl
  have hg' : w.heap[g]? = some (.cells #[.slice (some ⟨r, 0, none⟩) (l.length / 8 + 1) cap, .int .i64 ((7 - l.length % 8 + 1 : Nat) : Int)] T (0, 0)) := by
    rw [hg]; unfold leftOf; rw [show 8 * ((l.length + 7) / 8) - l.length = 7 - l.length % 8 + 1 from by omega]
  exact ⟨r, cap, hg', fun k hk => ⟨by simpa [World.setCell] using (hp k hk).1, (hp k hk).2⟩, two_set1 hg' _, hr, hrg, ownsRow_setCell_other hown (by simpa [Value.ownBlock] using hrg) _⟩
theorem room_new {w w1 : World} {g : Nat} {p : Nat → Prop} {l : List Nat} {o : Obj} {v v1 : Value} (hp : ∀ k, p k → k < w.heap.size ∧ k ≠ g) (hg : w.heap[g]? = some (.cells #[v, .int .i64 (0 : Int)] T (0, 0))) (hv : ∀ k, v.ownBlock = some k → ¬ p k ∧ k ≠ g) (hl : l.length % 8 = 0)
    (ho : w1.ownsRow 0 5 1 v1 ((packB l).length + 1) (u8s (packB l) ++ [.int .u8 0])) (gr : (w.alloc o).grownBy w1 v.ownBlock) (ha : v1.ownBlock = v.ownBlock ∨ v1.ownBlock = some (w.alloc o).heap.size) :
    ∃ r cap, v1 = .slice (some ⟨r, 0, none⟩) (l.length / 8 + 1) cap ∧ w1.heap[g]? = some (.cells #[v, .int .i64 (0 : Int)] T (0, 0)) ∧ RoomT T (((w1.setCell ⟨g, 0, none⟩ v1).setCell ⟨g, 1, none⟩ (.int .i64 8)).setCell ⟨g, 1, none⟩ (.int .i64 7)) g p l r cap ∧ Kept p w (((w1.setCell ⟨g, 0, none⟩ v1).setCell ⟨g, 1, none⟩ (.int .i64 8)).setCell ⟨g, 1, none⟩ (.int .i64 7)) := by
  have hgl := block_lt hg
  have hn : (packB l).length + 1 = l.length / 8 + 1 := by rw [packB_len]; omega
  have hz : u8s (packB l) ++ [.int .u8 0] = u8s (packBZ l) := by rw [packBZ_new hl]; simp [u8s]
  rw [hn, hz] at ho
  obtain ⟨r, cap, rfl⟩ := ownsRow_succ ho
  have hr : ¬ p r ∧ r ≠ g := by
    rcases ha with ha | ha
    · exact hv r (by rw [← ha]; rfl)
    · simp [Value.ownBlock] at ha
      subst ha
      exact ⟨fun h => absurd (hp _ h).1 (by omega), by omega⟩
  have hvg : v.ownBlock ≠ some g := fun e => (hv g e).2 rfl
  have h1 : w1.heap[g]? = some (.cells #[v, .int .i64 (0 : Int)] T (0, 0)) := by
    rw [gr.block g (by simp; omega) (fun e => hvg e.symm), Below.heap_alloc w o g hgl, hg]
  have hk : Kept p w w1 := ((Kept.refl p w).alloc o).grown gr (fun k e hp' => absurd hp' (hv k e).1)
  refine ⟨r, cap, rfl, h1, ⟨fun k hk' => ⟨?_, (hp k hk').2⟩, ?_, hr.1, hr.2, ?_⟩, ?_⟩
  · have := hk.size; have := (hp k hk').1; simp [World.setCell]; omega
  · rw [hl]; exact two_set1 (two_set1 (two_set0 h1 _) _) _
  · have hne : (Value.slice (some ⟨r, 0, none⟩) (l.length / 8 + 1) cap).ownBlock ≠ some g := by simpa [Value.ownBlock] using hr.2
    exact ownsRow_setCell_other (ownsRow_setCell_other (ownsRow_setCell_other ho hne _) hne _) hne _
  · have hq : p g → w.heap.size ≤ g := fun h => absurd rfl (hp g h).2
    exact ((hk.setCell hq _).setCell hq _).setCell hq _

theorem or_room (x b f : Nat) (hr : x % 2 ^ (f + 1) = 0) (hb : b < 2) : x ||| (b * 2 ^ f) = x + b * 2 ^ f := by
  refine nat_join (f + 1) x _ hr ?_
  have : 0 < 2 ^ f := Nat.two_pow_pos f
  rw [Nat.pow_succ, Nat.mul_comm]; exact Nat.mul_lt_mul_of_pos_left hb this
theorem or_wrap (x b f : Nat) (hx : x < 256) (hb : b < 2) (hf : f ≤ 7) (h : x ||| (b * 2 ^ f) = x + b * 2 ^ f) : bits BinOp.or IntKind.u8 (x : Int) (IntKind.u8.wrap (IntKind.u8.wrap (b : Int) * 2 ^ f)) = ((x + b * 2 ^ f : Nat) : Int) := by
  have hp : 2 ^ f ≤ 2 ^ 7 := Nat.pow_le_pow_right (by omega) hf
  have h1 : b * 2 ^ f < 256 := by
    have : b * 2 ^ f ≤ 1 * 2 ^ f := Nat.mul_le_mul_right _ (by omega)
    omega
  have e1 : IntKind.u8.wrap (b : Int) = ((b : Nat) : Int) := by rw [IntKind.wrap_u8']; omega
  have e2 : IntKind.u8.wrap (((b : Nat) : Int) * 2 ^ f) = ((b * 2 ^ f : Nat) : Int) := by
    have e : ((b : Nat) : Int) * 2 ^ f = ((b * 2 ^ f : Nat) : Int) := by simp
    rw [e, IntKind.wrap_u8']; omega
  rw [e1, e2, u8_or_nat x (b * 2 ^ f) hx h1, h]
theorem bit_of (n k : Nat) (hn : n < 18446744073709551616) : bits .and .u64 ((n : Int) / 2 ^ k) 1 = ((n / 2 ^ k % 2 : Nat) : Int) := by
  have e : ((n : Int) / 2 ^ k) = ((n / 2 ^ k : Nat) : Int) := by simp
  rw [e, show (1 : Int) = ((1 : Nat) : Int) from rfl, u64_and_nat _ 1 (Nat.lt_of_le_of_lt (Nat.div_le_self _ _) hn) (by omega), nat_mask1]
set_option maxRecDepth 100000 in
set_option maxHeartbeats 2000000 in
theorem put_any (g : Nat) (p : Nat → Prop) (l : List Nat) (n W : Nat) (hn : n < 18446744073709551616) (hW : W ≤ 64) (w : World) (hl : Bin l) (hlen : l.length + W ≤ 1125899906842624) (h : SinkT T w g p l) :
    Calls Tryd.prog 39 #[.pointer (some ⟨g, 0, none⟩), .int .u64 n, .int .i64 W] w (fun e w' => e = .returned (.tuple #[]) ∧ SinkT T w' g p (l ++ bitsOf n W) ∧ Kept p w w') := by
  go_enter Tryd.func39, Tryd.ntmps39
  go_wp2_with fail
  go_loopw [6] (fun i wr => ∃ (k : Nat) (pre : List Nat), k ≤ W ∧ i = .int .i64 ((k : Int) - 1) ∧ pre ++ bitsOf n k = bitsOf n W ∧ SinkT T wr g p (l ++ pre) ∧ Kept p w wr) (fun i _ => (intOf i + 1).toNat)
  case atStart => exact ⟨W, [], Nat.le_refl _, rfl, rfl, by simpa using h, Kept.refl _ _⟩
  case round =>
    obtain ⟨k, pre, hk, rfl, hpre, hsink, hkept⟩ := hrel
    have hlp : (l ++ pre).length + k = l.length + W := by
      have := congrArg List.length hpre; simp [bitsOf_len] at this; simp; omega
    have hbin : Bin (l ++ pre) := hl.app (Bin.left (by rw [hpre]; exact bitsOf_bin n W))
    have HP := Lib.hid hpre; clear hpre
    rcases k with _ | k
    · go_wp2_with fail
      go_end0
      have e1 := HP.out
      simp only [bitsOf, List.append_nil] at e1
      rw [← e1]
      exact ⟨rfl, hsink, hkept⟩
    · generalize hm : l ++ pre = m at hsink hlp hbin
      have HM := Lib.hid hm; clear hm
      have hmq : m.length / 8 + 1 ≤ 140737488355328 := by omega
      have HL := Lib.hid hlp; clear hlp
      by_cases hfr : m.length % 8 = 0
      · obtain ⟨hp, v, hg, hv, hown⟩ := hsink
        have hf0 : leftOf m = 0 := by unfold leftOf; omega
        rw [hf0] at hg
        obtain ⟨c0, c1, f0, f1⟩ := two_cells hg
        have hps : (packB m).length + 1 ≤ 140737488355328 := by rw [packB_len]; omega
        have Hg := Lib.hid hg; have HF := Lib.hid hf0; have HR := Lib.hid hfr; clear hg hf0 hfr
        go_wp2_with (first
          | (at_builtin
             refine app_at elemU8 rfl (.tmp 23) (.tmp 24) rfl 0 v (packB m).length _ rfl (hown.alloc _) ⟨wr.heap.size, 0, none⟩ 1 1 [.int .u8 0] (wr.heap.size + 1) rfl rfl (Row.lit wr _ [.int .u8 0] _ (by omega)) (by simp [Value.oneCell']) (by omega) (by omega) (Nat.zero_le _) ?_
             intro v1 w1 o1 g1 a1
             obtain ⟨r, cap, rfl, hg1, hroom, hk1⟩ := room_new hp Hg.out hv HR.out o1 g1 a1
             obtain ⟨d0, d1, e0, e1⟩ := two_cells hg1
             have Hg1 := Lib.hid hg1; have HO := Lib.hid o1; have HA := Lib.hid a1
             have HQ := Lib.hid hroom; have HK := Lib.hid hk1
             clear hg1 o1 a1 hroom hk1 c0 c1 f0 f1))
        have hroom := HQ.out; have hk1 := HK.out
        clear HQ HK HO HA Hg1 d0 d1 e0 e1 g1 hown Hg
        generalize (((w1.setCell ⟨g, 0, none⟩ (Value.slice (some ⟨r, 0, none⟩) (m.length / 8 + 1) cap)).setCell ⟨g, 1, none⟩ (Value.int .i64 8)).setCell ⟨g, 1, none⟩ (Value.int .i64 7)) = wq at hroom hk1 ⊢
        obtain ⟨hpq, hgq, hr, hrg, hownq⟩ := hroom
        obtain ⟨c0, c1, f0, f1⟩ := two_cells hgq
        have hx := byteAt_lt hbin (m.length / 8)
        have c2 : wq.cell? ⟨r, m.length / 8, none⟩ = some (.int .u8 ((byteAt m (m.length / 8) : Nat) : Int)) := by
          rw [hownq.cellAt (m.length / 8) (by omega)]; simp [u8s, packBZ_at]
        have f2 := hownq.frozenAt (m.length / 8)
        have hput := room_put ⟨hpq, hgq, hr, hrg, hownq⟩ (n / 2 ^ k % 2)
        have hor := or_room (byteAt m (m.length / 8)) (n / 2 ^ k % 2) (7 - m.length % 8) (by have := byteAt_room m; rwa [show 8 - m.length % 8 = 7 - m.length % 8 + 1 from by omega] at this) (by omega)
        have hbit := bit_of n k hn
        have hb2 : n / 2 ^ k % 2 < 2 := by omega
        have hbl : bitsOf n (k + 1) = [n / 2 ^ k % 2] ++ bitsOf n k := rfl
        have HBL := Lib.hid hbl
        clear hbl
        have hfin := or_wrap (byteAt m (m.length / 8)) (n / 2 ^ k % 2) (7 - m.length % 8) hx hb2 (by omega) hor
        generalize byteAt m (m.length / 8) + n / 2 ^ k % 2 * 2 ^ (7 - m.length % 8) = y at hput hfin
        have Hput := Lib.hid hput
        clear hput hor hgq hownq hpq hbin
        generalize byteAt m (m.length / 8) = x at hx c2 hfin
        generalize m.length / 8 = q at hmq c0 c2 f2 Hput ⊢
        have hf7 : 7 - m.length % 8 ≤ 7 := by omega
        generalize 7 - m.length % 8 = f at c1 hfin hf7 ⊢
        generalize n / 2 ^ k % 2 = b at hbit Hput hb2 HBL hfin
        have hb3 : (0 : Int) ≤ (b : Int) := by omega
        have hb4 : (b : Int) < 2 := by omega
        have hw1 : IntKind.i64.wrap (q : Int) = q := IntWalk.i64_in _ (by omega)
        have hw2 : (0 : Int) ≤ (q : Int) := by omega
        have hw3 : (q : Int) < (q : Int) + 1 := by omega
        refine Seq.region_seq (S := fun w' => w'.cell? ⟨g, 0, none⟩ = some (.slice (some ⟨r, 0, none⟩) (q + 1) cap) ∧ w'.cell? ⟨g, 1, none⟩ = some (.int .i64 (f : Int)))
          [(0, false), (1, false), (2, false), (3, false), (4, false), (5, false), (6, false), (7, false), (8, false), (9, false), (10, false), (12, false), (13, false), (14, false), (15, false), (16, false), (17, false), (18, false), (19, false), (20, false), (21, false), (11, true), (22, false), (23, false), (24, true)]
          (by kernel_rfl) (by kernel_rfl) (fun _ _ d _ _ h => by cases d <;> exact h) ⟨c0, c1⟩ ?_
        simp only [Seq.lay, List.getElem?_cons_zero, List.getElem?_cons_succ]
        repeat (first
          | (refine Seq.seq_read (v := ?_) (by rfl) ?_ ?_
             rotate_left
             · (intro w' hS; obtain ⟨s0, s1⟩ := hS; go_simp; with_reducible rfl)
             simp only [Act.put, List.setIfInBounds_toArray, List.set_cons_zero, List.set_cons_succ]))
        refine Seq.seq_do (by rfl) (fun K hK => ?_)
        go_simp
        refine hK _ _ ⟨c0, c1⟩ ?_
        clear hK K
        repeat (first
          | (refine Seq.seq_read (v := ?_) (by rfl) ?_ ?_
             rotate_left
             · (intro w' hS; obtain ⟨s0, s1⟩ := hS; go_simp; with_reducible rfl)
             simp only [Act.put, List.setIfInBounds_toArray, List.set_cons_zero, List.set_cons_succ]))
        refine Seq.seq_do (by rfl) (fun K hK => ?_)
        go_simp
        refine hK _ _ ⟨?_, ?_⟩ ?_
        · exact (World.cell?_of_block (w := wq) (heap_setCell_other _ _ _ _ (by simpa using hrg.symm))).trans c0
        · exact (World.cell?_of_block (w := wq) (heap_setCell_other _ _ _ _ (by simpa using hrg.symm))).trans c1
        clear hK K
        refine Seq.seq_nil ?_
        go_wp2_with fail
        go_roundw
        case rel =>
          refine ⟨k, pre ++ [b], by omega, by go_num, ?_, ?_, (hkept.trans hk1).setCell (fun h => absurd h hr) _ |>.drew⟩
          · rw [← HP.out, HBL.out, List.append_assoc]
          · rw [← List.append_assoc, HM.out]; exact Hput.out
        case measure => simp [intOf]
      · obtain ⟨r, cap, hg, hroom⟩ := room_old hsink hfr
        have hp := hsink.1
        have hk1 : Kept p wr (wr.setCell ⟨g, 1, none⟩ (.int .i64 ((7 - m.length % 8 : Nat) : Int))) := (Kept.refl p wr).setCell (fun h => absurd rfl (hp g h).2) _
        obtain ⟨c0, c1, f0, f1⟩ := two_cells hg
        have hfe : (((7 - m.length % 8 + 1 : Nat) : Int) == 0) = false := by simp; omega
        have hf7 : 7 - m.length % 8 ≤ 7 := by omega
        have HQ := Lib.hid hroom; have HK := Lib.hid hk1; have HR := Lib.hid hfr
        clear hg hroom hk1 hfr hsink hp
        generalize hfd : 7 - m.length % 8 = fr at c1 hfe hf7 HQ HK
        have HFD := Lib.hid hfd; clear hfd
        go_wp2_with fail
        have hroom := HQ.out; have hk1 := HK.out
        clear HQ HK c0 c1 f0 f1
        generalize wr.setCell ⟨g, 1, none⟩ (Value.int .i64 (fr : Int)) = wq at hroom hk1 ⊢
        clear hf7 hfe
        obtain ⟨hpq, hgq, hr, hrg, hownq⟩ := hroom
        obtain ⟨c0, c1, f0, f1⟩ := two_cells hgq
        have hx := byteAt_lt hbin (m.length / 8)
        have c2 : wq.cell? ⟨r, m.length / 8, none⟩ = some (.int .u8 ((byteAt m (m.length / 8) : Nat) : Int)) := by
          rw [hownq.cellAt (m.length / 8) (by omega)]; simp [u8s, packBZ_at]
        have f2 := hownq.frozenAt (m.length / 8)
        have hput := room_put ⟨hpq, hgq, hr, hrg, hownq⟩ (n / 2 ^ k % 2)
        have hor := or_room (byteAt m (m.length / 8)) (n / 2 ^ k % 2) (7 - m.length % 8) (by have := byteAt_room m; rwa [show 8 - m.length % 8 = 7 - m.length % 8 + 1 from by omega] at this) (by omega)
        have hbit := bit_of n k hn
        have hb2 : n / 2 ^ k % 2 < 2 := by omega
        have hbl : bitsOf n (k + 1) = [n / 2 ^ k % 2] ++ bitsOf n k := rfl
        have HBL := Lib.hid hbl
        clear hbl
        have hfin := or_wrap (byteAt m (m.length / 8)) (n / 2 ^ k % 2) (7 - m.length % 8) hx hb2 (by omega) hor
        generalize byteAt m (m.length / 8) + n / 2 ^ k % 2 * 2 ^ (7 - m.length % 8) = y at hput hfin
        have Hput := Lib.hid hput
        clear hput hor hgq hownq hpq hbin
        generalize byteAt m (m.length / 8) = x at hx c2 hfin
        generalize m.length / 8 = q at hmq c0 c2 f2 Hput ⊢
        have hf7 : 7 - m.length % 8 ≤ 7 := by omega
        generalize 7 - m.length % 8 = f at c1 hfin hf7 ⊢
        generalize n / 2 ^ k % 2 = b at hbit Hput hb2 HBL hfin
        have hb3 : (0 : Int) ≤ (b : Int) := by omega
        have hb4 : (b : Int) < 2 := by omega
        have hw1 : IntKind.i64.wrap (q : Int) = q := IntWalk.i64_in _ (by omega)
        have hw2 : (0 : Int) ≤ (q : Int) := by omega
        have hw3 : (q : Int) < (q : Int) + 1 := by omega
        refine Seq.region_seq (S := fun w' => w'.cell? ⟨g, 0, none⟩ = some (.slice (some ⟨r, 0, none⟩) (q + 1) cap) ∧ w'.cell? ⟨g, 1, none⟩ = some (.int .i64 (f : Int)))
          [(0, false), (1, false), (2, false), (3, false), (4, false), (5, false), (6, false), (7, false), (8, false), (9, false), (10, false), (12, false), (13, false), (14, false), (15, false), (16, false), (17, false), (18, false), (19, false), (20, false), (21, false), (11, true), (22, false), (23, false), (24, true)]
          (by kernel_rfl) (by kernel_rfl) (fun _ _ d _ _ h => by cases d <;> exact h) ⟨c0, c1⟩ ?_
        simp only [Seq.lay, List.getElem?_cons_zero, List.getElem?_cons_succ]
        repeat (first
          | (refine Seq.seq_read (v := ?_) (by rfl) ?_ ?_
             rotate_left
             · (intro w' hS; obtain ⟨s0, s1⟩ := hS; go_simp; with_reducible rfl)
             simp only [Act.put, List.setIfInBounds_toArray, List.set_cons_zero, List.set_cons_succ]))
        refine Seq.seq_do (by rfl) (fun K hK => ?_)
        go_simp
        refine hK _ _ ⟨c0, c1⟩ ?_
        clear hK K
        repeat (first
          | (refine Seq.seq_read (v := ?_) (by rfl) ?_ ?_
             rotate_left
             · (intro w' hS; obtain ⟨s0, s1⟩ := hS; go_simp; with_reducible rfl)
             simp only [Act.put, List.setIfInBounds_toArray, List.set_cons_zero, List.set_cons_succ]))
        refine Seq.seq_do (by rfl) (fun K hK => ?_)
        go_simp
        refine hK _ _ ⟨?_, ?_⟩ ?_
        · exact (World.cell?_of_block (w := wq) (heap_setCell_other _ _ _ _ (by simpa using hrg.symm))).trans c0
        · exact (World.cell?_of_block (w := wq) (heap_setCell_other _ _ _ _ (by simpa using hrg.symm))).trans c1
        clear hK K
        refine Seq.seq_nil ?_
        go_wp2_with fail
        go_roundw
        case rel =>
          refine ⟨k, pre ++ [b], by omega, by go_num, ?_, ?_, (hkept.trans hk1).setCell (fun h => absurd h hr) _ |>.drew⟩
          · rw [← HP.out, HBL.out, List.append_assoc]
          · rw [← List.append_assoc, HM.out]; exact Hput.out
        case measure => simp [intOf]
end
end Go.Proofs.YtnpokgjehapmjaaDoor.BitsS
end

section
namespace Go.Proofs.YtnpokgjehapmjaaDoor.BitsT
open Go.RowKit Mem BitsP BitsS

def btx (l : List Nat) : ByteArray := ⟨((packB l).map UInt8.ofNat).toArray⟩
set_option maxHeartbeats 1000000 in
theorem text_any {T : Nat} (g : Nat) (p : Nat → Prop) (l : List Nat) (w : World) (hl : Bin l) (h : SinkT T w g p l) :
    Calls Tryd.prog 32 #[.pointer (some ⟨g, 0, none⟩)] w (fun e w' => e = .returned (.string (btx l)) ∧ w = w') := by
  obtain ⟨hp, v, hg, hv, hown⟩ := h
  obtain ⟨c0, c1, f0, f1⟩ := two_cells hg
  have hb : ∀ x ∈ packB l, x < 256 := fun x hx => by
    simp only [packB, List.mem_map] at hx
    obtain ⟨j, _, rfl⟩ := hx
    exact byteAt_lt hl j
  unfold btx
  generalize packB l = q at hown hb ⊢
  rcases hown.2 with ⟨rfl, h2⟩ | ⟨r, cap, cur, rfl, hg', hh, _⟩
  · obtain rfl : q = [] := List.eq_nil_of_length_eq_zero h2
    clear hg hown hp hv
    have kb : (convert 55 9 (.slice none 0 0)).run Tryd.prog w = .ok (.string ByteArray.empty) w := run_convert_bytes_nil w 55 5 Tryd.underlying55 Tryd.underlying5 0 0 9 Tryd.underlying9
    clear hb f0 f1 h2 c1 hl
    go_enter Tryd.func32, Tryd.ntmps32
    go_wp2_with fail
    go_ret
    exact ⟨rfl, rfl⟩
  · have kb := run_convert_bytes_back (P := Tryd.prog) w 55 9 5 ⟨r, 0, none⟩ cap (q.map UInt8.ofNat) Tryd.underlying55 Tryd.underlying5 Tryd.underlying9 (fun j hj => by
      have hj' : j < q.length := by simpa using hj
      have hx := hb q[j] (List.getElem_mem hj')
      have hc := hown.cellAt j (by omega)
      have e : (u8s q)[j]? = some (.int .u8 (((q.map UInt8.ofNat)[j]).toNat : Int)) := by
        simp [u8s, hj', UInt8.toNat_ofNat']; omega
      rw [e] at hc
      unfold Addr.add
      split
      · subst_vars; exact hc
      · simpa using hc)
    simp only [List.length_map] at kb
    clear hg hown hp hv hb hg' hh
    go_enter Tryd.func32, Tryd.ntmps32
    go_wp2_with fail
    go_ret
    exact ⟨rfl, rfl⟩

/-- The source at block g: its text, and the next bit. -/
def SrcT (T : Nat) (w : World) (g : Nat) (s : ByteArray) (n : Nat) : Prop := w.heap[g]? = some (.cells #[.string s, .int .i64 (n : Int)] T (0, 0))
abbrev SrcAt := SrcT 77
section
variable {ty : Nat}
theorem SrcT.below {w w' : World} {g : Nat} {s : ByteArray} {n : Nat} (h : SrcT ty w g s n) (hb : Below w.heap.size w w') : SrcT ty w' g s n := (hb.block g (block_lt h)).trans h
theorem left_any (g : Nat) (s : ByteArray) (n : Nat) (w : World) (hs : 8 * s.size ≤ 9223372036854775807) (hn : n ≤ 8 * s.size) (h : SrcT ty w g s n) :
    Calls Tryd.prog 40 #[.pointer (some ⟨g, 0, none⟩)] w (fun e w' => e = .returned (.int .i64 ((8 * s.size - n : Nat) : Int)) ∧ Below w.heap.size w w') := by
  obtain ⟨c0, c1, f0, f1⟩ := two_cells h
  have hw1 : IntKind.i64.wrap (8 * (s.size : Int)) = 8 * (s.size : Int) := IntWalk.i64_in _ (by omega)
  have hw2 : IntKind.i64.wrap (8 * (s.size : Int) - (n : Int)) = 8 * (s.size : Int) - (n : Int) := IntWalk.i64_in _ (by omega)
  have e : ((8 * s.size - n : Nat) : Int) = 8 * (s.size : Int) - (n : Int) := by omega
  rw [e]
  clear h e
  go_enter Tryd.func40, Tryd.ntmps40
  go_wp2_with fail
  go_quiet (fail)
  go_wp2_with fail
  go_ret
  exact ⟨rfl, below_drewN (Below.refl _ _) _⟩

theorem bit_of8 (n k : Nat) (hn : n < 256) : bits .and .u8 ((n : Int) / 2 ^ k) 1 = ((n / 2 ^ k % 2 : Nat) : Int) := by
  have e : ((n : Int) / 2 ^ k) = ((n / 2 ^ k : Nat) : Int) := by simp
  rw [e, show (1 : Int) = ((1 : Nat) : Int) from rfl, u8_and_nat _ 1 (Nat.lt_of_le_of_lt (Nat.div_le_self _ _) hn) (by omega), nat_mask1]
theorem or_next (N b : Nat) (hN : N < 9223372036854775808) (hb : b < 2) : bits .or .u64 ((N : Int) * 2) (b : Int) = ((2 * N + b : Nat) : Int) := by
  rw [show (N : Int) * 2 = ((2 * N : Nat) : Int) from by omega, u64_or_nat (2 * N) b (by omega) (by omega), nat_join 1 (2 * N) b (by omega) (by omega)]
theorem take_next (l : List Nat) (i k b : Nat) (h : l[i + k]? = some b) : (l.drop i).take (k + 1) = (l.drop i).take k ++ [b] := by
  obtain ⟨hl, rfl⟩ := List.getElem?_eq_some_iff.1 h
  rw [List.take_succ_eq_append_getElem (by simp; omega)]
  simp
set_option maxHeartbeats 2000000 in
theorem get_any (g : Nat) (s : ByteArray) (n W : Nat) (w : World) (hs : 8 * s.size ≤ 9223372036854775807) (hW : W ≤ 64) (hn : n + W ≤ 8 * s.size) (h : SrcT ty w g s n) :
    Calls Tryd.prog 41 #[.pointer (some ⟨g, 0, none⟩), .int .i64 W] w (fun e w' => e = .returned (.int .u64 (num (((tbits s.data.toList).drop n).take W))) ∧ SrcT ty w' g s (n + W) ∧ Kept (· ≠ g) w w') := by
  have hbin := tbits_bin s.data.toList
  have hsl : s.data.toList.length = s.size := by simp
  have htb := fun i (hi : i < 8 * s.data.toList.length) => tbits_at s.data.toList i hi
  have HTB := Lib.hid htb; have HSL := Lib.hid hsl; clear htb hsl
  generalize tbits s.data.toList = T at hbin HTB ⊢
  go_enter Tryd.func41, Tryd.ntmps41
  go_wp2_with fail
  go_loopw [4, 7] (fun v i wr => ∃ k : Nat, k ≤ W ∧ i = .int .i64 k ∧ v = .int .u64 (num ((T.drop n).take k)) ∧ SrcT ty wr g s (n + k) ∧ Kept (· ≠ g) w wr) (fun _ i _ => W - (intOf i).toNat)
  case atStart => exact ⟨0, Nat.zero_le _, rfl, rfl, h, Kept.refl _ _⟩
  case round =>
    obtain ⟨k, hk, rfl, rfl, hsrc, hkept⟩ := hrel
    have hlt64 : num ((T.drop n).take k) < 2 ^ k := Nat.lt_of_lt_of_le (num_lt (fun b hb => hbin b (List.mem_of_mem_drop (List.mem_of_mem_take hb)))) (Nat.pow_le_pow_right (by omega) (List.length_take_le _ _))
    by_cases hlt : k < W
    · obtain ⟨c0, c1, f0, f1⟩ := two_cells hsrc
      have hq : (n + k) / 8 < s.size := by omega
      have hb := HTB.out (n + k) (by rw [HSL.out]; omega)
      have htk := take_next T n k _ hb
      have hns := num_snoc ((T.drop n).take k) (s.data.toList[(n + k) / 8].toNat / 2 ^ (7 - (n + k) % 8) % 2)
      rw [← htk] at hns
      have HNS := Lib.hid hns; have HSRC := Lib.hid hsrc
      clear hns htk hb hsrc
      have HN := Lib.hid hn
      generalize hi0 : n + k = i0 at c1 hq HNS HSRC hkept
      have HI := Lib.hid hi0
      have hi1 : (i0 : Int) + 1 ≤ 9223372036854775807 := by omega
      clear hi0 hn
      have hc256 : s[i0 / 8].toNat < 256 := UInt8.toNat_lt _
      have hidx : s.data.toList[i0 / 8] = s[i0 / 8] := rfl
      rw [hidx] at HNS
      clear hidx
      have hd : IntKind.i64.wrap ((i0 : Int) / 8) = ((i0 / 8 : Nat) : Int) := by rw [IntWalk.i64_in _ (by omega)]; omega
      have hr : (i0 : Int).tmod 8 = ((i0 % 8 : Nat) : Int) := by rw [Int.tmod_eq_emod_of_nonneg (by omega)]; omega
      have hf : IntKind.i64.wrap (7 - ((i0 % 8 : Nat) : Int)) = ((7 - i0 % 8 : Nat) : Int) := by rw [IntWalk.i64_in _ (by omega)]; omega
      have hf7 : 7 - i0 % 8 ≤ 7 := by omega
      generalize 7 - i0 % 8 = f at hf hf7 HNS
      generalize i0 % 8 = r at hr hf
      obtain ⟨q, hqe⟩ : ∃ q, q = i0 / 8 := ⟨_, rfl⟩
      have hql : q < s.size := by omega
      have hcq : s[i0 / 8] = s[q] := by subst hqe; rfl
      rw [hcq] at HNS hc256
      rw [← hqe] at hd
      have HQ := Lib.hid hqe
      clear hqe hcq hq
      have hq2 : (q : Int) < (s.size : Int) := by omega
      have hq3 : (0 : Int) ≤ (q : Int) := by omega
      have hbit := bit_of8 s[q].toNat f hc256
      have hb2 : s[q].toNat / 2 ^ f % 2 < 2 := by omega
      have hN : num ((T.drop n).take k) < 9223372036854775808 := Nat.lt_of_lt_of_le hlt64 (Nat.le_trans (Nat.pow_le_pow_right (by omega) (show k ≤ 63 by omega)) (by decide))
      generalize s[q].toNat / 2 ^ f % 2 = b at hbit hb2 HNS
      generalize num ((T.drop n).take k) = N at hN HNS hlt64
      have HOR := Lib.hid (or_next N b hN hb2)
      go_wp2_with fail
      refine Seq.region_seq (S := fun w' => w'.cell? ⟨g, 0, none⟩ = some (.string s) ∧ w'.cell? ⟨g, 1, none⟩ = some (.int .i64 (i0 : Int)))
        [(0, false), (1, false), (2, false), (3, false), (4, false), (5, false), (6, false), (7, false), (8, false), (9, false), (10, false), (11, false), (12, false), (13, false), (14, false), (15, false), (16, false), (17, false), (18, false)]
        (by kernel_rfl) (by kernel_rfl) (fun _ _ d _ _ h => by cases d <;> exact h) ⟨c0, c1⟩ ?_
      simp only [Seq.lay, List.getElem?_cons_zero, List.getElem?_cons_succ]
      repeat (first
        | (refine Seq.seq_read (v := ?_) (by rfl) ?_ ?_
           rotate_left
           · (intro w' hS; obtain ⟨s0, s1⟩ := hS; go_simp; with_reducible rfl)
           simp only [Act.put, List.setIfInBounds_toArray, List.set_cons_zero, List.set_cons_succ]))
      refine Seq.seq_nil ?_
      go_wp2_with fail
      go_roundw
      case rel =>
        refine ⟨k + 1, by omega, by go_num, by rw [HOR.out, HNS.out], ?_, (hkept.setCell (fun h => absurd rfl h) _).drew⟩
        have h1 := two_set1 HSRC.out (.int .i64 ((i0 : Int) + 1))
        have h2 := HI.out
        unfold SrcT
        rw [show ((n + (k + 1) : Nat) : Int) = (i0 : Int) + 1 from by omega]
        exact h1
      case measure => simp [intOf]; omega
    · obtain rfl : k = W := by omega
      go_wp2_with fail
      go_ret
      exact ⟨rfl, hsrc, hkept⟩
end
end Go.Proofs.YtnpokgjehapmjaaDoor.BitsT
end

section
namespace Go.Proofs.YtnpokgjehapmjaaDoor.WordP

/-- A great letter made small. -/
def foldB (c : UInt8) : UInt8 := if 65 ≤ c.toNat ∧ c.toNat ≤ 90 then UInt8.ofNat (c.toNat + 32) else c
def fold (l : List UInt8) : List UInt8 := l.map foldB
def blankB (c : UInt8) : Bool := c.toNat == 32 || c.toNat == 9
/-- What is left without the last ones that p lets. -/
def rdrop (p : UInt8 → Bool) (l : List UInt8) : List UInt8 := (l.reverse.dropWhile p).reverse
/-- Blanks trimmed at both ends. -/
def trim (l : List UInt8) : List UInt8 := rdrop blankB (l.dropWhile blankB)
/-- The signs that part words. -/
def bad : List UInt8 := [40, 41, 60, 62, 64, 44, 59, 58, 92, 34, 47, 91, 93, 63, 61, 123, 125]
def tokB (c : UInt8) : Bool := decide (33 ≤ c.toNat) && decide (c.toNat ≤ 126) && !bad.contains c
def token (l : List UInt8) : Bool := !l.isEmpty && l.all tokB
end Go.Proofs.YtnpokgjehapmjaaDoor.WordP
end

section
namespace Go.Proofs.YtnpokgjehapmjaaDoor.OneB
open Go.RowKit Mem
end Go.Proofs.YtnpokgjehapmjaaDoor.OneB
end

section
namespace Go.Proofs.YtnpokgjehapmjaaDoor.WordW
open Go.RowKit Mem WordP OneB

theorem take_snocB (s : ByteArray) (k : Nat) (h : k < s.size) : s.data.toList.take (k + 1) = s.data.toList.take k ++ [s[k]] := by
  rw [List.take_succ_eq_append_getElem (by simpa using h)]; rfl
def str (l : List UInt8) : ByteArray := ⟨l.toArray⟩
theorem str_size (l : List UInt8) : (str l).size = l.length := by simp [str, ByteArray.size]

/-- The bytes of a conversion, the first k of them folded. -/
def HalfRow (w : World) (g : Nat) (s : ByteArray) (k : Nat) : Prop :=
  ∃ C : Array Value, w.heap[g]? = some (.cells C 5 (C.size, C.size + 1)) ∧ s.size ≤ C.size ∧ ∀ j (hj : j < s.size), C[j]? = some (.int .u8 ((if j < k then foldB s[j] else s[j]).toNat : Int))
end Go.Proofs.YtnpokgjehapmjaaDoor.WordW
end
