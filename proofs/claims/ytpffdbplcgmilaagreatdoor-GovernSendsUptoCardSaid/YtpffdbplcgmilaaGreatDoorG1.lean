/- Texts of the proof, joined: Mem, Facts. -/
import Derived.WalkKit
import Derived.Below
import Derived.OwnWalk
import Derived.Laws.AppendOwn
import Derived.Laws.OwnMore
import Derived.Laws.AppendOwnNone
import Derived.Maps.AppendAt
import Derived.Lib.Hide
import Derived.BigQuiet
import Derived.OrdersHeld
import Derived.KernelRfl
import Derived.Tactics
section
namespace Go.Proofs.YtpffdbplcgmilaaGreatDoor.Mem
open Go.RowKit

/-- A row of cells, below block B. -/
def Row (w : World) (B : Nat) (A : Option Addr) (cs : List Value) : Prop := 0 < cs.length → ∃ b o, A = some ⟨b, o, none⟩ ∧ b < B ∧ ∀ j (hj : j < cs.length), w.cell? ⟨b, o + j, none⟩ = some cs[j]
theorem Row.below {w w' : World} {B : Nat} {A : Option Addr} {cs : List Value} (h : Row w B A cs) (hb : Below B w w') : Row w' B A cs := fun hl => by
  obtain ⟨b, o, e, hlt, hc⟩ := h hl
  exact ⟨b, o, e, hlt, fun j hj => (hb.cell (p := ⟨b, o + j, none⟩) hlt).trans (hc j hj)⟩
theorem Row.more {w : World} {B B' : Nat} {A : Option Addr} {cs : List Value} (h : Row w B A cs) (hB : B ≤ B') : Row w B' A cs := fun hl => by
  obtain ⟨b, o, e, hlt, hc⟩ := h hl
  exact ⟨b, o, e, by omega, hc⟩
theorem Row.at' {w w' : World} {A : Option Addr} {cs : List Value} (h : Row w w.heap.size A cs) (hb : Below w.heap.size w w') : Row w' w'.heap.size A cs := (h.below hb).more hb.size
theorem Row.nil (w : World) (B : Nat) (A : Option Addr) : Row w B A [] := fun h => absurd h (by decide)
theorem Row.lit (w : World) (t : TypeId) (cs : List Value) (B : Nat) (hB : w.heap.size < B) : Row (w.alloc (.cells cs.toArray t)) B (some ⟨w.heap.size, 0, none⟩) cs := fun _ => by
  refine ⟨w.heap.size, 0, rfl, hB, fun j hj => ?_⟩
  rw [Nat.zero_add]
  simp [World.cell?_alloc_new, hj]
theorem Row.drew {w : World} {B : Nat} {A : Option Addr} {cs : List Value} (h : Row w B A cs) : Row w.drew B A cs := h
/-- The cells of element j. -/
theorem Row.open' {w : World} {B : Nat} {A : Option Addr} {cs : List Value} (h : Row w B A cs) (hl : 0 < cs.length) : ∃ b o, A = some ⟨b, o, none⟩ ∧ b < B ∧ ∀ j u, cs[j]? = some u → w.cell? ⟨b, o + j, none⟩ = some u := by
  obtain ⟨b, o, e, hlt, hc⟩ := h hl
  refine ⟨b, o, e, hlt, fun j u hu => ?_⟩
  obtain ⟨hj, rfl⟩ := List.getElem?_eq_some_iff.1 hu
  exact hc j hj
theorem flat_at {α : Type} (enc : α → List Value) (size : Nat) (hs : ∀ x, (enc x).length = size) : ∀ (L : List α) (j i : Nat) (hj : j < L.length) (_hi : i < size), (L.flatMap enc)[j * size + i]? = (enc L[j])[i]?
  | x :: L, 0, i, _, hi => by
    rw [List.flatMap_cons, List.getElem?_append_left (by rw [hs]; omega)]; simp
  | x :: L, j + 1, i, hj, hi => by
    rw [List.flatMap_cons, List.getElem?_append_right (by rw [hs, Nat.add_mul]; omega), hs]
    have := flat_at enc size hs L j i (by simpa using hj) hi
    rw [show (j + 1) * size + i - size = j * size + i from by rw [Nat.add_mul]; omega, this]; rfl
theorem flat_len {α : Type} (enc : α → List Value) (size : Nat) (hs : ∀ x, (enc x).length = size) (L : List α) : (L.flatMap enc).length = L.length * size := by
  induction L with
  | nil => simp
  | cons x L ih => rw [List.flatMap_cons, List.length_append, hs, ih, List.length_cons, Nat.add_mul]; omega

/-- The cells of a row of structs, as the walk spells their addresses. -/
theorem Row.elems {w : World} {B : Nat} {A : Option Addr} {α : Type} {enc : α → List Value} {size : Nat} (hs : ∀ x, (enc x).length = size) {L : List α} (h : Row w B A (L.flatMap enc)) (h0 : 0 < size) (hl : 0 < L.length) :
    ∃ b o, A = some ⟨b, o, none⟩ ∧ b < B ∧ ∀ j (hj : j < L.length) i u, (enc L[j])[i]? = some u → w.cell? ⟨b, o + j * size + i, none⟩ = some u := by
  obtain ⟨b, o, e, hlt, hc⟩ := h.open' (by rw [flat_len enc size hs]; exact Nat.mul_pos hl h0)
  refine ⟨b, o, e, hlt, fun j hj i u hu => ?_⟩
  have hi : i < size := by
    obtain ⟨hi, _⟩ := List.getElem?_eq_some_iff.1 hu
    rwa [hs] at hi
  have := hc (j * size + i) u ((flat_at enc size hs L j i hj hi).trans hu)
  rwa [← Nat.add_assoc] at this
/-- The element type of a slice type, all that append asks of it. -/
def Elem (P : Program) (t e : TypeId) (size bytes : Nat) : Prop := ∃ (i : TypeInfo) (z : Value), P.underlying t = some (.slice e) ∧ P.info? e = some i ∧ i.zero = some z ∧ i.size = size ∧ i.bytes = bytes ∧ z.cells.size = size ∧ 0 < size
theorem Elem.mk {P : Program} {t e : TypeId} {z : Value} {size bytes : Nat} (ht : P.underlying t = some (.slice e)) (h : (P.info? e).map (fun i => (i.zero, i.size, i.bytes)) = some (some z, size, bytes)) (hz : z.cells.size = size) (hs : 0 < size) : Elem P t e size bytes := by
  obtain ⟨i0, hi, hz0, hz1, hz2⟩ := info_parts h
  exact ⟨i0, z, ht, hi, hz0, hz1, hz2, hz, hs⟩

section
variable {P : Program} {w : World}
/-- append(own, handed...), whatever was handed; at the operation. -/
theorem wp_app {o : Oper} {a : Act} {K : Act → World → Prop} {Q : Exit → Act → World → Prop} {t e : TypeId} {size bytes : Nat} (E : Elem P t e size bytes) (s x : Operand)
    (ho : o.op = .call { callee := .builtin .append, args := #[s, x], argTypes := #[t, t] })
    (base : Nat) (v : Value) (n : Nat) (xs : List Value) (hs : a.eval s = v) (hown : w.ownsRow base e size v n xs)
    (A : Option Addr) (m c : Nat) (news : List Value) (B : Nat) (hx : a.eval x = .slice A m c) (hl : news.length = m * size) (hr : Row w B A news) (h1 : ∀ u ∈ news, u.oneCell' = true) (hnil : A = none → c = 0)
    (hby : (n + m) * bytes ≤ 140737488355328) (hmax : n + m ≤ 9223372036854775807) (hbase : base ≤ w.heap.size)
    (h : ∀ v' w', w'.ownsRow base e size v' (n + m) (xs ++ news) → w.grownBy w' v.ownBlock → K (a.put o.dst v') w') : o.wp P a w K Q := by
  obtain ⟨i, z, ht, hi, hz, hsize, hbytes, hzs, hsz⟩ := E
  cases A with
  | none =>
    have hm : news = [] := by
      rcases news with _ | ⟨y, l⟩
      · rfl
      · obtain ⟨_, _, e, _⟩ := hr (by simp)
        cases e
    subst hm
    have hm0 : m = 0 := by
      rcases m with _ | m
      · rfl
      · rw [Nat.add_mul] at hl; simp at hl; omega
    subst hm0
    rw [hnil rfl] at hx
    have hrun := run_append_owned_none (P := P) (w := w) base t o.type e i size ht hi v n xs hown
    unfold Oper.wp
    simp [execOp, ho, resolve, invoke, builtin, hs, hx, hrun, Result.andThen]
    exact h v w (by simpa using hown) ⟨rfl, rfl, rfl, Nat.le_refl _, fun _ _ _ => rfl⟩
  | some ad =>
    refine wp_append_own w s x t ho base e i z size bytes ht hi hz hsize hbytes hzs hsz v n xs hs hown ad m c news hx hl ?_ h1 (by unfold maxLen; omega) hby hbase fun v' w' h2 h3 _ => h v' w' h2 h3
    intro j u hj
    obtain ⟨hjl, rfl⟩ := List.getElem?_eq_some_iff.1 hj
    obtain ⟨b, o', e', _, hc⟩ := hr (by omega)
    cases e'
    have := hc j hjl
    unfold Addr.add
    split
    · subst_vars; simpa using this
    · exact this
/-- The same, for the walk. -/
theorem app {ops : Array Oper} {rest : List Oper} {o : Oper} {a : Act} {Q : Exit → Act → World → Prop} {t e : TypeId} {size bytes : Nat} (E : Elem P t e size bytes) (hgd : o.guard = none) (s x : Operand)
    (ho : o.op = .call { callee := .builtin .append, args := #[s, x], argTypes := #[t, t] })
    (base : Nat) (v : Value) (n : Nat) (xs : List Value) (hs : a.eval s = v) (hown : w.ownsRow base e size v n xs)
    (A : Option Addr) (m c : Nat) (news : List Value) (B : Nat) (hx : a.eval x = .slice A m c) (hl : news.length = m * size) (hr : Row w B A news) (h1 : ∀ u ∈ news, u.oneCell' = true) (hnil : A = none → c = 0)
    (hby : (n + m) * bytes ≤ 140737488355328) (hmax : n + m ≤ 9223372036854775807) (hbase : base ≤ w.heap.size)
    (h : ∀ v' w', w'.ownsRow base e size v' (n + m) (xs ++ news) → w.grownBy w' v.ownBlock → wpList P ops Q rest (a.put o.dst v') w') : wpList P ops Q (o :: rest) a w :=
  wpList_plain hgd fun _ hK => wp_app E s x ho base v n xs hs hown A m c news B hx hl hr h1 hnil hby hmax hbase fun v' w' h2 h3 => hK _ _ (h v' w' h2 h3)
end

/-- All blocks that p names are as they were. -/
structure Kept (p : Nat → Prop) (w w' : World) : Prop where
  os : w'.os = w.os
  tape : w'.tape = w.tape
  output : w'.output = w.output
  size : w.heap.size ≤ w'.heap.size
  block : ∀ k, k < w.heap.size → p k → w'.heap[k]? = w.heap[k]?
theorem Kept.refl (p : Nat → Prop) (w : World) : Kept p w w := ⟨rfl, rfl, rfl, Nat.le_refl _, fun _ _ _ => rfl⟩
theorem Kept.trans {p : Nat → Prop} {a b c : World} (h : Kept p a b) (k : Kept p b c) : Kept p a c :=
  ⟨k.os.trans h.os, k.tape.trans h.tape, k.output.trans h.output, Nat.le_trans h.size k.size, fun i hi hp => (k.block i (Nat.lt_of_lt_of_le hi h.size) hp).trans (h.block i hi hp)⟩
theorem Kept.drew {p : Nat → Prop} {a w : World} (h : Kept p a w) : Kept p a w.drew := ⟨h.os, h.tape, h.output, h.size, h.block⟩
theorem Kept.alloc {p : Nat → Prop} {a w : World} (h : Kept p a w) (o : Obj) : Kept p a (w.alloc o) :=
  ⟨h.os, h.tape, h.output, Nat.le_trans h.size (by simp), fun i hi hp => (Below.heap_alloc w o i (Nat.lt_of_lt_of_le hi h.size)).trans (h.block i hi hp)⟩
theorem Kept.setCell {p : Nat → Prop} {a w : World} (h : Kept p a w) {q : Addr} (hq : p q.block → a.heap.size ≤ q.block) (u : Value) : Kept p a (w.setCell q u) :=
  ⟨h.os, h.tape, h.output, by simpa [World.setCell] using h.size, fun i hi hp => (Below.heap_setCell w q u i (by
    rintro rfl
    have := hq hp
    omega)).trans (h.block i hi hp)⟩
theorem Kept.grown {p : Nat → Prop} {a w w' : World} {row : Option Nat} (h : Kept p a w) (g : w.grownBy w' row) (hr : ∀ k, row = some k → p k → a.heap.size ≤ k) : Kept p a w' :=
  ⟨g.os.trans h.os, g.tape.trans h.tape, g.output.trans h.output, Nat.le_trans h.size g.size, fun i hi hp => (g.block i (Nat.lt_of_lt_of_le hi h.size) (fun e => by
    have := hr i e.symm hp
    omega)).trans (h.block i hi hp)⟩
theorem Kept.of_below {p : Nat → Prop} {a w : World} (h : Below a.heap.size a w) : Kept p a w := ⟨h.os, h.tape, h.output, h.size, fun k hk _ => h.block k hk⟩
theorem Kept.below {p : Nat → Prop} {B : Nat} {a w : World} (h : Kept p a w) (hB : B ≤ a.heap.size) (hp : ∀ k, k < B → p k) : Below B a w := ⟨h.os, h.tape, h.output, h.size, fun k hk => h.block k (by omega) (hp k hk)⟩
theorem Kept.cell {p : Nat → Prop} {w w' : World} (h : Kept p w w') {q : Addr} (hl : q.block < w.heap.size) (hq : p q.block) : w'.cell? q = w.cell? q := World.cell?_of_block (w := w) (h.block q.block hl hq)
theorem Kept.mono {p q : Nat → Prop} {w w' : World} (h : Kept p w w') (hq : ∀ k, q k → p k) : Kept q w w' := ⟨h.os, h.tape, h.output, h.size, fun k hk hp => h.block k hk (hq k hp)⟩

section
variable {P : Program} {w : World}
end
theorem block_lt {w : World} {g : Nat} {o : Obj} (h : w.heap[g]? = some o) : g < w.heap.size := by
  rcases Nat.lt_or_ge g w.heap.size with h' | h'
  · exact h'
  · simp [Array.getElem?_eq_none h'] at h
theorem Row.grown {w w' : World} {B : Nat} {A : Option Addr} {cs : List Value} {row : Option Nat} (h : Row w B A cs) (hB : B ≤ w.heap.size) (g : w.grownBy w' row) (hne : ∀ b o, A = some ⟨b, o, none⟩ → row ≠ some b) : Row w' B A cs := fun hl => by
  obtain ⟨b, o, e, hlt, hc⟩ := h hl
  exact ⟨b, o, e, hlt, fun j hj => (World.cell?_of_block (w := w) (g.block b (by omega) (fun e2 => hne b o e e2.symm))).trans (hc j hj)⟩
theorem Row.dropN {w : World} {B b o : Nat} {cs : List Value} (h : Row w B (some ⟨b, o, none⟩) cs) (n : Nat) : Row w B (some ⟨b, o + n, none⟩) (cs.drop n) := fun hl => by
  rw [List.length_drop] at hl
  obtain ⟨b', o', e, hlt, hc⟩ := h (by omega)
  cases e
  refine ⟨_, _, rfl, hlt, fun j hj => ?_⟩
  rw [List.length_drop] at hj
  rw [Nat.add_assoc, hc (n + j) (by omega)]
  simp
theorem Row.takeN {w : World} {B : Nat} {A : Option Addr} {cs : List Value} (h : Row w B A cs) (n : Nat) : Row w B A (cs.take n) := fun hl => by
  rw [List.length_take] at hl
  obtain ⟨b', o', e, hlt, hc⟩ := h (by omega)
  refine ⟨_, _, e, hlt, fun j hj => ?_⟩
  rw [List.length_take] at hj
  rw [hc j (by omega)]
  simp
theorem flat_take {α : Type} (enc : α → List Value) (size : Nat) (hs : ∀ x, (enc x).length = size) (L : List α) (i : Nat) : (L.take i).flatMap enc = (L.flatMap enc).take (i * size) := by
  induction L generalizing i with
  | nil => simp
  | cons x L ih =>
    cases i with
    | zero => simp
    | succ i => rw [List.take_succ_cons, List.flatMap_cons, List.flatMap_cons, ih, List.take_append, hs, Nat.add_mul, List.take_of_length_le (l := enc x) (by rw [hs]; omega)]; congr 2; omega
theorem flat_drop {α : Type} (enc : α → List Value) (size : Nat) (hs : ∀ x, (enc x).length = size) (L : List α) (i : Nat) : (L.drop i).flatMap enc = (L.flatMap enc).drop (i * size) := by
  induction L generalizing i with
  | nil => simp
  | cons x L ih =>
    cases i with
    | zero => simp
    | succ i => rw [List.drop_succ_cons, List.flatMap_cons, ih, List.drop_append, hs, Nat.add_mul, List.drop_of_length_le (l := enc x) (by rw [hs]; omega), List.nil_append]; congr 1; omega
theorem Row.first {w : World} {B : Nat} {A : Option Addr} {α : Type} {enc : α → List Value} {size : Nat} (hs : ∀ x, (enc x).length = size) {L : List α} (h : Row w B A (L.flatMap enc)) (i : Nat) : Row w B A ((L.take i).flatMap enc) := by
  rw [flat_take enc size hs]; exact h.takeN _
theorem Row.behind {w : World} {B b o : Nat} {α : Type} {enc : α → List Value} {size : Nat} (hs : ∀ x, (enc x).length = size) {L : List α} (h : Row w B (some ⟨b, o, none⟩) (L.flatMap enc)) (i : Nat) : Row w B (some ⟨b, o + i * size, none⟩) ((L.drop i).flatMap enc) := by
  rw [flat_drop enc size hs]; exact h.dropN _
theorem flat_one {α : Type} (enc : α → List Value) (h : ∀ x, ∀ u ∈ enc x, u.oneCell' = true) (L : List α) : ∀ u ∈ L.flatMap enc, u.oneCell' = true := fun u hu => by
  simp only [List.mem_flatMap] at hu
  obtain ⟨x, _, hx⟩ := hu
  exact h x u hx
/-- What a call gives that leaves all that was there. -/
def Gives (v : Value) (w : World) (e : Ending) (w' : World) : Prop := e = .returned v ∧ Below w.heap.size w w'
/-- A call that gives a row of its own: nil, or a block of the call's own. -/
def GivesRow (base : Nat) (t : TypeId) (n : Nat) (xs : List Value) (w : World) (e : Ending) (w' : World) : Prop := ∃ v, e = .returned v ∧ w'.ownsRow base t 1 v n xs ∧ Below w.heap.size w w'
theorem ret_str {a b : ByteArray} (h : a = b) : Ending.returned (.string a) = .returned (.string b) := by rw [h]
end Go.Proofs.YtpffdbplcgmilaaGreatDoor.Mem
end

section
namespace Go.Proofs.YtpffdbplcgmilaaGreatDoor.Facts
open Go.RowKit

def after (ops : Array Oper) (i : Nat) : List Nat := match ops[i]? with
  | some o => (o.after.toList.filter (Region.binds .any)).map (·.on)
  | none => []
/-- Behind whom each one comes, by the edges. -/
def deps (ops : Array Oper) : List (List Nat) := (List.range ops.size).foldl (fun acc i => acc ++ [((after ops i).flatMap fun j => j :: acc.getD j []).eraseDups]) []
def okDeps (ops : Array Oper) (D : List (List Nat)) : Bool := D.length == ops.size && (List.range ops.size).all fun i => (after ops i).all (· < i) && (D.getD i []).all fun j => (after ops i).any fun e => e == j || (D.getD e []).contains j
def okDst (ops : List Oper) : Bool := match ops with
  | [] => true
  | o :: r => (match o.dst with | some d => r.all fun p => p.dst != some d | none => true) && okDst r
/-- What may be asked for at i: the facts of those that it waits for, and of what stood at the beginning (the m behind the operations), if none that may come before it has used it up. -/
def needs (D kills : List (List Nat)) (n m i : Nat) : List Nat := ((D.getD i []) ++ List.range' n m).filter fun j => (List.range n).all fun s => !(kills.getD s []).contains j || s == i || (D.getD s []).contains i
def left (kills : List (List Nat)) (n m : Nat) : List Nat := (List.range (n + m)).filter fun j => (List.range n).all fun s => !(kills.getD s []).contains j
def others (D kills : List (List Nat)) (n m i : Nat) : List Nat := (List.range (n + m)).filter fun j => j != i && !(kills.getD i []).contains j && !(D.getD j []).contains i
def okNeeds (D kills N O : List (List Nat)) (L : List Nat) (n m : Nat) : Bool := ((List.range n).all fun i => ((N.getD i []).all fun j => (needs D kills n m i).contains j) && ((O.getD i []).isEmpty || (others D kills n m i).all fun j => (O.getD i []).contains j)) && L.all fun j => (left kills n m).contains j
def AllL (p : Nat → Prop) : List Nat → Prop
  | [] => True
  | j :: r => p j ∧ AllL p r
/-- What is known: of its own value and of those that it names, in a world. -/
structure Fact where
  at' : List Nat
  says : List Value → World → Prop
def fill (vs : Nat → Value) : List Oper → Nat → Act → Act
  | [], _, a => a
  | o :: r, n, a => fill vs r (n + 1) (a.put o.dst (vs n))

section
variable {P : Program} {Q : Exit → Act → World → Prop}
theorem fill_congr {vs us : Nat → Value} : ∀ (ops : List Oper) (n : Nat) (a : Act), (∀ i, n ≤ i → vs i = us i) → fill vs ops n a = fill us ops n a
  | [], _, _, _ => rfl
  | o :: r, n, a, h => by
    unfold fill
    rw [h n (Nat.le_refl _), fill_congr r (n + 1) _ (fun i hi => h i (by omega))]
variable (F : List Fact) (I : World → Prop)
def fact (i : Nat) (v : Value) (vs : Nat → Value) (w : World) : Prop := match F[i]? with
  | some f => f.says (v :: f.at'.map vs) w
  | none => True
/-- Each fact speaks of its own value and of those that came before. -/
def okFacts (F : List Fact) (D : List (List Nat)) : Bool := (List.range F.length).all fun i => ((F[i]?).map (·.at')).getD [] |>.all fun j => (D.getD i []).contains j
/-- One operation's step. -/
def Step (P : Program) (Q : Exit → Act → World → Prop) (ops : Array Oper) (a0 : Act) (need oth : List Nat) (i : Nat) (o : Oper) : Prop :=
  ∀ vs w, I w → AllL (fun j => fact F j (vs j) vs w) need →
    (Region.wanted o (yielded ops (fill vs ops.toList 0 a0).tmps) = true ∧ ∀ K : Act → World → Prop, (∀ v w', I w' → fact F i v vs w' → (Below w.heap.size w w' ∨ (oth ≠ [] ∧ ∀ us : Nat → Value, AllL (fun j => fact F j (us j) us w → fact F j (us j) us w') oth)) → K ((fill vs ops.toList 0 a0).put o.dst v) w') → o.wp P (fill vs ops.toList 0 a0) w K Q)
    ∨ (Region.wanted o (yielded ops (fill vs ops.toList 0 a0).tmps) = false ∧ fact F i undef vs w)
def Steps (P : Program) (Q : Exit → Act → World → Prop) (ops : Array Oper) (a0 : Act) (N O : List (List Nat)) : List Oper → Nat → Prop
  | [], _ => True
  | o :: r, i => Step F I P Q ops a0 (N.getD i []) (O.getD i []) i o ∧ Steps P Q ops a0 N O r (i + 1)
structure St (m : Nat) (ops : Array Oper) (a0 : Act) (kills : List (List Nat)) (listed : Array Bool) (a : Act) (w : World) : Prop where
  size : listed.size = ops.size
  down : ∀ k o, ops[k]? = some o → listed.getD k true = true → ∀ e ∈ o.after, Region.binds .any e = true → listed.getD e.on false = true
  inv : I w
  acts : ∃ vs, a = fill vs ops.toList 0 a0 ∧ ∀ j, j < ops.size + m → listed.getD j true = true → (∀ s, s < ops.size → listed.getD s true = true → (kills.getD s []).contains j = false) → fact F j (vs j) vs w

theorem mem_after {ops : Array Oper} {i e : Nat} (h : e ∈ after ops i) : ∃ o x, ops[i]? = some o ∧ x ∈ o.after ∧ Region.binds .any x = true ∧ x.on = e := by
  unfold after at h
  split at h
  · rename_i o ho
    obtain ⟨x, hx, rfl⟩ := List.mem_map.1 h
    rw [List.mem_filter] at hx
    exact ⟨o, x, ho, by simpa using hx.1, hx.2, rfl⟩
  · cases h
theorem deps_listed {ops : Array Oper} {D : List (List Nat)} {listed : Array Bool} (hD : okDeps ops D = true) (hsz : listed.size = ops.size)
    (down : ∀ k o, ops[k]? = some o → listed.getD k true = true → ∀ e ∈ o.after, Region.binds .any e = true → listed.getD e.on false = true) :
    ∀ (n i : Nat), i < n → i < ops.size → (∀ o, ops[i]? = some o → ∀ e ∈ o.after, Region.binds .any e = true → listed.getD e.on false = true) → ∀ j ∈ D.getD i [], j < i ∧ listed.getD j true = true
  | 0, _, h, _, _, _, _ => absurd h (Nat.not_lt_zero _)
  | n + 1, i, hin, hi, hrd, j, hj => by
    have h1 := List.all_eq_true.1 (Bool.and_eq_true _ _ ▸ hD : _ ∧ _).2 i (List.mem_range.2 hi)
    rw [Bool.and_eq_true] at h1
    obtain ⟨e, he, hor⟩ := List.any_eq_true.1 (List.all_eq_true.1 h1.2 j hj)
    have hlt : e < i := by simpa using List.all_eq_true.1 h1.1 e he
    obtain ⟨o, x, ho, hx, hb, rfl⟩ := mem_after he
    have hl := hrd o ho x hx hb
    have hl' : listed.getD x.on true = true := by
      have hxs : x.on < listed.size := by omega
      simp [hxs] at hl ⊢
      exact hl
    rw [Bool.or_eq_true] at hor
    rcases hor with hor | hor
    · obtain rfl : x.on = j := by simpa using hor
      exact ⟨hlt, hl'⟩
    · have := deps_listed hD hsz down n x.on (by omega) (by omega) (fun o' ho' e' he' hb' => down x.on o' ho' hl' e' he' hb') j (by simpa using hor)
      exact ⟨by omega, this.2⟩
theorem getD_set {listed : Array Bool} {i j : Nat} (hi : i < listed.size) : (listed.setIfInBounds i true).getD j true = if j = i then true else listed.getD j true := by
  by_cases e : j = i
  · subst e; simp [hi]
  · rw [if_neg e, getD_set_ne true (Ne.symm e)]
theorem getD_set' {listed : Array Bool} {i j : Nat} (hi : i < listed.size) : (listed.setIfInBounds i true).getD j false = if j = i then true else listed.getD j false := by
  by_cases e : j = i
  · subst e; simp [hi]
  · rw [if_neg e, getD_set_ne false (Ne.symm e)]

end

/-! ### The steps -/
section
variable {P : Program} {Q : Exit → Act → World → Prop} {F : List Fact} {I : World → Prop} {ops : Array Oper} {a0 : Act} {need oth : List Nat} {i : Nat} {o : Oper}
abbrev at_ (ops : Array Oper) (a0 : Act) (vs : Nat → Value) : Act := fill vs ops.toList 0 a0
/-! ### What an operation does -/
variable {ρ : Operand → Value} {w : World}
/-- A struct's home. -/
def Home (w : World) (b : Nat) (t : TypeId) (cs : Array Value) : Prop := w.heap[b]? = some (.cells cs t (0, 0))
theorem Home.lt {w : World} {b : Nat} {t : TypeId} {cs : Array Value} (h : Home w b t cs) : b < w.heap.size := by
  rcases Nat.lt_or_ge b w.heap.size with h' | h'
  · exact h'
  · unfold Home at h; simp [Array.getElem?_eq_none h'] at h
theorem Home.below {w w' : World} {b : Nat} {t : TypeId} {cs : Array Value} (h : Home w b t cs) (hb : Below w.heap.size w w') : Home w' b t cs := (hb.block b h.lt).trans h
end
end Go.Proofs.YtpffdbplcgmilaaGreatDoor.Facts
end
