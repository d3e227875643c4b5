/- 'for x := range seq' where the iterator, a closure, writes a variable of its own between two rounds (block b), and the body never leaves. -/
import Derived.RangeFuncFrom
import Derived.RangeFuncNested
import Derived.Test.YtbacakgjhohedaaDoorMem
namespace Go.Proofs.YtbacakgjhohedaaDoor.Range
open Go.RowKit
section
variable {α : Type} {F : Fence} {n : Nat} {P : Program}

/-- It stands while blocks are made and block b turns. -/
def Lets (b : Nat) (J : List α → World → Prop) : Prop := ∀ xs W W' row, J xs W → W.grownBy W' row → (row = none ∨ row = some b) → J xs W'
/-- The iterator's word: it hands out what S says, one by one; between the rounds it turns block b alone; it reads blocks of K. -/
def Hands (F : Fence) (n : Nat) (P : Program) (g : Nat) (lb : Array Value) (encs : α → Array Value) (b : Nat) (K : Nat → Prop) (S : List α → Prop) (N : Nat) (w : World) : Prop :=
  ∀ (l : Nat) (J : List α → World → Prop) (W : World), (∀ k, K k → W.heap[k]? = w.heap[k]?) → w.heap.size ≤ W.heap.size → Lets b J →
    (∀ pre x V, J pre V → pre.length < N → YieldAt F (n - 1) P l (encs x) V fun e V' => e = .returned (.bool true) ∧ J (pre ++ [x]) V' ∧ (∀ k, K k → V'.heap[k]? = V.heap[k]?) ∧ V.heap.size ≤ V'.heap.size) →
    J [] W → CallsIn F n P g (#[.func (.yield l) #[] #[]] ++ lb) W fun e W' => (∃ v, e = .returned v) ∧ ∃ xs, S xs ∧ J xs W'
/-- What the caller says of its own: it stands while block b turns, and what is no cells from block B on. -/
def Mine (b B : Nat) (I : List α → World → Prop) : Prop := ∀ xs W W' row, I xs W → W.grownBy W' row → (∀ r, row = some r → r = b ∨ (B ≤ r ∧ ∃ o : Obj, W.heap[r]? = some o ∧ o.isCells = false)) → I xs W'
/-- The body's end. -/
def Round (K : Nat → Prop) (I : List α → World → Prop) (xs : List α) (W : World) : Exit → Act → World → Prop
  | .normal, _, W' => KeepsOthers W W' ∧ (∀ k, K k → W'.heap[k]? = W.heap[k]?) ∧ I xs W'
  | _, _, _ => False
theorem Mine.put {b B l : Nat} {I : List α → World → Prop} (h : Mine b B I) {xs : List α} {W : World} {o : Obj} (o' : Obj) (hi : I xs W) (hB : B ≤ l) (hl : W.heap[l]? = some o) (ho : o.isCells = false) : I xs (W.putObj l o') :=
  h xs W _ (some l) hi (grownBy_putObj' W l o') (fun r e => by cases e; exact .inr ⟨hB, o, hl, ho⟩)
theorem Mine.new {b B : Nat} {I : List α → World → Prop} (h : Mine b B I) {xs : List α} {W : World} (o : Obj) (hi : I xs W) : I xs (W.alloc o) :=
  h xs W _ none hi (World.grownBy_alloc W o none) (fun r e => by cases e)
theorem kept_of {W W' : World} {row : Option Nat} {b k : Nat} (g : W.grownBy W' row) (hr : row = none ∨ row = some b) (hk : k < W.heap.size) (hb : k ≠ b) : W'.heap[k]? = W.heap[k]? :=
  g.block k hk (fun e => by rcases hr with h | h <;> rw [h] at e <;> cases e; exact hb rfl)
theorem lt_of {W : World} {k : Nat} {o : Obj} (h : W.heap[k]? = some o) : k < W.heap.size := (Array.getElem?_eq_some_iff.1 h).1

theorem range_hands {g : Operand} {ps : Array Tmp} {assign body : Code} {Q : Exit → Act → World → Prop} {a : Act} {w : World}
    (hro : F.round = none) (h1 : 1 ≤ n) {gf : Nat} {lb : Array Value} (hg : a.eval g = .func (.func gf) #[] lb) (hFg : F.fn gf) (eg : ∀ args w, (callFunc gf args).run P w = .ok (.enter gf args) w)
    {encs : α → Array Value} {b : Nat} {K : Nat → Prop} {S : List α → Prop} {N : Nat} (hb : K b) (hK : ∀ k, K k → k < w.heap.size) (hseq : Hands F (n - 1) P gf lb encs b K S N w) (hps : ∀ x, (encs x).size = ps.size)
    (I : List α → World → Prop) (hI : Mine b w.heap.size I) (h0 : I [] w) (a₁ : α → Act)
    (hassign : ∀ (l : Nat) (x : α) (W : World) (K : Act → World → Prop), K (a₁ x) W →
      assign.wpIn (F.inRound l) (n - 1 - 1) P (Exit.then K (fun _ _ _ => False)) { tmps := (ps.zip (encs x)).foldl (fun t (p, v) => t.setIfInBounds p v) a.tmps, defers := [] } W)
    (hbody : ∀ (l : Nat) (pre : List α) (x : α) (W : World), I pre W → pre.length < N → w.heap.size ≤ W.heap.size → body.wpIn (F.inRound l) (n - 1 - 1) P (Round K I (pre ++ [x]) W) (a₁ x) W)
    (hdone : ∀ (D : Nat) (xs : List α) (W : World), w.heap.size ≤ D → S xs → I xs W → W.heap[D]? = some (.deferred (some [])) → Q .normal { a with defers := { target := .collected D, args := #[] } :: a.defers } W) :
    (Code.rangeFunc g ps assign body).wpIn F n P Q a w := by
  refine wpIn_rangeFunc fun fn hfn => ?_
  rw [hro]
  have hbz := hK b hb
  generalize hD : w.heap.size = D at hI hdone hbody
  have recE : ∃ rec : LoopState → Option Code → Loop, rec = fun st pe => { state := st, pending := pe, fn, tmps := a.tmps, params := ps, assign, body, defers := D } := ⟨_, rfl⟩
  obtain ⟨rec, hrec⟩ := recE
  obtain ⟨V, hV⟩ : ∃ V, V = (w.alloc (.deferred (some []))).alloc (.loop (rec .ready none)) := ⟨_, rfl⟩
  have vD : V.heap[D]? = some (.deferred (some [])) := by
    rw [hV, ← hD]; exact (Below.heap_alloc _ _ _ (by simp)).trans (World.alloc_heap_new w _)
  have vL : V.heap[D + 1]? = some (.loop (rec .ready none)) := by
    have h := World.alloc_heap_new (w.alloc (.deferred (some []))) (.loop (rec .ready none))
    rw [World.size_alloc, hD] at h
    rw [hV]; exact h
  have vI : I [] V := by rw [hV]; exact hI.new _ (hI.new _ h0)
  have vb : ∀ k, K k → V.heap[k]? = w.heap[k]? := fun k hk => by
    have hkz := hK k hk
    rw [hV]; exact (Below.heap_alloc _ _ _ (by simp; omega)).trans (Below.heap_alloc _ _ _ hkz)
  have vz : w.heap.size ≤ V.heap.size := by rw [hV]; simp; omega
  refine ⟨D + 1, [{ target := .collected D, args := #[] }], V, { target := .fn (.func gf) lb, args := #[.func (.yield (D + 1)) #[] #[]] }, V, gf, #[.func (.yield (D + 1)) #[] #[]] ++ lb, V, ?_, ?_, ?_, ?_, fun _ => h1, ?_⟩
  · rw [hV, hrec, ← hD]; exact run_enterLoop_outer _ _ _ _ _
  · simp only [resolve, hg]
    simp [go_sem]
  · intro f' hf'
    simp [Target.leads] at hf'
    subst hf'
    exact hFg
  · simp [invoke, go_sem, eg]
  have hbD : b < D := by omega
  refine (hseq (D + 1) (fun xs W => (I xs W ∧ w.heap.size ≤ W.heap.size) ∧ W.heap[D + 1]? = some (.loop (rec .ready none)) ∧ W.heap[D]? = some (.deferred (some []))) V vb vz ?_ ?_ ⟨⟨vI, vz⟩, vL, vD⟩).mono ?_
  · rintro xs A B row ⟨⟨hi, hz⟩, hl, hd⟩ gr hr
    refine ⟨⟨hI xs A B row hi gr (fun r e => ?_), Nat.le_trans hz gr.size⟩, ?_, ?_⟩
    · rcases hr with h | h <;> rw [h] at e <;> cases e
      exact .inl rfl
    · rw [kept_of gr hr (lt_of hl) (by omega)]; exact hl
    · rw [kept_of gr hr (lt_of hd) (by omega)]; exact hd
  · rintro pre x W ⟨⟨hi, hz⟩, hl, hd⟩ hlen
    have hlt := lt_of hl
    have hy := run_yield (P := P) (args := encs x) hl (by rw [hrec]; exact hps x)
    rw [hrec] at hy
    refine ⟨fn, _, assign, body, hy, roundIn_of_wpIn hfn (hassign _ x W _ ⟨_, run_beginRound hl (by rw [hrec]), ?_⟩)⟩
    have b1 : (W.putObj (D + 1) (.loop { rec .ready none with state := .busy })).heap[D + 1]? = some (.loop { rec .ready none with state := .busy }) := World.putObj_heap_same hlt
    have b2 : (W.putObj (D + 1) (.loop { rec .ready none with state := .busy })).heap[D]? = some (.deferred (some [])) := (World.putObj_heap_other (by omega)).trans hd
    have b3 : ∀ k, K k → (W.putObj (D + 1) (.loop { rec .ready none with state := .busy })).heap[k]? = W.heap[k]? := fun k hk => World.putObj_heap_other (by have := hK k hk; omega)
    have b4 : (W.putObj (D + 1) (.loop { rec .ready none with state := .busy })).heap.size = W.heap.size := by simp
    refine wpIn_mono (hbody _ pre x _ (hI.put _ hi (by omega) hl rfl) hlen (by rw [b4]; omega)) ?_
    rintro e a3 U hp
    cases e with
    | normal =>
      obtain ⟨hk, hub, hiu⟩ := hp
      have u1 := hk.same _ _ b1 rfl
      have u2 := hk.same _ _ b2 rfl
      have hend := run_endRound (P := P) none u1
      rw [hrec] at hend
      have hzU := hk.size
      rw [b4] at hzU
      refine ⟨_, _, hend, rfl, ⟨⟨hI.put _ hiu (by omega) u1 rfl, by simp; omega⟩, ?_, (World.putObj_heap_other (by omega)).trans u2⟩, fun k hk => (World.putObj_heap_other (by have := hK k hk; omega)).trans ((hub k hk).trans (b3 k hk)), by simp; omega⟩
      have := World.putObj_heap_same (o := .loop (rec .ready none)) (lt_of u1)
      rw [hrec] at this ⊢
      exact this
    | _ => exact hp.elim
  · rintro e U ⟨⟨v, rfl⟩, xs, hS, ⟨hi, hz⟩, hl, hd⟩
    have hend := run_endLoop (P := P) hl (by rw [hrec]; simp)
    rw [hrec] at hend
    exact ⟨none, _, hend, hdone D xs _ (by omega) hS (hI.put _ hi (by omega) hl rfl) ((World.putObj_heap_other (by omega)).trans hd)⟩
end
end Go.Proofs.YtbacakgjhohedaaDoor.Range
