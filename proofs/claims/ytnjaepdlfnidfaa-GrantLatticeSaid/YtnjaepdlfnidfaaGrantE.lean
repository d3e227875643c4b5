/- The consents' contracts, a consent as its cells. -/
import Derived.Test.YtnjaepdlfnidfaaGrantD
import Derived.Test.YtnjaepdlfnidfaaGlue
namespace Go.Proofs.Ytnjaepdlfnidfaa.GrantE
open Go.RowKit Go.Maps Mem Scan GrantP GrantW GrantX GrantY GrantZ GrantM GrantB GrantC GrantD Facts Glue

def Fit (V : List Int) : Prop := V.length ≤ 1152921504606846976 ∧ Ints V
/-- The cells of a consent whose vendors lie in a row of w. -/
def ConV (w : World) (g : Int) (P : Nat → Bool) (V : List Int) (cs : Array Value) : Prop := Fit V ∧ ∃ A c, cs = conC g P (.slice A V.length c) ∧ Row w w.heap.size A (intV V)
/-- .. in a row of ints that lies in a block of its own, from its beginning on. -/
def OwnC (w : World) (g : Int) (P : Nat → Bool) (V : List Int) (cs : Array Value) : Prop := Fit V ∧ ∃ A c, cs = conC g P (.slice A V.length c) ∧ w.ownsRow 0 3 1 (.slice A V.length c) V.length (intV V)
theorem ConV.below {w w' : World} {g : Int} {P : Nat → Bool} {V : List Int} {cs : Array Value} (h : ConV w g P V cs) (hb : Below w.heap.size w w') : ConV w' g P V cs := by
  obtain ⟨hf, A, c, e, hr⟩ := h
  exact ⟨hf, A, c, e, hr.at' hb⟩
theorem OwnC.below {w w' : World} {g : Int} {P : Nat → Bool} {V : List Int} {cs : Array Value} (h : OwnC w g P V cs) (hb : Below w.heap.size w w') : OwnC w' g P V cs := by
  obtain ⟨hf, A, c, e, hr⟩ := h
  exact ⟨hf, A, c, e, own_below hr hb⟩
theorem OwnC.con {w : World} {g : Int} {P : Nat → Bool} {V : List Int} {cs : Array Value} (h : OwnC w g P V cs) : ConV w g P V cs := by
  obtain ⟨hf, A, c, e, hr⟩ := h
  obtain ⟨A', c', e', _, _, hrow⟩ := own_row hr
  cases e'
  exact ⟨hf, _, _, e, hrow⟩
theorem grown_row (w : World) (b : Nat) (cs : Array Value) : w.grownBy (w.setRow b cs) (some b) :=
  ⟨rfl, rfl, rfl, by simp, fun i _ hi => setRow_other w b i cs (fun e => hi (by rw [e]))⟩
theorem OwnC.set {w : World} {g : Int} {P : Nat → Bool} {V : List Int} {cs zs us : Array Value} {b : Nat} (h : OwnC w g P V cs) (hz : Home w b 25 zs) : OwnC (w.setRow b us) g P V cs := by
  obtain ⟨hf, A, c, e, hr⟩ := h
  refine ⟨hf, A, c, e, hr.kept (grown_row w b us) ?_⟩
  rcases hr.2 with ⟨h1, _⟩ | ⟨g', cap', cur, h1, _, h3, _⟩
  · rw [h1]; exact .inl rfl
  · rw [h1]
    refine .inr fun e2 => ?_
    cases e2
    have h4 : w.heap[g']? = _ := hz
    rw [h4] at h3
    cases h3
theorem con_size (g : Int) (P : Nat → Bool) (v : Value) : (conC g P v).size = 12 := rfl
theorem conOne (g : Int) (P : Nat → Bool) (A : Option Addr) (n c : Nat) : (conC g P (.slice A n c)).all (·.oneCell') = true := by simp [conC, Value.oneCell']
theorem infoC : (Try.prog.info? 25).map (·.size) = some 12 := by kernel_rfl
def Own2 (r : Int × (Nat → Bool) × List Int × Nat) (w : World) (e : Ending) (w' : World) : Prop := ∃ cs, e = .returned (.tuple #[.agg cs, .int .i64 (r.2.2.2 : Int)]) ∧ OwnC w' r.1 r.2.1 r.2.2.1 cs ∧ Below w.heap.size w w'
theorem CPostR.own {r : Int × (Nat → Bool) × List Int × Nat} {w : World} {e : Ending} {w' : World} (h : CPostR r w e w') (hf : Fit r.2.2.1) : Own2 r w e w' := by
  obtain ⟨v, rfl, how, hb⟩ := h
  obtain ⟨A, c, rfl, _⟩ := own_row how
  exact ⟨_, rfl, ⟨hf, A, c, rfl, own_lower how (Nat.zero_le _)⟩, hb⟩
theorem fit_right {V : List Int} (h : Right V) : Fit V := ⟨by have := right_len h; omega, fun v hv => WalkArith.wf_i64 (by have := h.2 v hv; omega)⟩
theorem fit_nil : Fit [] := ⟨by decide, fun v hv => by cases hv⟩
theorem fit_filter {V : List Int} (h : Fit V) (f : Int → Bool) : Fit (V.filter f) := ⟨Nat.le_trans (List.length_filter_le _ _) h.1, fun v hv => h.2 v (List.mem_filter.1 hv).1⟩
theorem fit_both (k : Bool → Bool → Bool) (g g' : Int) (P Q : Nat → Bool) (V U : List Int) : Fit (bothF k g g' P Q V U).2.2.1 := by
  unfold bothF
  split
  · exact fit_nil
  · split
    · exact fit_nil
    · dsimp only
      exact fit_right (upto_right _)
theorem fit_drop (g : Int) (P : Nat → Bool) (V : List Int) (p v now : Int) (h : Fit V) : Fit (dropF g P V p v now).2.2.1 := by
  unfold dropF
  split
  · exact fit_nil
  · split
    · exact fit_nil
    · split
      · exact fit_nil
      · exact fit_filter h _
section
variable {g g' : Int} {P Q : Nat → Bool} {V U : List Int} {cs us : Array Value} {w : World}
theorem meet_con (h : ConV w g P V cs) (k : ConV w g' Q U us) : Calls Try.prog 7 #[.agg cs, .agg us] w (Own2 (bothF (· && ·) g g' P Q V U) w) := by
  obtain ⟨hf, A, c, rfl, hr⟩ := h
  obtain ⟨kf, B, d, rfl, kr⟩ := k
  exact (meet_any g g' P Q A c V B d U w hr kr hf.1 kf.1 hf.2 kf.2).mono fun _ _ h => CPostR.own h (fit_both ..)
theorem join_con (h : ConV w g P V cs) (k : ConV w g' Q U us) : Calls Try.prog 8 #[.agg cs, .agg us] w (Own2 (bothF (· || ·) g g' P Q V U) w) := by
  obtain ⟨hf, A, c, rfl, hr⟩ := h
  obtain ⟨kf, B, d, rfl, kr⟩ := k
  exact (join_any g g' P Q A c V B d U w hr kr hf.1 kf.1 hf.2 kf.2).mono fun _ _ h => CPostR.own h (fit_both ..)
theorem drop_con (p v now : Int) (h : ConV w g P V cs) : Calls Try.prog 9 #[.agg cs, .int .i64 p, .int .i64 v, .int .i64 now] w (Own2 (dropF g P V p v now) w) := by
  obtain ⟨hf, A, c, rfl, hr⟩ := h
  exact (drop_any g P A c V p v now w hr hf.1).mono fun _ _ h => CPostR.own h (fit_drop _ _ _ _ _ _ hf)
theorem may_con (p v : Int) (h : ConV w g P V cs) : Calls Try.prog 14 #[.agg cs, .int .i64 p, .int .i64 v] w (Gives (.bool (may P V p v)) w) := by
  obtain ⟨hf, A, c, rfl, hr⟩ := h
  exact may_any g P A c V p v w hr (by have := hf.1; omega)
theorem mayOf_con (p v : Int) (h : ConV w g P V cs) : Calls Try.prog 15 #[.agg cs, .int .i64 p, .int .i64 v] w (Gives (.bool (may P V p v)) w) := by
  obtain ⟨hf, A, c, rfl, hr⟩ := h
  exact mayOf_any g P A c V p v w hr (by have := hf.1; omega)
theorem less_con (h : ConV w g P V cs) (k : ConV w g' Q U us) : Calls Try.prog 16 #[.agg cs, .agg us] w (Gives (.bool (less P Q V U)) w) := by
  obtain ⟨hf, A, c, rfl, hr⟩ := h
  obtain ⟨kf, B, d, rfl, kr⟩ := k
  exact less_any g g' P Q A c V B d U w hr kr hf.1 kf.1 hf.2 kf.2
theorem lessOf_con (h : ConV w g P V cs) (k : ConV w g' Q U us) : Calls Try.prog 17 #[.agg cs, .agg us] w (Gives (.bool (less P Q V U)) w) := by
  obtain ⟨hf, A, c, rfl, hr⟩ := h
  obtain ⟨kf, B, d, rfl, kr⟩ := k
  exact lessOf_any g g' P Q A c V B d U w hr kr (by have := hf.1; omega) (by have := kf.1; omega)
theorem same_con (h : ConV w g P V cs) (k : ConV w g' Q U us) : Calls Try.prog 18 #[.agg cs, .agg us] w (Gives (.bool (sameC g g' P Q V U)) w) := by
  obtain ⟨hf, A, c, rfl, hr⟩ := h
  obtain ⟨kf, B, d, rfl, kr⟩ := k
  exact sameConsent_any g g' P Q A c V B d U w hr kr (by have := hf.1; omega) (by have := kf.1; omega)
theorem check_con (h : ConV w g P V cs) : Calls Try.prog 19 #[.agg cs] w (Gives (.int .i64 ((check g V : Nat) : Int)) w) := by
  obtain ⟨hf, A, c, rfl, hr⟩ := h
  exact check_any g P A c V w hr (by have := hf.1; omega)
end
theorem ConV.cells {w : World} {g : Int} {P : Nat → Bool} {V : List Int} {cs : Array Value} (h : ConV w g P V cs) : cs.size = 12 ∧ cs.all (·.oneCell') = true := by
  obtain ⟨_, A, c, rfl, _⟩ := h
  exact ⟨rfl, conOne ..⟩
theorem OwnC.cells {w : World} {g : Int} {P : Nat → Bool} {V : List Int} {cs : Array Value} (h : OwnC w g P V cs) : cs.size = 12 ∧ cs.all (·.oneCell') = true := h.con.cells
/-- What the walk needs at 'x, e := f(..)': the home is new, and takes what came. -/
theorem store_new (w : World) (cs : Array Value) (h : cs.size = 12 ∧ cs.all (·.oneCell') = true) : (storeCells ⟨w.heap.size, 0, none⟩ cs.toList).run Try.prog (w.alloc (.cells #[.int .i64 0, .bool false, .bool false, .bool false, .bool false, .bool false, .bool false, .bool false, .bool false, .bool false, .bool false, .slice none 0 0] 25)) = .ok () (w.alloc (.cells cs 25)) := by
  have := run_storeCells_from (P := Try.prog) w.heap.size 25 cs.toList 0 _ _ (home_new w 25 #[.int .i64 0, .bool false, .bool false, .bool false, .bool false, .bool false, .bool false, .bool false, .bool false, .bool false, .bool false, .slice none 0 0]) (by simp [h.1]) (fun v hv => by
    have := Array.all_eq_true_iff_forall_mem.1 h.2 v (by simpa using hv)
    exact this)
  rw [this, List.take_zero, List.nil_append, Array.toArray_toList, alloc_setRow]
/-- .. where a home is read. -/
theorem load_home {w : World} {b : Nat} {cs : Array Value} (h : Home w b 25 cs) (hs : cs.size = 12) : (Instr.loadAt 25 (.pointer (some ⟨b, 0, none⟩))).run Try.prog w = .ok (.agg cs) w := by
  simp only [Instr.loadAt, Instr.sureAddr, Sem.run_bind, Sem.run_pure, Result.andThen_ok, run_loadVar_row w b _ _ cs (0, 0) _ h Try.underlying25 rfl (hs ▸ infoC)]
/-! ### Facts of one operation -/
def is (v : Value) : Fact := ⟨[], fun l _ => l = [v]⟩
def val (p : Value → World → Prop) : Fact := ⟨[], fun l w => ∃ v, l = [v] ∧ p v w⟩
def AggOf (p : World → Array Value → Prop) (v : Value) (w : World) : Prop := ∃ cs, v = .agg cs ∧ p w cs
def PairOf (p : World → Array Value → Prop) (n : Int) (v : Value) (w : World) : Prop := ∃ cs, v = .tuple #[.agg cs, .int .i64 n] ∧ p w cs
def NewHome (B : Nat) (t : TypeId) (v : Value) (w : World) : Prop := ∃ b cs, v = .pointer (some ⟨b, 0, none⟩) ∧ B ≤ b ∧ Home w b t cs ∧ cs.size = 12
def storedAt (j B : Nat) (t : TypeId) (p : World → Array Value → Prop) : Fact := ⟨[j], fun l w => ∃ u b cs, l = [u, .pointer (some ⟨b, 0, none⟩)] ∧ B ≤ b ∧ Home w b t cs ∧ p w cs⟩
def Sure (p : World → Array Value → Prop) : Prop := ∀ w w' cs, Below w.heap.size w w' → p w cs → p w' cs
def FSure (f : Fact) : Prop := ∀ l w w', Below w.heap.size w w' → f.says l w → f.says l w'
def AllS : List Fact → Prop
  | [] => True
  | f :: r => FSure f ∧ AllS r
theorem allS {F : List Fact} (h : AllS F) : ∀ j v vs w w', Below w.heap.size w w' → fact F j v vs w → fact F j v vs w' := by
  have key : ∀ {F : List Fact}, AllS F → ∀ (j : Nat) (f : Fact), F[j]? = some f → FSure f := by
    intro F
    induction F with
    | nil => intro _ j f h; simp at h
    | cons a F ih =>
      rintro ⟨h1, h2⟩ j f hf
      cases j with
      | zero => simp at hf; subst hf; exact h1
      | succ j => exact ih h2 j f (by simpa using hf)
  intro j v vs w w' hb hf
  unfold fact at hf ⊢
  cases hj : F[j]? with
  | none => trivial
  | some f => rw [hj] at hf; exact key h j f hj _ _ _ hb hf
theorem sure_is (v : Value) : FSure (is v) := fun _ _ _ _ h => h
theorem sure_agg {p : World → Array Value → Prop} (h : Sure p) : FSure (val (AggOf p)) := fun _ _ _ hb ⟨v, e, cs, e2, hp⟩ => ⟨v, e, cs, e2, h _ _ _ hb hp⟩
theorem sure_pair {p : World → Array Value → Prop} {n : Int} (h : Sure p) : FSure (val (PairOf p n)) := fun _ _ _ hb ⟨v, e, cs, e2, hp⟩ => ⟨v, e, cs, e2, h _ _ _ hb hp⟩
theorem sure_new {B : Nat} {t : TypeId} : FSure (val (NewHome B t)) := fun _ _ _ hb ⟨v, e, b, cs, e2, hB, hh, hs⟩ => ⟨v, e, b, cs, e2, hB, hh.below hb, hs⟩
theorem sure_stored {j B : Nat} {t : TypeId} {p : World → Array Value → Prop} (h : Sure p) : FSure (storedAt j B t p) := fun _ _ _ hb ⟨u, b, cs, e, hB, hh, hp⟩ => ⟨u, b, cs, e, hB, hh.below hb, h _ _ _ hb hp⟩
theorem sureC {g : Int} {P : Nat → Bool} {V : List Int} : Sure (fun w cs => ConV w g P V cs) := fun _ _ _ hb h => h.below hb
theorem sureO {g : Int} {P : Nat → Bool} {V : List Int} : Sure (fun w cs => OwnC w g P V cs) := fun _ _ _ hb h => h.below hb
end Go.Proofs.Ytnjaepdlfnidfaa.GrantE
