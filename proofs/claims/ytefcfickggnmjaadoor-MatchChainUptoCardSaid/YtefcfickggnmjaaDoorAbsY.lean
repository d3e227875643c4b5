/- Any handed value as a named tree: what a law's frame hands to its walk. Over any program. -/
import Derived.Test.YtefcfickggnmjaaDoorAbsG
import Derived.Test.YtefcfickggnmjaaDoorSeen
namespace Go.Proofs.YtefcfickggnmjaaDoor.Abs
open Go.RowKit Mem Facts Seen Go.WideShapes Go.ChangeShapes Go.Deep

def aggT (P : Program) (t : TypeId) : Bool := match P.underlying t with
  | some (.struct _) | some (.array _ _) => true
  | _ => false
def mkEl (agg : Bool) (x : List V) : V := bif agg then .agg x else x.headD .und
section
variable (P : Program) (okS : Nat → Prop) (okL : TypeId → Nat → Prop)
/-- The cells of a value of type t, as trees. -/
def Typed : Nat → TypeId → List V → Prop
  | 0, _, _ => False
  | n + 1, t, us => match P.underlying t with
    | some .bool => ∃ b, us = [.bool b]
    | some (.int k) => ∃ i, us = [.int k i]
    | some .string => ∃ s, us = [.str s] ∧ okS s.size
    | some (.slice e) => ∃ L : List (List V), us = [.fro (L.map (mkEl (aggT P e)))] ∧ (∃ c, L.length ≤ c ∧ (c = 0 ∨ okL e c)) ∧ (∀ x ∈ L, x.length = P.cellsOf e) ∧ ∀ x ∈ L, Typed n e x
    | some (.struct fs) => us.length = P.cellsOf t ∧ ∀ (j : Nat) (f : Field), fs[j]? = some f → Typed n f.type ((us.drop f.offset).take (P.cellsOf f.type))
    | some (.array m e) => us.length = P.cellsOf t ∧ ∀ i, i < m → Typed n e ((us.drop (i * P.cellsOf e)).take (P.cellsOf e))
    | _ => False
/-- Fields lie one behind another, and fill the struct. -/
def layOk : Nat → Nat → List Field → Bool
  | acc, tot, [] => acc == tot
  | acc, tot, f :: r => f.offset == acc && layOk (acc + P.cellsOf f.type) tot r
def plainTy : Nat → TypeId → Bool
  | 0, _ => false
  | n + 1, t => match P.underlying t with
    | some .bool | some (.int _) | some .string => P.cellsOf t == 1
    | some (.slice e) => P.cellsOf t == 1 && plainTy n e && Nat.ble 1 (P.cellsOf e) && Nat.ble 1 (P.bytesOf e)
    | some (.struct fs) => layOk P 0 (P.cellsOf t) fs.toList && fs.toList.all fun f => plainTy n f.type
    | some (.array m e) => P.cellsOf t == m * P.cellsOf e && plainTy n e
    | _ => false
end
section
variable {P : Program} {w : World} {okS : Nat → Prop} {okL : TypeId → Nat → Prop}
def Cells (w : World) (us : List V) (cs : List Value) : Prop := us.length = cs.length ∧ (∀ u ∈ us, u.one = true) ∧ ∀ (i : Nat) u c, us[i]? = some u → cs[i]? = some c → Fz (fun _ => False) w u c
theorem cells_append {a b : List V} {c d : List Value} (h : Cells w a c) (k : Cells w b d) : Cells w (a ++ b) (c ++ d) := by
  refine ⟨by simp [h.1, k.1], fun u hu => (List.mem_append.1 hu).elim (h.2.1 u) (k.2.1 u), fun i u x hu hx => ?_⟩
  by_cases hi : i < a.length
  · rw [List.getElem?_append_left hi] at hu
    rw [List.getElem?_append_left (by rw [← h.1]; exact hi)] at hx
    exact h.2.2 i u x hu hx
  · rw [List.getElem?_append_right (by omega)] at hu
    rw [List.getElem?_append_right (by rw [← h.1]; omega), ← h.1] at hx
    exact k.2.2 _ u x hu hx
theorem flatten_at {n : Nat} : ∀ (L : List (List Value)), (∀ x ∈ L, x.length = n) → ∀ (i j : Nat) x c, L[i]? = some x → x[j]? = some c → L.flatten[i * n + j]? = some c
  | [], _, _, _, _, _, h, _ => by simp at h
  | y :: L, hn, 0, j, x, c, hx, hc => by
    simp at hx; subst hx
    have : j < y.length := (List.getElem?_eq_some_iff.1 hc).1
    rw [List.flatten_cons, List.getElem?_append_left (by omega)]; simpa using hc
  | y :: L, hn, i + 1, j, x, c, hx, hc => by
    have hy := hn y (by simp)
    rw [List.flatten_cons, List.getElem?_append_right (by rw [hy, Nat.add_mul]; omega)]
    have := flatten_at L (fun z hz => hn z (by simp [hz])) i j x c (by simpa using hx) hc
    rw [hy, show (i + 1) * n + j - n = i * n + j from by rw [Nat.add_mul]; omega]
    exact this
theorem pick_all {R : List Value → List V → Prop} : ∀ (L : List (List Value)), (∀ x ∈ L, ∃ us, R x us) → ∃ L' : List (List V), L'.length = L.length ∧ ∀ (i : Nat) x us, L[i]? = some x → L'[i]? = some us → R x us
  | [], _ => ⟨[], rfl, fun i x us h => by simp at h⟩
  | y :: L, h => by
    obtain ⟨us, hu⟩ := h y (by simp)
    obtain ⟨L', h1, h2⟩ := pick_all L fun x hx => h x (by simp [hx])
    refine ⟨us :: L', by simp [h1], fun i x vs hx hv => ?_⟩
    rcases i with _ | i
    · simp at hx hv; subst hx hv; exact hu
    · exact h2 i x vs (by simpa using hx) (by simpa using hv)
theorem fields_typed {n : Nat} {cs : List Value} {tot : Nat} (ih : ∀ t cs, plainTy P n t = true → Sees P w okS okL n t cs → ∃ us, Typed P okS okL n t us ∧ Cells w us cs) : ∀ (fs : List Field) (acc : Nat), layOk P acc tot fs = true → (fs.all fun f => plainTy P n f.type) = true → cs.length = tot →
    (∀ (j : Nat) f, fs[j]? = some f → Sees P w okS okL n f.type ((cs.drop f.offset).take (P.cellsOf f.type))) → acc ≤ tot →
    ∃ us, Cells w us (cs.drop acc) ∧ ∀ (j : Nat) f, fs[j]? = some f → acc ≤ f.offset ∧ Typed P okS okL n f.type ((us.drop (f.offset - acc)).take (P.cellsOf f.type))
  | [], acc, hl, _, hc, _, _ => by
    simp only [layOk, beq_iff_eq] at hl
    refine ⟨[], ⟨by simp; omega, fun u hu => by simp at hu, fun i u c h => by simp at h⟩, fun j f h => by simp at h⟩
  | f :: r, acc, hl, hp, hc, hs, hacc => by
    simp only [layOk, Bool.and_eq_true, beq_iff_eq] at hl
    simp only [List.all_cons, Bool.and_eq_true] at hp
    obtain ⟨us1, t1, c1⟩ := ih f.type _ hp.1 (hs 0 f rfl)
    rw [hl.1] at c1
    have hmono : ∀ (fs : List Field) (a : Nat), layOk P a tot fs = true → a ≤ tot := fun fs => by
      induction fs with
      | nil => intro a h; simp only [layOk, beq_iff_eq] at h; omega
      | cons f r ih => intro a h; simp only [layOk, Bool.and_eq_true] at h; have := ih _ h.2; omega
    have h2 := hmono r _ hl.2
    obtain ⟨us2, c2, t2⟩ := fields_typed ih r (acc + P.cellsOf f.type) hl.2 hp.2 hc (fun j g hg => hs (j + 1) g (by simpa using hg)) h2
    have hlen : us1.length = P.cellsOf f.type := by
      rw [c1.1]; simp; omega
    refine ⟨us1 ++ us2, ?_, fun j g hg => ?_⟩
    · have := cells_append c1 c2
      have e : (cs.drop acc).take (P.cellsOf f.type) ++ cs.drop (acc + P.cellsOf f.type) = cs.drop acc := by
        rw [← List.drop_drop]; exact List.take_append_drop _ _
      rw [e] at this
      exact this
    · rcases j with _ | j
      · simp at hg; subst hg
        refine ⟨by omega, ?_⟩
        rw [hl.1, Nat.sub_self, List.drop_zero, List.take_append_of_le_length (by omega), List.take_of_length_le (by omega)]
        exact t1
      · obtain ⟨k1, k2⟩ := t2 j g (by simpa using hg)
        refine ⟨by omega, ?_⟩
        rw [List.drop_append, List.drop_of_length_le (by omega), List.nil_append, hlen, show g.offset - acc - P.cellsOf f.type = g.offset - (acc + P.cellsOf f.type) from by omega]
        exact k2
theorem array_typed {n e : Nat} {cs : List Value} (ih : ∀ t cs, plainTy P n t = true → Sees P w okS okL n t cs → ∃ us, Typed P okS okL n t us ∧ Cells w us cs) (hp : plainTy P n e = true) : ∀ (m : Nat), cs.length = m * P.cellsOf e → (∀ i, i < m → Sees P w okS okL n e ((cs.drop (i * P.cellsOf e)).take (P.cellsOf e))) →
    ∃ us, Cells w us cs ∧ ∀ i, i < m → Typed P okS okL n e ((us.drop (i * P.cellsOf e)).take (P.cellsOf e)) := fun m => by
  suffices H : ∀ k, k ≤ m → cs.length = m * P.cellsOf e → (∀ i, i < m → Sees P w okS okL n e ((cs.drop (i * P.cellsOf e)).take (P.cellsOf e))) → ∃ us, Cells w us (cs.take (k * P.cellsOf e)) ∧ ∀ i, i < k → Typed P okS okL n e ((us.drop (i * P.cellsOf e)).take (P.cellsOf e)) from fun hc hs => by
    obtain ⟨us, h1, h2⟩ := H m (Nat.le_refl _) hc hs
    rw [List.take_of_length_le (by omega)] at h1
    exact ⟨us, h1, h2⟩
  intro k
  induction k with
  | zero => intro _ hc hs; exact ⟨[], ⟨by simp, fun u hu => by simp at hu, fun i u c h => by simp at h⟩, fun i hi => by omega⟩
  | succ k ih2 =>
    intro hk hc hs
    obtain ⟨us, h1, h2⟩ := ih2 (by omega) hc hs
    obtain ⟨vs, t1, c1⟩ := ih e _ hp (hs k (by omega))
    have hle : (k + 1) * P.cellsOf e ≤ m * P.cellsOf e := Nat.mul_le_mul_right _ hk
    rw [Nat.add_mul, Nat.one_mul] at hle
    have hlen : us.length = k * P.cellsOf e := by rw [h1.1]; simp; omega
    have hvl : vs.length = P.cellsOf e := by rw [c1.1]; simp; omega
    refine ⟨us ++ vs, ?_, fun i hi => ?_⟩
    · have := cells_append h1 c1
      rw [Nat.add_mul, Nat.one_mul, List.take_add]
      exact this
    · by_cases h : i < k
      · have h3 : (i + 1) * P.cellsOf e ≤ k * P.cellsOf e := Nat.mul_le_mul_right _ h
        rw [Nat.add_mul, Nat.one_mul] at h3
        rw [List.drop_append_of_le_length (by omega), List.take_append_of_le_length (by simp; omega)]
        exact h2 i h
      · obtain rfl : i = k := by omega
        rw [← hlen, List.drop_append_of_le_length (Nat.le_refl _), List.drop_length, List.nil_append, List.take_of_length_le (by omega)]
        exact t1
theorem sees_typed (hL : ∀ e n, okL e n → n * P.bytesOf e ≤ 140737488351232) (hS : ∀ n, okS n → n ≤ SLIM) : ∀ (n : Nat) (t : TypeId) (cs : List Value), plainTy P n t = true → Sees P w okS okL n t cs → ∃ us, Typed P okS okL n t us ∧ Cells w us cs
  | 0, _, _, _, h => h.elim
  | n + 1, t, cs, hp, h => by
    have ih := sees_typed hL hS n
    unfold plainTy at hp
    unfold Sees at h
    unfold Typed
    cases hu : P.underlying t with
    | none => rw [hu] at hp; cases hp
    | some d =>
      rw [hu] at hp h
      cases d with
      | bool =>
        obtain ⟨b, rfl⟩ := h
        exact ⟨[.bool b], ⟨b, rfl⟩, rfl, by simp [V.one], fun i u c hu hc => by
          rcases i with _ | i
          · simp at hu hc; subst hu hc; exact .bool
          · simp at hu⟩
      | int k =>
        obtain ⟨i, rfl, hwf⟩ := h
        exact ⟨[.int k i], ⟨i, rfl⟩, rfl, by simp [V.one], fun j u c hu hc => by
          rcases j with _ | j
          · simp at hu hc; subst hu hc; exact .int (wf_inR.1 hwf)
          · simp at hu⟩
      | string =>
        obtain ⟨s, rfl, hs⟩ := h
        exact ⟨[.str s], ⟨s, rfl, hs⟩, rfl, by simp [V.one], fun j u c hu hc => by
          rcases j with _ | j
          · simp at hu hc; subst hu hc; exact .str (hS _ hs)
          · simp at hu⟩
      | slice e =>
        simp only [Bool.and_eq_true, beq_iff_eq] at hp
        obtain ⟨⟨⟨_, hpe⟩, hc0⟩, hb0⟩ := hp
        have hc0 := Nat.le_of_ble_eq_true hc0
        have hb0 := Nat.le_of_ble_eq_true hb0
        obtain ⟨A, c, L, rfl, h1, h2, h3, h4, h5, h6⟩ := h
        obtain ⟨L', l1, l2⟩ := pick_all (R := fun x us => Typed P okS okL n e us ∧ Cells w us x) L fun x hx => ih e x hpe (h6 x hx)
        have hlc : L.length ≤ LIM := by
          rcases h3 with h3 | h3
          · have := h1 h3; simp only [LIM]; omega
          · have := hL e c h3
            have : c * 1 ≤ c * P.bytesOf e := Nat.mul_le_mul_left _ hb0
            simp only [LIM]; omega
        have at' : ∀ (i : Nat) us, L'[i]? = some us → ∃ x, L[i]? = some x ∧ Typed P okS okL n e us ∧ Cells w us x := fun i us hi => by
          have hl : i < L.length := by rw [← l1]; exact (List.getElem?_eq_some_iff.1 hi).1
          exact ⟨L[i], List.getElem?_eq_getElem hl, l2 i L[i] us (List.getElem?_eq_getElem hl) hi⟩
        have mem' : ∀ us ∈ L', Typed P okS okL n e us ∧ us.length = P.cellsOf e ∧ ∀ u ∈ us, u.one = true := fun us hus => by
          obtain ⟨i, hi⟩ := List.mem_iff_getElem?.1 hus
          obtain ⟨x, k1, k2, k3⟩ := at' i us hi
          exact ⟨k2, by rw [k3.1]; exact h5 x (List.mem_of_getElem? k1), k3.2.1⟩
        refine ⟨[.fro (L'.map (mkEl (aggT P e)))], ⟨L', rfl, ⟨c, by omega, h3.imp h1 id⟩, fun x hx => (mem' x hx).2.1, fun x hx => (mem' x hx).1⟩, rfl, by simp [V.one], fun j u c' hu hc' => ?_⟩
        rcases j with _ | j
        · simp at hu hc'
          subst hu hc'
          by_cases h0 : L = []
          · subst h0
            have : L' = [] := by simpa using l1
            subst this
            exact .fro0 h1
          · have hpos : 0 < L.flatten.length := by
              cases L with
              | nil => exact absurd rfl h0
              | cons y L =>
                have := h5 y (by simp)
                rw [List.flatten_cons, List.length_append]; omega
            obtain ⟨b, o, rfl, hb, hcell⟩ := h4 hpos
            have cellsEl : ∀ us ∈ L', (mkEl (aggT P e) us).cells = us := fun us hus => by
              unfold mkEl
              cases ha : aggT P e with
              | true => rfl
              | false =>
                obtain ⟨k1, k2, k3⟩ := mem' us hus
                have h1c : P.cellsOf e = 1 := by
                  cases n with
                  | zero => exact k1.elim
                  | succ m =>
                    unfold plainTy at hpe
                    unfold aggT at ha
                    cases hue : P.underlying e with
                    | none => rw [hue] at hpe; cases hpe
                    | some de =>
                      rw [hue] at hpe ha
                      cases de <;> first
                        | (simp at ha; done)
                        | (simp at hpe; done)
                        | (simp only [beq_iff_eq] at hpe; exact hpe)
                        | (simp only [Bool.and_eq_true, beq_iff_eq] at hpe; exact hpe.1.1.1)
                rw [h1c] at k2
                match us, k2 with
                | [u], _ =>
                  have := k3 u (by simp)
                  cases u <;> first | rfl | (simp [V.one] at this)
            have := Fz.fro (X := fun _ => False) (w := w) (xs := L'.map (mkEl (aggT P e))) (b := b) (o := o) (sz := P.cellsOf e) (cap := c) (fun i j => (w.cell? ⟨b, o + i * P.cellsOf e + j, none⟩).getD undef) id hb (by omega) (by simp; omega) (by simp; omega)
              (fun x hx => by
                obtain ⟨us, hus, rfl⟩ := List.mem_map.1 hx
                rw [cellsEl us hus]
                exact (mem' us hus).2)
              (fun i j x u hx hu => by
                rw [List.getElem?_map, Option.map_eq_some_iff] at hx
                obtain ⟨us, hus, rfl⟩ := hx
                rw [cellsEl us (List.mem_of_getElem? hus)] at hu
                obtain ⟨y, k1, k2, k3⟩ := at' i us hus
                have hj : j < y.length := by rw [← k3.1]; exact (List.getElem?_eq_some_iff.1 hu).1
                have hfl := flatten_at L h5 i j y y[j] k1 (List.getElem?_eq_getElem hj)
                obtain ⟨hfl1, hfl2⟩ := List.getElem?_eq_some_iff.1 hfl
                have := hcell _ hfl1
                rw [hfl2, ← Nat.add_assoc] at this
                rw [this]; rfl)
              (fun i j x u hx hu => by
                rw [List.getElem?_map, Option.map_eq_some_iff] at hx
                obtain ⟨us, hus, rfl⟩ := hx
                rw [cellsEl us (List.mem_of_getElem? hus)] at hu
                obtain ⟨y, k1, k2, k3⟩ := at' i us hus
                have hj : j < y.length := by rw [← k3.1]; exact (List.getElem?_eq_some_iff.1 hu).1
                have hfl := flatten_at L h5 i j y y[j] k1 (List.getElem?_eq_getElem hj)
                obtain ⟨hfl1, hfl2⟩ := List.getElem?_eq_some_iff.1 hfl
                have := hcell _ hfl1
                rw [hfl2, ← Nat.add_assoc] at this
                rw [this]
                exact k3.2.2 j u _ hu (List.getElem?_eq_getElem hj))
            rw [List.length_map, l1] at this
            exact this
        · simp at hu
      | struct fs =>
        simp only [Bool.and_eq_true] at hp
        obtain ⟨h1, h2⟩ := h
        obtain ⟨us, c1, t1⟩ := fields_typed (cs := cs) ih fs.toList 0 hp.1 hp.2 h1 (fun j f hj => h2 j f (by simpa using hj)) (Nat.zero_le _)
        rw [List.drop_zero] at c1
        exact ⟨us, ⟨by rw [c1.1]; exact h1, fun j f hj => by have := (t1 j f (by simpa using hj)).2; rwa [Nat.sub_zero] at this⟩, c1⟩
      | array m e =>
        simp only [Bool.and_eq_true, beq_iff_eq] at hp
        obtain ⟨h1, h2⟩ := h
        obtain ⟨us, c1, t1⟩ := array_typed ih hp.2 m (by rw [h1, hp.1]) h2
        exact ⟨us, ⟨by rw [c1.1]; exact h1, t1⟩, c1⟩
      | _ => cases hp

/-! ### A handed argument -/
/-- An argument's tree. -/
def Opened (P : Program) (w : World) (okS : Nat → Prop) (okL : TypeId → Nat → Prop) (t : TypeId) (v : Value) : Prop := ∃ n us, Typed P okS okL n t us ∧ Fz (fun _ => False) w (mkEl (aggT P t) us) v
theorem plain_more : ∀ (n : Nat) (t : TypeId) (k : Nat), plainTy P n t = true → n ≤ k → plainTy P k t = true
  | 0, _, _, h, _ => by simp [plainTy] at h
  | n + 1, t, 0, _, hk => by omega
  | n + 1, t, k + 1, h, hk => by
    unfold plainTy at h ⊢
    cases hu : P.underlying t with
    | none => rw [hu] at h; cases h
    | some d =>
      rw [hu] at h
      cases d with
      | slice e =>
        simp only [Bool.and_eq_true] at h ⊢
        exact ⟨⟨⟨h.1.1.1, plain_more n e k h.1.1.2 (by omega)⟩, h.1.2⟩, h.2⟩
      | struct fs =>
        simp only [Bool.and_eq_true] at h ⊢
        refine ⟨h.1, List.all_eq_true.2 fun f hf => plain_more n f.type k (List.all_eq_true.1 h.2 f hf) (by omega)⟩
      | array m e =>
        simp only [Bool.and_eq_true] at h ⊢
        exact ⟨h.1, plain_more n e k h.2 (by omega)⟩
      | _ => exact h
theorem sees_more : ∀ (n : Nat) (t : TypeId) (cs : List Value) (k : Nat), Sees P w okS okL n t cs → n ≤ k → Sees P w okS okL k t cs
  | 0, _, _, _, h, _ => h.elim
  | n + 1, t, cs, 0, _, hk => by omega
  | n + 1, t, cs, k + 1, h, hk => by
    unfold Sees at h ⊢
    cases hu : P.underlying t with
    | none => trivial
    | some d =>
      rw [hu] at h
      cases d with
      | slice e =>
        obtain ⟨A, c, L, h1, h2, h3, h4, h5, h6, h7⟩ := h
        exact ⟨A, c, L, h1, h2, h3, h4, h5, h6, fun x hx => sees_more n e x k (h7 x hx) (by omega)⟩
      | struct fs => exact ⟨h.1, fun j f hj => sees_more n f.type _ k (h.2 j f hj) (by omega)⟩
      | array m e => exact ⟨h.1, fun i hi => sees_more n e _ k (h.2 i hi) (by omega)⟩
      | _ => exact h
theorem open_any {r : Reach} {b0 : Nat} {t : TypeId} {v : Value} (hL : ∀ e n, okL e n → n * P.bytesOf e ≤ 140737488351232) (hS : ∀ n, okS n → n ≤ SLIM) (hp : plainTy P 12 t = true) (hv : Value.okWide P w r b0 t v) (h : ∃ n, Sees P w okS okL n t v.cells.toList) : Opened P w okS okL t v := by
  obtain ⟨n, h⟩ := h
  have h' := sees_more n t _ (max n 12) h (by omega)
  have hp' := plain_more 12 t (max n 12) hp (by omega)
  obtain ⟨us, t1, c1⟩ := sees_typed hL hS _ t _ hp' h'
  refine ⟨_, us, t1, ?_⟩
  have one : us.length = 1 → v.cells = #[v] → Fz (fun _ => False) w (us.headD .und) v := fun h1 e => by
    match us, h1 with
    | [u], _ =>
      rw [e] at c1
      exact c1.2.2 0 u v rfl rfl
  have one' : v.cells = #[v] → Fz (fun _ => False) w (us.headD .und) v := fun e => one (by rw [c1.1, e]; rfl) e
  unfold mkEl aggT
  unfold plainTy at hp
  cases hu : P.underlying t with
  | none => rw [hu] at hp; cases hp
  | some d =>
    rw [hu] at hp
    have agg : (∃ cs : Array Value, v = .agg cs) → Fz (fun _ => False) w (.agg us) v := fun ⟨cs, e⟩ => by
      subst e
      exact .agg (by simpa [Value.cells] using c1.1) c1.2.1 (fun i u c hu hc => c1.2.2 i u c hu (by simpa [Value.cells] using hc))
    cases d with
    | bool => obtain ⟨b, rfl⟩ := okWide_bool hu hv; exact one' rfl
    | int k => obtain ⟨b, rfl⟩ := okWide_int hu hv; exact one' rfl
    | string => obtain ⟨b, rfl⟩ := okWide_string hu hv; exact one' rfl
    | slice e => obtain ⟨A, l, c, rfl⟩ := okWide_slice hu hv; exact one' rfl
    | struct fs => obtain ⟨cs, h1, _⟩ := okWide_struct hu hv; exact agg ⟨cs, h1⟩
    | array m e =>
      refine agg ?_
      simp only [Value.okWide, hu] at hv
      obtain ⟨cs, h1, _⟩ := hv
      exact ⟨cs, h1⟩
    | _ => cases hp

/-! ### Reading trees off -/
variable {n : Nat} {t : TypeId} {us : List V}
theorem ty_bool (ht : P.underlying t = some .bool) (h : Typed P okS okL n t us) : ∃ b, us = [.bool b] := by
  cases n with
  | zero => exact h.elim
  | succ n => unfold Typed at h; rw [ht] at h; exact h
theorem ty_int {k : IntKind} (ht : P.underlying t = some (.int k)) (h : Typed P okS okL n t us) : ∃ i, us = [.int k i] := by
  cases n with
  | zero => exact h.elim
  | succ n => unfold Typed at h; rw [ht] at h; exact h
theorem ty_str (ht : P.underlying t = some .string) (h : Typed P okS okL n t us) : ∃ s, us = [.str s] ∧ okS s.size := by
  cases n with
  | zero => exact h.elim
  | succ n => unfold Typed at h; rw [ht] at h; exact h
theorem ty_struct {fs : Array Field} (ht : P.underlying t = some (.struct fs)) (h : Typed P okS okL n t us) : ∃ m, us.length = P.cellsOf t ∧ ∀ (j : Nat) (f : Field), fs[j]? = some f → Typed P okS okL m f.type ((us.drop f.offset).take (P.cellsOf f.type)) := by
  cases n with
  | zero => exact h.elim
  | succ n => unfold Typed at h; rw [ht] at h; exact ⟨n, h⟩
theorem ty_array {m e : Nat} (ht : P.underlying t = some (.array m e)) (h : Typed P okS okL n t us) : ∃ q, us.length = P.cellsOf t ∧ ∀ i, i < m → Typed P okS okL q e ((us.drop (i * P.cellsOf e)).take (P.cellsOf e)) := by
  cases n with
  | zero => exact h.elim
  | succ n => unfold Typed at h; rw [ht] at h; exact ⟨n, h⟩
theorem ty_field {fs : Array Field} {m : Nat} (hf : ∀ (j : Nat) (f : Field), fs[j]? = some f → Typed P okS okL m f.type ((us.drop f.offset).take (P.cellsOf f.type))) (j : Nat) {f : Field} (off sz : Nat) (ty : TypeId) (hj : fs[j]? = some f) (ho : f.offset = off) (ht : f.type = ty) (hs : P.cellsOf ty = sz) : Typed P okS okL m ty ((us.drop off).take sz) := by
  subst ho ht hs; exact hf j f hj
/-- A slice whose elements say what enc writes; Q, what is known of each. -/
theorem ty_slice {e : TypeId} {α : Type} (enc : α → V) (Q : α → Prop) (ht : P.underlying t = some (.slice e)) (h : Typed P okS okL n t us) (hd : ∀ m x, Typed P okS okL m e x → ∃ a, mkEl (aggT P e) x = enc a ∧ Q a) : ∃ L : List α, us = [.fro (L.map enc)] ∧ (∀ a ∈ L, Q a) ∧ ∃ c, L.length ≤ c ∧ (c = 0 ∨ okL e c) := by
  cases n with
  | zero => exact h.elim
  | succ n =>
    unfold Typed at h; rw [ht] at h
    obtain ⟨L, rfl, h1, h2, h3⟩ := h
    have : ∀ L : List (List V), (∀ x ∈ L, Typed P okS okL n e x) → ∃ M : List α, M.length = L.length ∧ L.map (mkEl (aggT P e)) = M.map enc ∧ ∀ a ∈ M, Q a := fun L => by
      induction L with
      | nil => exact fun _ => ⟨[], rfl, rfl, by simp⟩
      | cons x L ih =>
        intro hx
        obtain ⟨a, ha, hq⟩ := hd n x (hx x (by simp))
        obtain ⟨M, m1, m2, m3⟩ := ih fun y hy => hx y (by simp [hy])
        exact ⟨a :: M, by simp [m1], by simp [m2, ha], fun b hb => by
          rcases List.mem_cons.1 hb with rfl | hb
          · exact hq
          · exact m3 b hb⟩
    obtain ⟨M, m1, m2, m3⟩ := this L h3
    exact ⟨M, by rw [m2], m3, by rw [m1]; exact h1⟩
theorem mk_one {e : TypeId} {u : V} (h : aggT P e = false) : mkEl (aggT P e) [u] = u := by rw [h]; rfl
theorem mk_agg {e : TypeId} {us : List V} (h : aggT P e = true) : mkEl (aggT P e) us = .agg us := by rw [h]; rfl
/-- All that is handed. -/
inductive FzAll (w : World) : List V → List Value → Prop
  | nil : FzAll w [] []
  | cons {u v us vs} : Fz (fun _ => False) w u v → FzAll w us vs → FzAll w (u :: us) (v :: vs)
theorem FzAll.len {us : List V} {vs : List Value} (h : FzAll w us vs) : us.length = vs.length := by
  induction h with
  | nil => rfl
  | cons _ _ ih => simp [ih]
theorem FzAll.at {us : List V} {vs : List Value} (h : FzAll w us vs) : ∀ (i : Nat) u v, us[i]? = some u → vs[i]? = some v → Fz (fun _ => False) w u v := by
  induction h with
  | nil => intro i u v h; simp at h
  | cons h1 _ ih =>
    intro i u v hu hv
    rcases i with _ | i
    · simp at hu hv; subst hu hv; exact h1
    · exact ih i u v (by simpa using hu) (by simpa using hv)
theorem law_callsG {g : Glob} {f : FuncId} {us : List V} {vs : List Value} (h : ACallsG P g f us (.bool true)) (hG : GlOk g (fun _ => False) w) (hv : FzAll w us vs) : Calls P f vs.toArray w (Gives (.bool true) w) :=
  (h (fun _ => False) w vs.toArray hG (fun _ h => h.elim) (by simpa using hv.len) fun i u x hu hx => hv.at i u x hu (by simpa using hx)).mono fun e w' ⟨x, h1, h2, h3⟩ => ⟨by rw [h1, fz_bool h3], h2⟩
def noGlob : Glob := ⟨0, fun _ => True⟩
theorem noGlob_ok {X : Nat → Prop} : GlOk noGlob X w := ⟨Nat.zero_le _, fun _ _ => Nat.zero_le _, trivial⟩
theorem law_calls {f : FuncId} {us : List V} {vs : List Value} (h : ACalls P f us (.bool true)) (hv : FzAll w us vs) : Calls P f vs.toArray w (Gives (.bool true) w) := law_callsG (h noGlob) noGlob_ok hv
end
end Go.Proofs.YtefcfickggnmjaaDoor.Abs
