/- Headers: what is written is read as it was; what was read may be written; a part more is an attribute more. Plain. -/
import Derived.Test.YtbacakgjhohedaaDoorHeadP
namespace Go.Proofs.YtbacakgjhohedaaDoor.HeadL
open Abs TreeW WordP WordS HeadP

theorem contains_iff {l : List UInt8} {c : UInt8} : l.contains c = false ↔ c ∉ l := by
  rw [← Bool.not_eq_true, List.contains_iff_mem]
theorem letF_iff {l : List UInt8} : letF l = true ↔ ∀ c ∈ l, badB c = false := by
  unfold letF
  rw [List.all_eq_true]
  exact ⟨fun h c hc => by simpa using h c hc, fun h c hc => by simpa using h c hc⟩
/-- A text that stands as it is in a part. -/
def Fits (l : List UInt8) : Prop := ∀ c ∈ l, badB c = false ∧ c ≠ 59
theorem plain_iff {l : List UInt8} : plainF l = true ↔ trim l = l ∧ Fits l := by
  unfold plainF Fits
  rw [Bool.and_eq_true, Bool.and_eq_true, decide_eq_true_eq, letF_iff, Bool.not_eq_true', contains_iff]
  constructor
  · rintro ⟨h1, h2, h3⟩
    exact ⟨h1, fun c hc => ⟨h2 c hc, fun e => h3 (e ▸ hc)⟩⟩
  · rintro ⟨h1, h2⟩
    exact ⟨h1, fun c hc => (h2 c hc).1, fun h => (h2 59 h).2 rfl⟩
theorem named_iff {l : List UInt8} : namedF l = true ↔ l ≠ [] ∧ trim l = l ∧ Fits l ∧ 61 ∉ l := by
  unfold namedF
  rw [Bool.and_eq_true, Bool.and_eq_true, Bool.not_eq_true', decide_eq_false_iff_not, plain_iff, Bool.not_eq_true', contains_iff]
  constructor
  · rintro ⟨h1, ⟨h2, h3⟩, h4⟩; exact ⟨h1, h2, h3, h4⟩
  · rintro ⟨h1, h2, h3, h4⟩; exact ⟨h1, ⟨h2, h3⟩, h4⟩
theorem okA_iff {a : Attr} : okA a = true ↔ namedF a.name = true ∧ fold a.name = a.name ∧ plainF a.value = true := by
  unfold okA
  rw [Bool.and_eq_true, Bool.and_eq_true, decide_eq_true_eq]
theorem check_iff {r : Raw} : checkF r = 0 ↔ namedF r.name = true ∧ plainF r.value = true ∧ (∀ a ∈ r.attrs, okA a = true) ∧ r.attrs.length ≤ 12 := by
  unfold checkF
  constructor
  · intro h
    split at h
    · rename_i h1
      rw [Bool.and_eq_true, Bool.and_eq_true, List.all_eq_true] at h1
      split at h
      · cases h
      · exact ⟨h1.1, h1.2.1, h1.2.2, by omega⟩
    · cases h
  · rintro ⟨h1, h2, h3, h4⟩
    have : (namedF r.name && (plainF r.value && r.attrs.all okA)) = true := by
      rw [Bool.and_eq_true, Bool.and_eq_true, List.all_eq_true]; exact ⟨h1, h2, h3⟩
    rw [if_pos this, if_neg (by omega)]
/-! ### Parts -/
theorem split_cat {c : UInt8} {g : Attr → List UInt8} : ∀ {L : List Attr} {a : List UInt8}, c ∉ a → (∀ x ∈ L, c ∉ g x) → split c (a ++ L.flatMap fun x => c :: g x) = a :: L.map g
  | [], a, h, _ => by simpa using split_none c a (contains_iff.2 h)
  | x :: L, a, h, k => by
    have ih := split_cat (L := L) (k x (by simp)) fun y hy => k y (by simp [hy])
    rw [List.flatMap_cons, List.cons_append, split_app c a _ (contains_iff.2 h), ih]
    rfl
theorem split_no {c : UInt8} : ∀ (n : Nat) (l : List UInt8), l.length < n → ∀ x ∈ split c l, c ∉ x ∧ ∀ b ∈ x, b ∈ l
  | 0, _, h, _, _ => absurd h (Nat.not_lt_zero _)
  | n + 1, l, h, x, hx => by
    rcases first_at c l with h1 | ⟨a, r, rfl, h1⟩
    · rw [split_none c l h1, List.mem_singleton] at hx
      subst hx
      exact ⟨contains_iff.1 h1, fun b hb => hb⟩
    · rw [split_app c a r h1, List.mem_cons] at hx
      rcases hx with rfl | hx
      · exact ⟨contains_iff.1 h1, fun b hb => by simp [hb]⟩
      · obtain ⟨h2, h3⟩ := split_no n r (by simp at h; omega) x hx
        exact ⟨h2, fun b hb => by simp [h3 b hb]⟩
theorem rdrop_mem {p : UInt8 → Bool} {l : List UInt8} {b : UInt8} (h : b ∈ rdrop p l) : b ∈ l := by
  unfold rdrop at h
  rw [List.mem_reverse] at h
  exact List.mem_reverse.1 ((List.dropWhile_sublist p).subset h)
theorem trim_mem {l : List UInt8} {b : UInt8} (h : b ∈ trim l) : b ∈ l := (List.dropWhile_sublist _).subset (rdrop_mem h)
theorem cut_mem {l : List UInt8} : (∀ b ∈ (cutF 61 l).1, b ∈ l ∧ ((cutF 61 l).2.2 = true → b ≠ 61)) ∧ (∀ b ∈ (cutF 61 l).2.1, b ∈ l) ∧ 61 ∉ (cutF 61 l).1 := by
  rcases first_at 61 l with h | ⟨a, r, rfl, h⟩
  · rw [cutF_none h]
    exact ⟨fun b hb => ⟨hb, fun e => by cases e⟩, fun b hb => (by simp at hb), contains_iff.1 h⟩
  · rw [cutF_at h]
    refine ⟨fun b hb => ⟨by simp [show b ∈ a from hb], fun _ e => contains_iff.1 h (e ▸ hb)⟩, fun b hb => by simp [show b ∈ r from hb], contains_iff.1 h⟩
theorem pair_fits {p : List UInt8} (h : Fits p) : Fits (pairF p).1 ∧ Fits (pairF p).2.1 ∧ 61 ∉ (pairF p).1 ∧ trim (pairF p).1 = (pairF p).1 ∧ trim (pairF p).2.1 = (pairF p).2.1 := by
  obtain ⟨h1, h2, h3⟩ := cut_mem (l := p)
  exact ⟨fun b hb => h b (h1 b (trim_mem hb)).1, fun b hb => h b (h2 b (trim_mem hb)), fun hb => h3 (trim_mem hb), trim_twice _, trim_twice _⟩
theorem foldB_bad (c : UInt8) : badB (foldB c) = badB c := by
  unfold badB
  have := foldB_nat c
  rw [this]
  split
  · rename_i h
    unfold badI
    have e1 : ((c.toNat + 32 : Nat) : Int) = (c.toNat : Int) + 32 := by simp
    rw [e1, decide_eq_false (by omega), decide_eq_false (by omega), decide_eq_false (by omega), decide_eq_false (by omega), decide_eq_false (by omega), decide_eq_false (by omega)]
  · rfl
theorem foldB_sign {c d : UInt8} (hd : d = 59 ∨ d = 61) (h : foldB c = d) : c = d := by
  have h1 := foldB_nat c
  rw [h] at h1
  split at h1
  · rcases hd with rfl | rfl <;> simp at h1 <;> omega
  · exact UInt8.toNat.inj h1.symm
theorem fold_fits {l : List UInt8} (h : Fits l) : Fits (fold l) := fun b hb => by
  obtain ⟨c, hc, rfl⟩ := List.mem_map.1 hb
  exact ⟨by rw [foldB_bad]; exact (h c hc).1, fun e => (h c hc).2 (foldB_sign (.inl rfl) e)⟩
theorem fold_no {l : List UInt8} (h : 61 ∉ l) : 61 ∉ fold l := fun hb => by
  obtain ⟨c, hc, e⟩ := List.mem_map.1 hb
  exact h (foldB_sign (.inr rfl) e ▸ hc)
theorem attr_ok {p : List UInt8} (h : Fits p) {a : Attr} (ha : attrF p = some a) : okA a = true := by
  obtain ⟨h1, h2, h3, h4, h5⟩ := pair_fits h
  unfold attrF at ha
  split at ha
  · cases ha
  rename_i hne
  cases ha
  refine okA_iff.2 ⟨named_iff.2 ⟨hne, ?_, fold_fits h1, fold_no h3⟩, fold_twice _, plain_iff.2 ⟨h5, h2⟩⟩
  show trim (fold (pairF p).1) = fold (pairF p).1
  rw [trim_fold, h4]
theorem blank_trim (l : List UInt8) : trim (32 :: l) = trim l := by
  unfold trim
  rw [List.dropWhile_cons, if_pos (by decide)]
theorem fits_app {a b : List UInt8} : Fits (a ++ b) ↔ Fits a ∧ Fits b := ⟨fun h => ⟨fun c hc => h c (by simp [hc]), fun c hc => h c (by simp [hc])⟩, fun h c hc => by
  rcases List.mem_append.1 hc with hc | hc
  · exact h.1 c hc
  · exact h.2 c hc⟩
theorem pair_at {n v : List UInt8} (h : 61 ∉ n) : pairF (n ++ 61 :: v) = (trim n, trim v, true) := by
  unfold pairF
  rw [cutF_at (contains_iff.2 h)]
theorem pair_one {n : List UInt8} (h : 61 ∉ n) : pairF n = (trim n, [], false) := by
  unfold pairF
  rw [cutF_none (contains_iff.2 h)]
  rfl
def partT (a : Attr) : List UInt8 := 32 :: a.name ++ (if a.value = [] then [] else 61 :: a.value)
theorem attrT_eq : (fun a => attrT a) = fun a => 59 :: partT a := by funext a; simp [attrT, partT]
theorem part_fits {a : Attr} (h : okA a = true) : Fits (partT a) := by
  obtain ⟨h1, _, h3⟩ := okA_iff.1 h
  obtain ⟨_, _, f1, _⟩ := named_iff.1 h1
  obtain ⟨_, f2⟩ := plain_iff.1 h3
  unfold partT
  refine fits_app.2 ⟨fun c hc => ?_, ?_⟩
  · rcases List.mem_cons.1 hc with rfl | hc
    · exact ⟨by decide, by decide⟩
    · exact f1 c hc
  · split
    · exact fun c hc => by simp at hc
    · intro c hc
      rcases List.mem_cons.1 hc with rfl | hc
      · exact ⟨by decide, by decide⟩
      · exact f2 c hc
theorem attr_part {a : Attr} (h : okA a = true) : attrF (partT a) = some a := by
  obtain ⟨h1, h2, h3⟩ := okA_iff.1 h
  obtain ⟨g1, g2, _, g4⟩ := named_iff.1 h1
  obtain ⟨g5, _⟩ := plain_iff.1 h3
  obtain ⟨n, v⟩ := a
  dsimp only at *
  have h61 : 61 ∉ (32 :: n : List UInt8) := by
    intro e
    rcases List.mem_cons.1 e with e | e
    · exact absurd e (by decide)
    · exact g4 e
  unfold attrF partT
  by_cases hv : v = []
  · subst hv
    dsimp only
    rw [if_pos rfl, List.append_nil, pair_one h61, blank_trim, g2, h2, if_neg g1]
  · dsimp only
    rw [if_neg hv, pair_at h61, blank_trim, g2, h2, if_neg g1, g5]
theorem read_of {s p : List UInt8} {r : List (List UInt8)} (h1 : s.length ≤ 400) (h2 : letF s = true) (h3 : split 59 s = p :: r) : rawF s = if (pairF p).2.2 = false ∨ (pairF p).1 = [] then (raw0, 1) else if 12 < (r.filterMap attrF).length then (raw0, 2) else (⟨(pairF p).1, (pairF p).2.1, r.filterMap attrF⟩, 0) := by
  unfold rawF; rw [if_neg (by omega), if_neg (by rw [h2]; simp), h3]
theorem filter_self {L : List Attr} (h : ∀ a ∈ L, okA a = true) : (L.map partT).filterMap attrF = L := by
  induction L with
  | nil => rfl
  | cons a L ih => rw [List.map_cons, List.filterMap_cons, attr_part (h a (by simp)), ih fun b hb => h b (by simp [hb])]
theorem fits_let {l : List UInt8} (h : Fits l) : letF l = true := letF_iff.2 fun c hc => (h c hc).1
/-- What is written is read as it was. -/
theorem back {r : Raw} (h : checkF r = 0) (hl : (textF r).length ≤ 400) : rawF (textF r) = (r, 0) := by
  obtain ⟨h1, h2, h3, h4⟩ := check_iff.1 h
  obtain ⟨n, v, L⟩ := r
  dsimp only at *
  obtain ⟨g1, g2, g3, g4⟩ := named_iff.1 h1
  obtain ⟨f1, f2⟩ := plain_iff.1 h2
  have hnv : Fits (n ++ 61 :: v) := fits_app.2 ⟨g3, fun c hc => by
    rcases List.mem_cons.1 hc with rfl | hc
    · exact ⟨by decide, by decide⟩
    · exact f2 c hc⟩
  have e : textF ⟨n, v, L⟩ = (n ++ 61 :: v) ++ L.flatMap fun x => 59 :: partT x := by
    unfold textF
    show n ++ 61 :: v ++ L.flatMap (fun a => attrT a) = _
    rw [attrT_eq]
  have hs : split 59 (textF ⟨n, v, L⟩) = (n ++ 61 :: v) :: L.map partT := by
    rw [e]
    exact split_cat (fun hc => (hnv 59 hc).2 rfl) fun x hx hc => (part_fits (h3 x hx) 59 hc).2 rfl
  have hlet : letF (textF ⟨n, v, L⟩) = true := by
    refine letF_iff.2 fun c hc => ?_
    rw [e, List.mem_append, List.mem_flatMap] at hc
    rcases hc with hc | ⟨x, hx, hc⟩
    · exact (hnv c hc).1
    · rcases List.mem_cons.1 hc with rfl | hc
      · decide
      · exact (part_fits (h3 x hx) c hc).1
  rw [read_of hl hlet hs, pair_at g4, filter_self h3, g2, f1, if_neg (fun h => h.elim (fun h => by cases h) g1), if_neg (by omega)]
/-- What was read. -/
theorem read_is {s : List UInt8} {r : Raw} (h : rawF s = (r, 0)) : s.length ≤ 400 ∧ letF s = true ∧ ∃ p q, split 59 s = p :: q ∧ (pairF p).2.2 = true ∧ (pairF p).1 ≠ [] ∧ (q.filterMap attrF).length ≤ 12 ∧ r = ⟨(pairF p).1, (pairF p).2.1, q.filterMap attrF⟩ := by
  by_cases h0 : 400 < s.length
  · unfold rawF at h; rw [if_pos h0] at h; cases h
  cases hle : letF s with
  | false => unfold rawF at h; rw [if_neg h0, if_pos hle] at h; cases h
  | true =>
    cases hs : split 59 s with
    | nil => exact absurd hs (split_ne 59 s)
    | cons p q =>
      rw [read_of (by omega) hle hs] at h
      refine ⟨by omega, rfl, p, q, rfl, ?_⟩
      split at h
      · cases h
      rename_i h1
      split at h
      · cases h
      rename_i h2
      injection h with h3 _
      exact ⟨by simpa using fun e => h1 (.inl e), fun e => h1 (.inr e), by omega, h3.symm⟩
theorem part_fit {s : List UInt8} (h : letF s = true) {x : List UInt8} (hx : x ∈ split 59 s) : Fits x := by
  obtain ⟨h1, h2⟩ := split_no (s.length + 1) s (Nat.lt_succ_self _) x hx
  exact fun c hc => ⟨letF_iff.1 h c (h2 c hc), fun e => h1 (e ▸ hc)⟩
/-- What was read may be written. -/
theorem read_check {s : List UInt8} {r : Raw} (h : rawF s = (r, 0)) : checkF r = 0 := by
  obtain ⟨h1, h2, p, q, h3, h4, h5, h6, rfl⟩ := read_is h
  have hp := pair_fits (part_fit h2 (x := p) (by rw [h3]; simp))
  refine check_iff.2 ⟨named_iff.2 ⟨h5, hp.2.2.2.1, hp.1, hp.2.2.1⟩, plain_iff.2 ⟨hp.2.2.2.2, hp.2.1⟩, fun a ha => ?_, h6⟩
  obtain ⟨x, hx, e⟩ := List.mem_filterMap.1 ha
  exact attr_ok (part_fit h2 (x := x) (by rw [h3]; simp [hx])) e
theorem read_small {s : List UInt8} {r : Raw} (h : rawF s = (r, 0)) : r.name.length ≤ 400 ∧ r.value.length ≤ 400 ∧ ∀ a ∈ r.attrs, a.name.length ≤ 400 ∧ a.value.length ≤ 400 := by
  obtain ⟨h1, h2, p, q, h3, h4, h5, h6, rfl⟩ := read_is h
  have hl : ∀ x ∈ split 59 s, x.length ≤ s.length := TreeW.split_in fun _ _ => trivial
  have hp := pair_len p
  have hpl := hl p (by rw [h3]; simp)
  refine ⟨by show (pairF p).1.length ≤ 400; omega, by show (pairF p).2.1.length ≤ 400; omega, fun a ha => ?_⟩
  obtain ⟨x, hx, e⟩ := List.mem_filterMap.1 ha
  have hx2 := pair_len x
  have hxl := hl x (by rw [h3]; simp [hx])
  unfold attrF at e
  split at e <;> cases e
  have hf : (fold (pairF x).1).length = (pairF x).1.length := fold_len _
  exact ⟨by show (fold (pairF x).1).length ≤ 400; omega, by show (pairF x).2.1.length ≤ 400; omega⟩
/-- A part more. -/
theorem adds {s : List UInt8} {r : Raw} {a : Attr} (h : rawF s = (r, 0)) (ha : okA a = true) : rawF ((((s ++ [59]) ++ a.name) ++ [61]) ++ a.value) = (raw0, 2) ∨ rawF ((((s ++ [59]) ++ a.name) ++ [61]) ++ a.value) = (⟨r.name, r.value, r.attrs ++ [a]⟩, 0) := by
  obtain ⟨h1, h2, p, q, h3, h4, h5, h6, rfl⟩ := read_is h
  obtain ⟨k1, k2, k3⟩ := okA_iff.1 ha
  obtain ⟨g1, g2, g3, g4⟩ := named_iff.1 k1
  obtain ⟨f1, f2⟩ := plain_iff.1 k3
  have e : (((s ++ [59]) ++ a.name) ++ [61]) ++ a.value = s ++ 59 :: (a.name ++ 61 :: a.value) := by simp
  rw [e]
  have hfit : Fits (a.name ++ 61 :: a.value) := fits_app.2 ⟨g3, fun c hc => by
    rcases List.mem_cons.1 hc with rfl | hc
    · exact ⟨by decide, by decide⟩
    · exact f2 c hc⟩
  have hs : split 59 (s ++ 59 :: (a.name ++ 61 :: a.value)) = p :: (q ++ [a.name ++ 61 :: a.value]) := by
    rw [split_mid, h3, split_none _ _ (contains_iff.2 fun hc => (hfit 59 hc).2 rfl)]; rfl
  have hlet : letF (s ++ 59 :: (a.name ++ 61 :: a.value)) = true := by
    refine letF_iff.2 fun c hc => ?_
    rcases List.mem_append.1 hc with hc | hc
    · exact letF_iff.1 h2 c hc
    · rcases List.mem_cons.1 hc with rfl | hc
      · decide
      · exact (hfit c hc).1
  by_cases hl : 400 < (s ++ 59 :: (a.name ++ 61 :: a.value)).length
  · left; unfold rawF; rw [if_pos hl]
  · have hat : attrF (a.name ++ 61 :: a.value) = some a := by
      unfold attrF
      rw [pair_at g4, g2, k2, if_neg g1, f1]
    have hfm : (q ++ [a.name ++ 61 :: a.value]).filterMap attrF = q.filterMap attrF ++ [a] := by
      rw [List.filterMap_append]; simp [hat]
    rw [read_of (by omega) hlet hs, if_neg (fun h => h.elim (fun h => by rw [h4] at h; cases h) h5), hfm]
    split
    · exact .inl rfl
    · exact .inr rfl
end Go.Proofs.YtbacakgjhohedaaDoor.HeadL
